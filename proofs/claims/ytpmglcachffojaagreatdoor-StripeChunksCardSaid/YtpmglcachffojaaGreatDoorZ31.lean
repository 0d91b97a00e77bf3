/- A part of what Chunks leans on. -/
import Derived.Test.YtpmglcachffojaaGreatDoorZ28
set_option maxRecDepth 100000
set_option maxHeartbeats 16000000
namespace Go.Proofs.YtpmglcachffojaaGreatDoor
section
open Go Go.RowKit
def colC (k : Int) (l : List VV) : Int × Int × List (Int × List UInt8) :=
 if 1 ≤ k ∧ k ≤ 5 then (1, 0, [(1, yyI l), (2, vvY k (l.filter zzw))])
 else ((txC ((l.filter zzw).map (·.s))).1, (txC ((l.filter zzw).map (·.s))).2.1, (1, yyI l) :: (txC ((l.filter zzw).map (·.s))).2.2)
def colE (k : Int) (l : List VV) : Int := if 1 ≤ k ∧ k ≤ 7 then (if l.all (mayV k) then 0 else 21) else 1
def colR (k : Int) (l : List VV) : Int × Int × Int × List (Int × List UInt8) := if colE k l = 0 then ((l.length : Int), colC k l) else (0, 0, 0, [])
def xx5 (k : Int) (l : List VV) (w : World) (e : Ending) (w' : World) : Prop :=
 ∃ A n c, e = .returned (.tuple #[.agg #[.int .i64 (colR k l).1, .int .i64 (colR k l).2.1, .int .i64 (colR k l).2.2.1, .slice A n c], .int .i64 (colE k l)]) ∧ Sl zzm (fun b => w.heap.size ≤ b) w' A n c (colR k l).2.2.2 ∧ Below w.heap.size w w'
structure ColW (k : Int) (w wc : World) : Prop where
 eq : wc = (w.alloc (.cells #[.int .i64 k] 3)).alloc (.cells #[.int .i64 0, .int .i64 0, .int .i64 0, .slice none 0 0] 27)
 below : Below w.heap.size w wc
 size : wc.heap.size = w.heap.size + 2
 box : wc.cell? ⟨w.heap.size, 0, none⟩ = some (.int .i64 k)
 col : wc.heap[w.heap.size + 1]? = some (.cells #[.int .i64 0, .int .i64 0, .int .i64 0, .slice none 0 0] 27 (0, 0))
theorem colW (k : Int) (w : World) : ∃ wc, ColW k w wc := by
 refine ⟨_, rfl, ?_, by simp, ?_, ?_⟩
 · have hb1 : Below w.heap.size w (w.alloc (.cells #[.int .i64 k] 3)) := (zR).alloc zN _
   exact hb1.alloc hb1.size _
 · have hgk : ((w.alloc (.cells #[.int .i64 k] 3)).alloc (.cells #[.int .i64 0, .int .i64 0, .int .i64 0, .slice none 0 0] 27)).heap[w.heap.size]? = some (.cells #[.int .i64 k] 3 (0, 0)) := (Below.heap_alloc _ _ _ (by simp)).trans (heap_alloc_new w _)
   rw [zC hgk]; rfl
 · have := heap_alloc_new (w.alloc (.cells #[.int .i64 k] 3)) (.cells #[.int .i64 0, .int .i64 0, .int .i64 0, .slice none 0 0] 27)
   rwa [zS] at this
theorem cput_no (k : Int) (F : Nat → Prop) (A : Option Addr) (n c : Nat) (l : List VV) (w : World) (h : Sl tVV F w A n c l) (hn : n ≤ 4096) (hT : Lib.Utf8Tabs 0 1 w) (hno : ¬ colE k l = 0) :
 Calls Tryz.prog 12 #[.int .i64 k, .slice A n c] w (xx5 k l w) := by
 have hn1 : ¬ (n : Int) > 4096 := by omega
 have hn2 : ¬ (4096 : Int) < n := by omega
 obtain ⟨wc, hwc⟩ := colW k w
 have HWC := zH hwc
 have HH := zH (h.below hwc.below zN); have HT := zH (zze hT hwc.below)
 have HNO := zH hno
 have HR := zH (show colR k l = (0, 0, 0, []) from if_neg hno)
 have hcol := hwc.col
 have hbox := hwc.box
 by_cases hk : 1 ≤ k ∧ k ≤ 7
 · have HP := zH (show decide (1 ≤ k ∧ k ≤ 7) = true from decide_eq_true hk)
   have hq : l.all (mayV k) = false := by
    cases hq : l.all (mayV k) with
    | false => rfl
    | true => exact absurd (by unfold colE; rw [if_pos hk, hq]; rfl) hno
   have HE := zH (show colE k l = 21 by unfold colE; rw [if_pos hk, hq]; rfl)
   have HQ := zH (show (!l.all (mayV k)) = true by rw [hq]; rfl)
   clear h hn hT hwc hno hq hk hcol
   go_enter Tryz.func12, Tryz.ntmps12
   go_upto_region 1 with fail
   rw [← HWC.out.eq]
   go_wp2_with (first
    | (go_at_call 38; refine (vvm _ _).mono ?_; rintro e w1 ⟨rfl, rfl⟩; rw [HP.out])
    | (go_at_call 39; refine (uuL k w.heap.size F A n c l _ HH.out hbox HT.out).mono ?_; rintro e w1 ⟨rfl, hb1⟩; rw [HQ.out]; have hg1 := (hb1.block _ (zzb HWC.out.col)).trans HWC.out.col; obtain ⟨⟨z0, y0⟩, ⟨z1, y1⟩, ⟨z2, y2⟩, ⟨z3, y3⟩⟩ := zzn hg1; have HG1 := zH hg1; have HB1 := zH (HWC.out.below.trans (hb1.mono HWC.out.below.size)); clear hg1 hb1)
    | fail)
   refine bodyPost_ret (zzC rfl _ _ (w.heap.size + 1) 27 #[.int .i64 0, .int .i64 0, .int .i64 0, .slice none 0 0] (0, 0) _ rfl (jjw HG1.out _ _ _ _) Tryz.underlying27 rfl (by kernel_rfl)) rfl ?_
   refine ⟨none, 0, 0, by rw [HR.out, HE.out]; rfl, by rw [HR.out]; exact Sl.nil_ _ _ _, zz2 HB1.out (by omega) _ _ _ _⟩
 · have HP := zH (show decide (1 ≤ k ∧ k ≤ 7) = false from decide_eq_false hk)
   have HE := zH (show colE k l = 1 from if_neg hk)
   have hcol2 : wc.heap[w.heap.size + 1]? = some (.cells #[.int .i64 0, .int .i64 0, .int .i64 0, .slice none 0 0] 27 (0, 0)) := hcol
   obtain ⟨⟨z0, y0⟩, ⟨z1, y1⟩, ⟨z2, y2⟩, ⟨z3, y3⟩⟩ := zzn hcol2
   clear h hn hT hwc hno hk hcol hcol2
   go_enter Tryz.func12, Tryz.ntmps12
   go_upto_region 1 with fail
   rw [← HWC.out.eq]
   go_wp2_with (first
    | (go_at_call 38; refine (vvm _ _).mono ?_; rintro e w1 ⟨rfl, rfl⟩; rw [HP.out])
    | fail)
   refine bodyPost_ret (zzC rfl _ _ (w.heap.size + 1) 27 #[.int .i64 0, .int .i64 0, .int .i64 0, .slice none 0 0] (0, 0) _ rfl (jjw HWC.out.col _ _ _ _) Tryz.underlying27 rfl (by kernel_rfl)) rfl ?_
   refine ⟨none, 0, 0, by rw [HR.out, HE.out]; rfl, by rw [HR.out]; exact Sl.nil_ _ _ _, zz2 HWC.out.below (by omega) _ _ _ _⟩
end
section
open Go Go.RowKit
theorem qzJ : ∀ (f : Nat) (b : List UInt8), (byF f b).length ≤ 2 * b.length
 | 0, _ => by simp [byF]
 | f + 1, [] => by simp [byF]
 | f + 1, c :: r => by
   rw [byF]
   by_cases h : 3 ≤ zzk (c :: r)
   · rw [if_pos h]
     have ih := qzJ f ((c :: r).drop (zzk (c :: r)))
     have := xxG (c :: r)
     rw [List.length_drop] at ih
     simp only [List.length_cons] at *
     omega
   · rw [if_neg h]
     have h1 := jjQ (b := c :: r) (by simp) (by omega)
     have h2 : litN (c :: r) ≤ (c :: r).length := (xqk 128 (c :: r)).1
     have ih := qzJ f ((c :: r).drop (litN (c :: r)))
     rw [List.length_drop] at ih
     have h3 : (litB (litN (c :: r)) (c :: r)).length ≤ litN (c :: r) + 1 := by
      unfold litB; rw [List.length_cons, List.length_take]; omega
     rw [List.length_append]
     simp only [List.length_cons] at *
     omega
theorem byB_len (b : List UInt8) : (byB b).length ≤ 2 * b.length := qzJ _ _
theorem kqP (l : List Bool) : (vvX l).length ≤ l.length + 1 := by
 unfold vvX; rw [xxb, List.length_map]; unfold zzx; omega
theorem presB_len (l : List VV) : (yyI l).length ≤ 2 * l.length + 2 := by
 unfold yyI
 split
 · have h1 := byB_len (vvX (l.map fun v => !v.null))
   have h2 := kqP (l.map fun v => !v.null)
   rw [List.length_map] at h2
   omega
 · simp
theorem intsB_len (k : Int) (l : List VV) : (vvY k l).length ≤ 20 * l.length + 2 := by
 unfold vvY
 split
 · have h1 := byB_len (vvX (l.map fun v => v.n == 1))
   have h2 := kqP (l.map fun v => v.n == 1)
   rw [List.length_map] at h2
   omega
 · split
   · have h1 := yyr true (l.map fun v => v.n / 1000)
     have h2 := yyr false (l.map fun v => v.n % 1000)
     rw [List.length_map] at h1 h2
     rw [List.length_append]; omega
   · have h1 := yyr true (l.map fun v => v.n)
     rw [List.length_map] at h1
     omega
theorem txC_bound (l : List ByteArray) (hs : ∀ s ∈ l, s.size ≤ 300) : ∀ x ∈ (txC l).2.2, x.2.length ≤ 300 * l.length := by
 have hw := kqN l
 have h1 := yy4 l hs
 have h2 := yy4 (zzp l) (xx3 hs)
 have h3 : (vvJ l).length ≤ 10 * l.length := by have := yyr false (l.map fun s => (s.size : Int)); rw [List.length_map] at this; exact this
 have h5 : (zzp l).length = (zzR l).length := by unfold zzp; rw [List.length_map]
 have h4 : (vvJ (zzp l)).length ≤ 10 * (zzp l).length := by have := yyr false ((zzp l).map fun s => (s.size : Int)); rw [List.length_map] at this; exact this
 have h6 := yyr false (l.map fun s : ByteArray => (yyk l s : Int))
 rw [List.length_map] at h6
 intro x hx
 unfold txC at hx
 split at hx
 · simp only [List.mem_cons, List.not_mem_nil, or_false] at hx
   rcases hx with rfl | rfl
   · exact h1
   · show (vvJ l).length ≤ _; omega
 · simp only [List.mem_cons, List.not_mem_nil, or_false] at hx
   rcases hx with rfl | rfl | rfl
   · show (rleB false _).length ≤ _; omega
   · show (vvJ _).length ≤ _; omega
   · show (zzK _).length ≤ _; omega
theorem qxx (k : Int) (l : List VV) : ∀ x ∈ (colR k l).2.2.2, x.2.length ≤ 300 * l.length + 2 := by
 have hp := presB_len l
 have hf := List.length_filter_le zzw l
 intro x hx
 unfold colR at hx
 split at hx
 · rename_i he
   unfold colC at hx
   split at hx
   · simp only [List.mem_cons, List.not_mem_nil, or_false] at hx
     rcases hx with rfl | rfl
     · show (yyI l).length ≤ _; omega
     · have := intsB_len k (l.filter zzw)
       show (vvY k _).length ≤ _; omega
   · rename_i hk
     rcases List.mem_cons.1 hx with rfl | hx
     · show (yyI l).length ≤ _; omega
     · have hk2 : k = 6 ∨ k = 7 := by
        unfold colE at he
        by_cases h7 : 1 ≤ k ∧ k ≤ 7
        · omega
        · rw [if_neg h7] at he; exact absurd he (by decide)
       have hall : l.all (mayV k) = true := by
        cases hq : l.all (mayV k) with
        | true => rfl
        | false =>
          unfold colE at he
          rw [if_pos (by omega), hq] at he
          exact absurd he (by decide)
       have := txC_bound ((l.filter zzw).map (·.s)) (fun s hs => by
        obtain ⟨v, hv, rfl⟩ := List.mem_map.1 hs
        obtain ⟨h1, h2⟩ := List.mem_filter.1 hv
        have h3 := List.all_eq_true.1 hall v h1
        have h2 : v.null = false := by simpa [zzw] using h2
        unfold mayV at h3
        rw [if_neg (by omega), if_pos hk2, h2] at h3
        simp at h3
        exact h3.2.1) x hx
       rw [List.length_map] at this
       omega
 · simp at hx
end
section
open Go Go.RowKit
structure StR (gs gt : Nat) (c : Int) (hn : Bool) (mn mx : VV) (S : Int) (w : World) : Prop where
 s : w.heap[gs]? = some (.cells #[.int .i64 c, .bool hn, .bool mn.null, .int .i64 mn.n, .string mn.s, .bool mx.null, .int .i64 mx.n, .string mx.s, .int .i64 0, .bool false] 109 (0, 0))
 t : w.heap[gt]? = some (.cells #[.int .i64 (tHi S), .int .u64 (tLo S : Nat)] 230 (0, 0))
theorem StR.call {gs gt : Nat} {c : Int} {hn : Bool} {mn mx : VV} {S : Int} {w w' : World} (h : StR gs gt c hn mn mx S w) (hb : Below w.heap.size w w') : StR gs gt c hn mn mx S w' :=
 ⟨(hb.block _ (zzb h.s)).trans h.s, (hb.block _ (zzb h.t)).trans h.t⟩
structure vvu (w0 : World) (gs gt : Nat) (c : Int) (hn : Bool) (mn mx : VV) (S : Int) (v : VV) (w : World) : Prop where
 st : StR gs gt c hn mn mx S w
 b : w.heap[w0.heap.size]? = some (.cells #[.bool v.null, .int .i64 v.n, .string v.s] 74 (0, 0))
 size : w0.heap.size ≤ w.heap.size
 keep : ∀ b, b < w0.heap.size → b ≠ gs → b ≠ gt → w.heap[b]? = w0.heap[b]?
 below : ∀ (a : World) (B : Nat), Below B a w0 → B ≤ gs → B ≤ gt → Below B a w
 lts : gs < w0.heap.size
 ltt : gt < w0.heap.size
 ne : gs ≠ gt
section
variable {w0 w w' : World} {gs gt : Nat} {c : Int} {hn : Bool} {mn mx : VV} {S : Int} {v : VV}
theorem vvu.call (h : vvu w0 gs gt c hn mn mx S v w) (hb : Below w.heap.size w w') : vvu w0 gs gt c hn mn mx S v w' :=
 ⟨h.st.call hb, (hb.block _ (zzb h.b)).trans h.b, Nat.le_trans h.size hb.size, fun b h1 h2 h3 => (hb.block b (Nat.lt_of_lt_of_le h1 h.size)).trans (h.keep b h1 h2 h3), fun a B h1 h2 h3 => (h.below a B h1 h2 h3).trans (hb.mono (Nat.le_trans (Nat.le_trans h2 (Nat.le_of_lt h.lts)) h.size)), h.lts, h.ltt, h.ne⟩
theorem vvu.drew (h : vvu w0 gs gt c hn mn mx S v w) : vvu w0 gs gt c hn mn mx S v w.drew := h.call ((zR).drew)
theorem vvu.init (h : StR gs gt c hn mn mx S w) (hne : gs ≠ gt) : vvu w gs gt c hn mn mx S v (w.alloc (.cells #[.bool v.null, .int .i64 v.n, .string v.s] 74)) :=
 ⟨h.call ((zR).alloc zN _), heap_alloc_new w _, by simp, fun b h1 _ _ => Below.heap_alloc w _ b h1, fun a B h1 h2 _ => h1.alloc (Nat.le_trans (Nat.le_trans h2 (Nat.le_of_lt (zzb h.s))) zN) _, zzb h.s, zzb h.t, hne⟩
theorem vvu.count (h : vvu w0 gs gt c hn mn mx S v w) : vvu w0 gs gt (c + 1) hn mn mx S v (w.setCell ⟨gs, 0, none⟩ (.int .i64 (c + 1))) :=
 ⟨⟨zza h.st.s rfl, (Below.heap_setCell _ _ _ _ h.ne.symm).trans h.st.t⟩, (Below.heap_setCell _ _ _ _ (by have := h.lts; show w0.heap.size ≠ gs; omega)).trans h.b, by simpa using h.size, fun b h1 h2 h3 => (Below.heap_setCell _ _ _ _ h2).trans (h.keep b h1 h2 h3), fun a B h1 h2 h3 => zzd (h.below a B h1 h2 h3) h2 _, h.lts, h.ltt, h.ne⟩
theorem vvu.minmax (h : vvu w0 gs gt c hn mn mx S v w) (mn' mx' : VV) : vvu w0 gs gt c hn mn' mx' S v ((((((w.setCell ⟨gs, 2, none⟩ (.bool mn'.null)).setCell ⟨gs, 3, none⟩ (.int .i64 mn'.n)).setCell ⟨gs, 4, none⟩ (.string mn'.s)).setCell ⟨gs, 5, none⟩ (.bool mx'.null)).setCell ⟨gs, 6, none⟩ (.int .i64 mx'.n)).setCell ⟨gs, 7, none⟩ (.string mx'.s)) := by
 have hgv : w0.heap.size ≠ gs := by have := h.lts; omega
 exact ⟨⟨(zza (cs' := #[.int .i64 c, .bool hn, .bool mn'.null, .int .i64 mn'.n, .string mn'.s, .bool mx'.null, .int .i64 mx'.n, .string mx'.s, .int .i64 0, .bool false]) (zza (cs' := #[.int .i64 c, .bool hn, .bool mn'.null, .int .i64 mn'.n, .string mn'.s, .bool mx'.null, .int .i64 mx'.n, .string mx.s, .int .i64 0, .bool false]) (zza (cs' := #[.int .i64 c, .bool hn, .bool mn'.null, .int .i64 mn'.n, .string mn'.s, .bool mx'.null, .int .i64 mx.n, .string mx.s, .int .i64 0, .bool false]) (zza (cs' := #[.int .i64 c, .bool hn, .bool mn'.null, .int .i64 mn'.n, .string mn'.s, .bool mx.null, .int .i64 mx.n, .string mx.s, .int .i64 0, .bool false]) (zza (cs' := #[.int .i64 c, .bool hn, .bool mn'.null, .int .i64 mn'.n, .string mn.s, .bool mx.null, .int .i64 mx.n, .string mx.s, .int .i64 0, .bool false]) (zza (cs' := #[.int .i64 c, .bool hn, .bool mn'.null, .int .i64 mn.n, .string mn.s, .bool mx.null, .int .i64 mx.n, .string mx.s, .int .i64 0, .bool false]) h.st.s rfl) rfl) rfl) rfl) rfl) rfl), ((Below.heap_setCell _ _ _ _ h.ne.symm).trans ((Below.heap_setCell _ _ _ _ h.ne.symm).trans ((Below.heap_setCell _ _ _ _ h.ne.symm).trans ((Below.heap_setCell _ _ _ _ h.ne.symm).trans ((Below.heap_setCell _ _ _ _ h.ne.symm).trans ((Below.heap_setCell _ _ _ _ h.ne.symm).trans h.st.t))))))⟩, ((Below.heap_setCell _ _ _ _ hgv).trans ((Below.heap_setCell _ _ _ _ hgv).trans ((Below.heap_setCell _ _ _ _ hgv).trans ((Below.heap_setCell _ _ _ _ hgv).trans ((Below.heap_setCell _ _ _ _ hgv).trans ((Below.heap_setCell _ _ _ _ hgv).trans h.b)))))), by simpa using h.size, fun b h1 h2 h3 => ((Below.heap_setCell _ _ _ _ h2).trans ((Below.heap_setCell _ _ _ _ h2).trans ((Below.heap_setCell _ _ _ _ h2).trans ((Below.heap_setCell _ _ _ _ h2).trans ((Below.heap_setCell _ _ _ _ h2).trans ((Below.heap_setCell _ _ _ _ h2).trans (h.keep b h1 h2 h3))))))), fun a B h1 h2 h3 => (zzd (zzd (zzd (zzd (zzd (zzd (h.below a B h1 h2 h3) h2 _) h2 _) h2 _) h2 _) h2 _) h2 _), h.lts, h.ltt, h.ne⟩
theorem vvu.total (h : vvu w0 gs gt c hn mn mx S v w) (S' : Int) : vvu w0 gs gt c hn mn mx S' v ((w.setCell ⟨gt, 0, none⟩ (.int .i64 (tHi S'))).setCell ⟨gt, 1, none⟩ (.int .u64 (tLo S' : Nat))) := by
 have hgv : w0.heap.size ≠ gt := by have := h.ltt; omega
 exact ⟨⟨(Below.heap_setCell _ _ _ _ h.ne).trans ((Below.heap_setCell _ _ _ _ h.ne).trans h.st.s), zza (zza h.st.t rfl) rfl⟩, (Below.heap_setCell _ _ _ _ hgv).trans ((Below.heap_setCell _ _ _ _ hgv).trans h.b), by simpa using h.size, fun b h1 h2 h3 => (Below.heap_setCell _ _ _ _ h3).trans ((Below.heap_setCell _ _ _ _ h3).trans (h.keep b h1 h2 h3)), fun a B h1 h2 h3 => zzd (zzd (h.below a B h1 h2 h3) h3 _) h3 _, h.lts, h.ltt, h.ne⟩
end
theorem note_any (gs gt : Nat) (c : Int) (hn : Bool) (mn mx : VV) (S : Int) (v : VV) (w : World) (h : StR gs gt c hn mn mx S w) (hne : gs ≠ gt) (hc : 0 ≤ c ∧ c ≤ 4096) (hS : -4096 ≤ tHi S ∧ tHi S ≤ 4096) (hv0 : -9223372036854775808 ≤ v.n) (hv1 : v.n ≤ 9223372036854775807) :
 Calls Tryz.prog 175 #[.agg #[.bool v.null, .int .i64 v.n, .string v.s], .pointer (some ⟨gs, 0, none⟩), .pointer (some ⟨gt, 0, none⟩)] w fun e w' => e = .returned (.tuple #[]) ∧ vvu w gs gt (c + 1) hn (vvZ (-1) mn v) (vvZ 1 mx v) (S + v.n) v w' := by
 obtain ⟨mn', hmn'⟩ : ∃ mn', mn' = vvZ (-1) mn v := ⟨_, rfl⟩
 obtain ⟨mx', hmx'⟩ : ∃ mx', mx' = vvZ 1 mx v := ⟨_, rfl⟩
 rw [← hmn', ← hmx']
 have HMN := zH hmn'; have HMX := zH hmx'
 obtain ⟨w1, hw1⟩ : ∃ w1, w1 = w.alloc (.cells #[.bool v.null, .int .i64 v.n, .string v.s] 74) := ⟨_, rfl⟩
 have hn1 : vvu w gs gt c hn mn mx S v w1 := by rw [hw1]; exact vvu.init h hne
 have HN1 := zH hn1; have HW1 := zH hw1
 have HADD := zH (tadd_any S v.n hv0 hv1 hS)
 obtain ⟨hc0, hc1⟩ := hc
 have hs1 := hn1.st.s
 obtain ⟨⟨s0, a0⟩, ⟨s1, a1⟩, ⟨s2, a2⟩, ⟨s3, a3⟩, ⟨s4, a4⟩, ⟨s5, a5⟩, ⟨s6, a6⟩, ⟨s7, a7⟩, ⟨s8, a8⟩, ⟨s9, a9⟩⟩ := yyg hs1
 clear hmn' hmx' hw1 hn1 hs1 h hS hv0 hv1
 go_enter Tryz.func175, Tryz.ntmps175
 go_upto_region 1 with fail
 rw [← HW1.out]
 go_upto_region 2 with fail
 clear s0 a0 s1 a1 s2 a2 s3 a3 s4 a4 s5 a5 s6 a6 s7 a7 s8 a8 s9 a9
 obtain ⟨w2, hw2⟩ : ∃ w2, w2 = w1.setCell ⟨gs, 0, none⟩ (.int .i64 (c + 1)) := ⟨_, rfl⟩
 have hn2 := HN1.out.count
 rw [← hw2] at hn2 ⊢
 have HN2 := zH hn2
 have hs2 := hn2.st.s; have hb2 := hn2.b
 obtain ⟨⟨s0, a0⟩, ⟨s1, a1⟩, ⟨s2, a2⟩, ⟨s3, a3⟩, ⟨s4, a4⟩, ⟨s5, a5⟩, ⟨s6, a6⟩, ⟨s7, a7⟩, ⟨s8, a8⟩, ⟨s9, a9⟩⟩ := yyg hs2
 obtain ⟨⟨b0, _⟩, ⟨b1, _⟩, ⟨b2, _⟩⟩ := vvt hb2
 have hgv : gs ≠ w.heap.size := by have := hn2.lts; omega
 have hgv2 : w.heap.size ≠ gs := by have := hn2.lts; omega
 have bd0 : w2.drew.cell? ⟨w.heap.size, 0, none⟩ = some (.bool v.null) := b0
 have bd1 : w2.drew.cell? ⟨w.heap.size, 1, none⟩ = some (.int .i64 v.n) := b1
 have bd2 : w2.drew.cell? ⟨w.heap.size, 2, none⟩ = some (.string v.s) := b2
 clear hw2 hn2 hs2 hb2
 go_cut [] from 8 to 17 (fun wx => ∃ wd, wd = wx ∧ vvu w gs gt (c + 1) hn mn' mx' S v wd)
 case first =>
  refine regL [(some 3, fun w' => w'.cell? ⟨gs, 2, none⟩ = some (.bool mn.null) ∧ w'.cell? ⟨gs, 3, none⟩ = some (.int .i64 mn.n) ∧ w'.cell? ⟨gs, 4, none⟩ = some (.string mn.s)), (some 7, fun w' => w'.cell? ⟨gs, 5, none⟩ = some (.bool mx.null) ∧ w'.cell? ⟨gs, 6, none⟩ = some (.int .i64 mx.n) ∧ w'.cell? ⟨gs, 7, none⟩ = some (.string mx.s)), (some 3, fun w' => w'.cell? ⟨w.heap.size, 0, none⟩ = some (.bool v.null) ∧ w'.cell? ⟨w.heap.size, 1, none⟩ = some (.int .i64 v.n) ∧ w'.cell? ⟨w.heap.size, 2, none⟩ = some (.string v.s)), (some 7, fun w' => w'.cell? ⟨w.heap.size, 0, none⟩ = some (.bool v.null) ∧ w'.cell? ⟨w.heap.size, 1, none⟩ = some (.int .i64 v.n) ∧ w'.cell? ⟨w.heap.size, 2, none⟩ = some (.string v.s))] (by kernel_rfl) ?_ (fun hHeld => ?_)
  · exact ⟨fun h => (by first | exact gone (c := 3) (by decide +kernel) h | exact ⟨s2, s3, s4⟩ | fail), fun h => (by first | exact gone (c := 7) (by decide +kernel) h | exact ⟨s5, s6, s7⟩ | exact ⟨p5, p6, p7⟩ | fail), fun h => (by first | exact gone (c := 3) (by decide +kernel) h | exact ⟨bd0, bd1, bd2⟩ | fail), fun h => (by first | exact gone (c := 7) (by decide +kernel) h | exact ⟨bd0, bd1, bd2⟩ | exact ⟨b05, b15, b25⟩ | fail), trivial⟩
  iterate 4
   all_goals
    repeat ((first | (refine tkP 0 (oi := ⟨_, _, _, _, _, _⟩) (v := ?_) rfl (by decide +kernel) rfl (fun _ _ _ h => h) rfl hHeld ?_ ?_) | (refine tkL 1 0 rfl (oi := ⟨_, _, _, _, _, _⟩) (v := ?_) rfl (by decide +kernel) rfl (fun _ _ _ h => h) rfl hHeld ?_ ?_) | (refine tkL 2 2 rfl (oi := ⟨_, _, _, _, _, _⟩) (v := ?_) rfl (by decide +kernel) rfl (fun _ _ _ h => h) rfl hHeld ?_ ?_) | (refine tkP 4 (oi := ⟨_, _, _, _, _, _⟩) (v := ?_) rfl (by decide +kernel) rfl (fun _ _ _ h => h) rfl hHeld ?_ ?_) | (refine tkL 5 1 rfl (oi := ⟨_, _, _, _, _, _⟩) (v := ?_) rfl (by decide +kernel) rfl (fun _ _ _ h => h) rfl hHeld ?_ ?_) | (refine tkL 6 3 rfl (oi := ⟨_, _, _, _, _, _⟩) (v := ?_) rfl (by decide +kernel) rfl (fun _ _ _ h => h) rfl hHeld ?_ ?_) | (refine tkP 8 (oi := ⟨_, _, _, _, _, _⟩) (v := ?_) rfl (by decide +kernel) rfl (fun _ _ _ h => h) rfl hHeld ?_ ?_) | (refine tkP 10 (oi := ⟨_, _, _, _, _, _⟩) (v := ?_) rfl (by decide +kernel) rfl (fun _ _ _ h => h) rfl hHeld ?_ ?_)); rotate_left; (focus (intro w; (try intro hSw); (try dsimp only at hSw); go_simp; try with_reducible rfl)); intro hHeld; (try simp only [Act.put]); (try simp only [List.setIfInBounds_toArray]); (try simp only [List.set_cons_succ]); (try simp only [List.set_cons_zero]))
    first | (refine rd1 3 (o := ⟨_, _, _, _, _, _⟩) (by decide +kernel) rfl (fun K hK => ?_)) | (refine rd1 7 (o := ⟨_, _, _, _, _, _⟩) (by decide +kernel) rfl (fun K hK => ?_)) | (refine rd1 9 (o := ⟨_, _, _, _, _, _⟩) (by decide +kernel) rfl (fun K hK => ?_)) | (refine rd1 11 (o := ⟨_, _, _, _, _, _⟩) (by decide +kernel) rfl (fun K hK => ?_))
   all_goals
    first  | (go_simp; (first | (go_at_call_of 176 (Value.int .i64 1); refine (zqH 1 (.inr rfl) mx v _).mono ?_; rintro e w6 ⟨rfl, hb6⟩; rw [← HMX.out]; have HN6 := zH (HN5.out.call hb6); have hs6 := HN6.out.st.s; obtain ⟨⟨r0, g0⟩, ⟨r1, g1⟩, ⟨r2, g2⟩, ⟨r3, g3⟩, ⟨r4, g4⟩, ⟨r5, g5⟩, ⟨r6, g6⟩, ⟨r7, g7⟩, ⟨r8, g8⟩, ⟨r9, g9⟩⟩ := yyg hs6; have b06 := zzh hb6 b05; have b16 := zzh hb6 b15; have b26 := zzh hb6 b25; clear hs6) | (go_at_call 176; refine (zqH (-1) (.inl rfl) mn v _).mono ?_; rintro e w5 ⟨rfl, hb5⟩; rw [← HMN.out]; have HN5 := zH (HN2.out.drew.call hb5); have hs5 := HN5.out.st.s; obtain ⟨⟨p0, f0⟩, ⟨p1, f1⟩, ⟨p2, f2⟩, ⟨p3, f3⟩, ⟨p4, f4⟩, ⟨p5, f5⟩, ⟨p6, f6⟩, ⟨p7, f7⟩, ⟨p8, f8⟩, ⟨p9, f9⟩⟩ := yyg hs5; have b05 := zzh (W := w2.drew) hb5 b0; have b15 := zzh (W := w2.drew) hb5 b1; have b25 := zzh (W := w2.drew) hb5 b2; clear hs5) | fail)) | go_simp
    refine hK.out _ _ ?_ (fun hHeld => ?_)
    · (try dsimp only); exact ⟨fun h => (by first | exact gone (c := 3) (by decide +kernel) h | exact ⟨s2, s3, s4⟩ | fail), fun h => (by first | exact gone (c := 7) (by decide +kernel) h | exact ⟨s5, s6, s7⟩ | exact ⟨p5, p6, p7⟩ | fail), fun h => (by first | exact gone (c := 3) (by decide +kernel) h | exact ⟨bd0, bd1, bd2⟩ | fail), fun h => (by first | exact gone (c := 7) (by decide +kernel) h | exact ⟨bd0, bd1, bd2⟩ | exact ⟨b05, b15, b25⟩ | fail), trivial⟩
    clear hK K; (try simp only [Act.put]); (try simp only [List.setIfInBounds_toArray]); (try simp only [List.set_cons_succ]); (try simp only [List.set_cons_zero])
  all_goals
   refine vvW (by decide +kernel) ?_ _
   go_wp2_with fail
   go_meet
   exact ⟨_, rfl, HN6.out.minmax mn' mx'⟩
 case rest =>
  obtain ⟨wd, rfl, hnd⟩ := hcut
  have HND := zH hnd
  clear s0 a0 s1 a1 s2 a2 s3 a3 s4 a4 s5 a5 s6 a6 s7 a7 s8 a8 s9 a9 b0 b1 b2
  have ht := hnd.st.t; have hbx := hnd.b
  have t0 : wd.cell? ⟨gt, 0, none⟩ = some (.int .i64 (tHi S)) := by rw [zC ht]; rfl
  have t1 : wd.cell? ⟨gt, 1, none⟩ = some (.int .u64 (tLo S : Nat)) := by rw [zC ht]; rfl
  obtain ⟨⟨b0, _⟩, ⟨b1, _⟩, ⟨b2, _⟩⟩ := vvt hbx
  clear hnd ht hbx
  refine ‹∀ (a : Act) (w_1 : World), Code.wp _ _ _ a w_1 → _› _ _ ?_
  go_wp2_with (first
   | (go_at_call 177; refine (HADD.out _).mono ?_; rintro e w7 ⟨rfl, hb7⟩; have HN7 := zH (HND.out.call hb7); have ht7 := HN7.out.st.t; have t07 : w7.cell? ⟨gt, 0, none⟩ = some (.int .i64 (tHi S)) := (by rw [zC ht7]; rfl); have t17 : w7.cell? ⟨gt, 1, none⟩ = some (.int .u64 (tLo S : Nat)) := (by rw [zC ht7]; rfl); have f07 := zF ht7 0; have f17 := zF ht7 1; clear ht7 hb7)
   | fail)
  go_end0
  exact ⟨rfl, HN7.out.total (S + v.n)⟩
end
section
open Go Go.RowKit
theorem qzO (s : S0) {v : VV} (h : v.null = true) : vvP s v = ⟨s.count, true, s.min, s.max⟩ := by unfold vvP; rw [h]; rfl
theorem qzP (s : S0) {v : VV} (h : v.null = false) : vvP s v = ⟨s.count + 1, s.hasNull, vvZ (-1) s.min v, vvZ 1 s.max v⟩ := by
 unfold vvP vvZ
 rw [h, if_neg (by decide)]
 have e1 : decide (vcmp v s.min < 0) = decide (0 < -1 * vcmp v s.min) := by rw [decide_eq_decide]; omega
 have e2 : decide (0 < vcmp v s.max) = decide (0 < 1 * vcmp v s.max) := by rw [decide_eq_decide]; omega
 rw [e1, e2]
 rfl
theorem StR.hn {gs gt : Nat} {c : Int} {hn : Bool} {mn mx : VV} {S : Int} {w : World} (h : StR gs gt c hn mn mx S w) (hne : gs ≠ gt) : StR gs gt c true mn mx S (w.setCell ⟨gs, 1, none⟩ (.bool true)) :=
 ⟨zza h.s rfl, (Below.heap_setCell _ _ _ _ hne.symm).trans h.t⟩
theorem qxD : ∀ l : List VV, (∀ v ∈ l, v.ok) → -9223372036854775808 * (l.length : Int) ≤ sumV l ∧ sumV l ≤ 9223372036854775808 * (l.length : Int) := by
 suffices h : ∀ r : List VV, (∀ v ∈ r.reverse, v.ok) → -9223372036854775808 * (r.length : Int) ≤ sumV r.reverse ∧ sumV r.reverse ≤ 9223372036854775808 * (r.length : Int) by
  intro l hl
  have := h l.reverse (by rwa [List.reverse_reverse])
  rwa [List.reverse_reverse, List.length_reverse] at this
 intro r
 induction r with
 | nil => intro _; exact ⟨by simp [sumV], by simp [sumV]⟩
 | cons v r ih =>
   intro h
   rw [List.reverse_cons] at h ⊢
   have ih := ih (fun x hx => h x (List.mem_append_left _ hx))
   obtain ⟨h0, h1, _⟩ := h v (List.mem_append_right _ (List.mem_singleton.2 rfl))
   rw [kqO, List.length_cons]
   split
   · omega
   · omega
theorem sumV_hi {l : List VV} (h : ∀ v ∈ l, v.ok) (hn : l.length ≤ 4096) : -4096 ≤ tHi (sumV l) ∧ tHi (sumV l) ≤ 4096 := by
 have := qxD l h
 unfold tHi
 omega
structure OfW (w w4 : World) : Prop where
 eq : w4 = (((w.alloc (.cells #[.int .i64 0, .bool false, .bool false, .int .i64 0, .string ⟨#[]⟩, .bool false, .int .i64 0, .string ⟨#[]⟩, .int .i64 0, .bool false] 109)).alloc (.cells #[.bool true, .int .i64 0, .string ⟨#[]⟩] 74)).alloc (.cells #[.int .i64 0, .bool false, .bool true, .int .i64 0, .string ⟨#[]⟩, .bool true, .int .i64 0, .string ⟨#[]⟩, .int .i64 0, .bool false] 109)).alloc (.cells #[.int .i64 0, .int .u64 0] 230)
 below : Below w.heap.size w w4
 st : StR (w.heap.size + 2) (w.heap.size + 3) 0 false uuS uuS 0 w4
 r : w4.heap[w.heap.size]? = some (.cells #[.int .i64 0, .bool false, .bool false, .int .i64 0, .string ⟨#[]⟩, .bool false, .int .i64 0, .string ⟨#[]⟩, .int .i64 0, .bool false] 109 (0, 0))
theorem ofW (w : World) : ∃ w4, OfW w w4 := by
 obtain ⟨w1, h1⟩ : ∃ w1, w1 = w.alloc (.cells #[.int .i64 0, .bool false, .bool false, .int .i64 0, .string ⟨#[]⟩, .bool false, .int .i64 0, .string ⟨#[]⟩, .int .i64 0, .bool false] 109) := ⟨_, rfl⟩
 obtain ⟨w2, h2⟩ : ∃ w2, w2 = w1.alloc (.cells #[.bool true, .int .i64 0, .string ⟨#[]⟩] 74) := ⟨_, rfl⟩
 obtain ⟨w3, h3⟩ : ∃ w3, w3 = w2.alloc (.cells #[.int .i64 0, .bool false, .bool true, .int .i64 0, .string ⟨#[]⟩, .bool true, .int .i64 0, .string ⟨#[]⟩, .int .i64 0, .bool false] 109) := ⟨_, rfl⟩
 obtain ⟨w4, h4⟩ : ∃ w4, w4 = w3.alloc (.cells #[.int .i64 0, .int .u64 0] 230) := ⟨_, rfl⟩
 have z1 : w1.heap.size = w.heap.size + 1 := by rw [h1, zS]
 have z2 : w2.heap.size = w.heap.size + 2 := by rw [h2, zS, z1]
 have z3 : w3.heap.size = w.heap.size + 3 := by rw [h3, zS, z2]
 have g1 : w1.heap[w.heap.size]? = some (.cells #[.int .i64 0, .bool false, .bool false, .int .i64 0, .string ⟨#[]⟩, .bool false, .int .i64 0, .string ⟨#[]⟩, .int .i64 0, .bool false] 109 (0, 0)) := by rw [h1]; exact heap_alloc_new w _
 have g3 := heap_alloc_new w2 (.cells #[.int .i64 0, .bool false, .bool true, .int .i64 0, .string ⟨#[]⟩, .bool true, .int .i64 0, .string ⟨#[]⟩, .int .i64 0, .bool false] 109)
 rw [← h3, z2] at g3
 have g4 := heap_alloc_new w3 (.cells #[.int .i64 0, .int .u64 0] 230)
 rw [← h4, z3] at g4
 have b1 : Below w.heap.size w w1 := by rw [h1]; exact (zR).alloc zN _
 have b2 : Below w.heap.size w w2 := by rw [h2]; exact b1.alloc b1.size _
 have b3 : Below w.heap.size w w3 := by rw [h3]; exact b2.alloc b2.size _
 have b4 : Below w.heap.size w w4 := by rw [h4]; exact b3.alloc b3.size _
 refine ⟨w4, by rw [h4, h3, h2, h1], b4, ⟨?_, g4⟩, ?_⟩
 · rw [h4]; exact (Below.heap_alloc w3 _ _ (by omega)).trans g3
 · rw [h4, Below.heap_alloc w3 _ _ (by omega), h3, Below.heap_alloc w2 _ _ (by omega), h2, Below.heap_alloc w1 _ _ (by omega)]; exact g1
theorem sof_any (k : Int) (F : Nat → Prop) (A : Option Addr) (n c : Nat) (l : List VV) (w : World) (h : Sl tVV F w A n c l) (hn : n ≤ 4096) :
 Calls Tryz.prog 112 #[.int .i64 k, .slice A n c] w fun e w' => e = .returned (.agg #[.int .i64 (zzT k l).count, .bool (zzT k l).hasNull, .bool (zzT k l).min.null, .int .i64 (zzT k l).min.n, .string (zzT k l).min.s, .bool (zzT k l).max.null, .int .i64 (zzT k l).max.n, .string (zzT k l).max.s, .int .i64 (zzT k l).sum, .bool (zzT k l).over]) ∧ Below w.heap.size w w' := by
 have HL := zH h.len
 have HOK := zH (sl_ok h)
 obtain ⟨w4, h4⟩ := ofW w
 have HW := zH h4
 have HH := zH ((h.weaken (F' := fun b => b < w.heap.size) fun b _ hl => hl).below h4.below zN)
 have HN := zH hn
 obtain ⟨gs, hgs⟩ : ∃ gs, gs = w.heap.size + 2 := ⟨_, rfl⟩
 have hst0 := h4.st
 rw [show w.heap.size + 3 = (w.heap.size + 2) + 1 from rfl, ← hgs] at hst0
 obtain ⟨gt, hgt⟩ : ∃ gt, gt = gs + 1 := ⟨_, rfl⟩
 rw [← hgt] at hst0
 have HST0 := zH hst0
 have HG := zH (show w.heap.size < gs ∧ w.heap.size < gt ∧ gs ≠ gt by omega)
 have HGS := zH hgs; have HGT := zH hgt
 clear h h4 hst0 hgs hgt
 go_enter Tryz.func112, Tryz.ntmps112
 go_upto_region 4 with fail
 rw [← HW.out.eq, ← HGS.out, ← HGT.out]
 go_wp2_with fail
 go_loopw [18] (fun iv wr => ∃ i : Nat, i ≤ n ∧ iv = .int .i64 (i : Int) ∧ StR gs gt ((s0Of (l.take i)).count : Int) (s0Of (l.take i)).hasNull (s0Of (l.take i)).min (s0Of (l.take i)).max (sumV (l.take i)) wr ∧ wr.heap[w.heap.size]? = some (.cells #[.int .i64 0, .bool false, .bool false, .int .i64 0, .string ⟨#[]⟩, .bool false, .int .i64 0, .string ⟨#[]⟩, .int .i64 0, .bool false] 109 (0, 0)) ∧ Below w.heap.size w wr ∧ Hid (∀ b, b < w.heap.size → wr.heap[b]? = w4.heap[b]?)) (fun iv _ => n - (intOf iv).toNat)
 case atStart => exact ⟨0, Nat.zero_le _, rfl, HST0.out, HW.out.r, HW.out.below, zH fun _ _ => rfl⟩
 case round =>
  obtain ⟨i, hi, rfl, hst, hr, hb, HK⟩ := hrel
  have HST := zH hst; have HR := zH hr; have HB := zH hb
  have hsz4 : w4.heap.size ≤ wr.heap.size := by have h1 := zzb hst.t; have h2 := HW.out.eq; have h3 := HGT.out; have h5 := HGS.out; rw [h2]; simp; omega
  have HZ4 := zH hsz4
  clear hst hr hb hsz4
  by_cases hlt : i < n
  · have hil : i < l.length := by rw [← HL.out]; exact hlt
    obtain ⟨b, o, cs, rfl, _, hbl, hrep, hc⟩ := (HH.out.keep HZ4.out (fun b hb _ => HK.out b hb)).at_ hil (by decide)
    obtain ⟨v, hf⟩ : ∃ v, v = l[i] := ⟨_, rfl⟩
    obtain ⟨rfl, hok⟩ := hrep
    rw [← hf] at hc hok
    obtain ⟨hv0, hv1, _⟩ := hok
    have HC := zH (uuT (l.take i) v); have HSV := zH (kqO (l.take i) v)
    have HTK := zH (show l.take (i + 1) = l.take i ++ [v] by rw [zT hil, ← hf])
    have hcl := zqD (l.take i)
    rw [List.length_take] at hcl
    have hc0 : (0 : Int) ≤ ((s0Of (l.take i)).count : Int) ∧ ((s0Of (l.take i)).count : Int) ≤ 4096 := by have := HN.out; omega
    have hSb := sumV_hi (l := l.take i) (fun x hx => HOK.out x (List.mem_of_mem_take hx)) (by rw [List.length_take]; have := HN.out; omega)
    obtain ⟨s, hs⟩ : ∃ s, s = s0Of (l.take i) := ⟨_, rfl⟩
    obtain ⟨S, hS⟩ : ∃ S, S = sumV (l.take i) := ⟨_, rfl⟩
    rw [← hs] at HC HST hc0; rw [← hS] at HSV HST hSb
    have HC0 := zH hc0; have HSB := zH hSb
    obtain ⟨nu, x, t⟩ := v
    obtain ⟨g0, g1, g2⟩ := xxj hc
    have g0 : _ = some (Value.bool nu) := g0
    have g1 : _ = some (Value.int .i64 x) := g1
    have g2 : _ = some (Value.string t) := g2
    have hi0 : (0 : Int) ≤ (i : Int) := by omega
    have hi1 : (i : Int) < (n : Int) := by omega
    have HV := zH (show -9223372036854775808 ≤ x ∧ x ≤ 9223372036854775807 from ⟨hv0, hv1⟩)
    clear hc hf hs hS hcl hc0 hSb hv0 hv1
    go_upto_region 8 with fail
    obtain ⟨w5, hw5⟩ : ∃ w5, w5 = wr.alloc (.cells #[.bool nu, .int .i64 x, .string t] 74) := ⟨_, rfl⟩
    have hb5 : Below wr.heap.size wr w5 := by rw [hw5]; exact (zR).alloc zN _
    have hg5 : w5.heap[wr.heap.size]? = some (.cells #[.bool nu, .int .i64 x, .string t] 74 (0, 0)) := by rw [hw5]; exact heap_alloc_new _ _
    rw [← hw5]
    have HB5 := zH hb5
    have HST5 := zH (HST.out.call hb5)
    have HR5 := zH ((hb5.block _ (zzb HR.out)).trans HR.out)
    have HBB := zH (HB.out.trans (hb5.mono HB.out.size))
    have hwl := zzb HR.out
    have HWL := zH hwl
    obtain ⟨⟨b0, _⟩, ⟨b1, _⟩, ⟨b2, _⟩⟩ := vvt hg5
    clear hw5 hb5 hg5 g0 g1 g2 hwl
    cases nu
    · have e1 := HC.out; have e2 := HSV.out
      rw [qzP s rfl] at e1
      rw [if_neg (by simp)] at e2
      have HE1 := zH e1; have HE2 := zH e2
      clear e1 e2
      go_wp2_with (first
       | (go_at_call 175; refine (note_any gs gt _ _ _ _ S ⟨false, x, t⟩ w5 HST5.out HG.out.2.2 HC0.out HSB.out HV.out.1 HV.out.2).mono ?_; rintro e w6 ⟨rfl, hn6⟩; have HN6 := zH hn6; clear hn6)
       | fail)
      go_roundw
      case rel =>
       have hgl := HG.out
       refine ⟨i + 1, by omega, by go_num, ?_, (HN6.out.keep _ (zzb HR5.out) (by omega) (by omega)).trans HR5.out, HN6.out.below _ _ HBB.out (by omega) (by omega), zH fun b hb => ?_⟩
       · rw [HTK.out, HE1.out, HE2.out]
         have h6 := HN6.out.st
         have e : (((s.count + 1 : Nat)) : Int) = (s.count : Int) + 1 := by omega
         rw [e]
         exact h6
       · have h1 := HWL.out
         exact (HN6.out.keep b (by have := HB5.out.size; omega) (by omega) (by omega)).trans ((HB5.out.block b (by omega)).trans (HK.out b hb))
      case measure => simp [intOf]; omega
    · have e1 := HC.out; have e2 := HSV.out
      rw [qzO s rfl] at e1
      rw [if_pos rfl] at e2
      have HE1 := zH e1; have HE2 := zH e2
      have hs5 := HST5.out.s
      have q1 : w5.cell? ⟨gs, 1, none⟩ = some (.bool s.hasNull) := by rw [zC hs5]; rfl
      have f1 := zF hs5 1
      clear e1 e2 hs5
      go_wp2_with fail
      go_roundw
      case rel =>
       have hgl := HG.out
       refine ⟨i + 1, by omega, by go_num, ?_, (Below.heap_setCell _ _ _ _ (by show w.heap.size ≠ gs; omega)).trans HR5.out, zzd HBB.out (by omega) _, zH fun b hb => ?_⟩
       · rw [HTK.out, HE1.out, HE2.out]
         exact HST5.out.hn hgl.2.2
       · have h1 := HWL.out
         exact (Below.heap_setCell _ _ _ _ (by show b ≠ gs; omega)).trans ((HB5.out.block b (by omega)).trans (HK.out b hb))
      case measure => simp [intOf]; omega
  · obtain rfl : i = n := by omega
    have e1 : l.take i = l := zL (by rw [← HL.out]; exact Nat.le_refl _)
    rw [e1] at HST
    obtain ⟨sm, hsm⟩ : ∃ sm : Int, sm = if decide (1 ≤ k ∧ k ≤ 5) && vvL (sumV l) then sumV l else 0 := ⟨_, rfl⟩
    obtain ⟨ov, hov⟩ : ∃ ov : Bool, ov = (decide (1 ≤ k ∧ k ≤ 5) && !vvL (sumV l)) := ⟨_, rfl⟩
    have hsu := qxC k ((s0Of l).count : Int) (s0Of l).hasNull (s0Of l).min (s0Of l).max (sumV l)
    rw [← hsm, ← hov] at hsu
    have HSM := zH hsu; have HS1 := zH hsm; have HS2 := zH hov
    have hs := HST.out.s; have ht := HST.out.t
    obtain ⟨⟨s0, _⟩, ⟨s1, _⟩, ⟨s2, _⟩, ⟨s3, _⟩, ⟨s4, _⟩, ⟨s5, _⟩, ⟨s6, _⟩, ⟨s7, _⟩, ⟨s8, _⟩, ⟨s9, _⟩⟩ := yyg hs
    have t0 : wr.cell? ⟨gt, 0, none⟩ = some (.int .i64 (tHi (sumV l))) := by rw [zC ht]; rfl
    have t1 : wr.cell? ⟨gt, 1, none⟩ = some (.int .u64 (tLo (sumV l) : Nat)) := by rw [zC ht]; rfl
    clear hs ht e1 hsu hsm hov
    go_wp2_with (first
     | (go_at_call 178; refine (HSM.out _).mono ?_; rintro e w6 ⟨rfl, hb6⟩; have HB6 := zH hb6; have HR6 := zH ((hb6.block _ (zzb HR.out)).trans HR.out); have hr6 := HR6.out; obtain ⟨⟨r0, y0⟩, ⟨r1, y1⟩, ⟨r2, y2⟩, ⟨r3, y3⟩, ⟨r4, y4⟩, ⟨r5, y5⟩, ⟨r6, y6⟩, ⟨r7, y7⟩, ⟨r8, y8⟩, ⟨r9, y9⟩⟩ := yyg hr6; clear hr6 hb6)
     | fail)
    exact bodyPost_ret (results_cell_row rfl _ _ w.heap.size 109 _ (0, 0) _ rfl (set10 HR6.out _ _ _ _ _ _ _ _ _ _) Tryz.underlying109 rfl (by kernel_rfl)) rfl ⟨by rw [HS1.out, HS2.out]; rfl, qzN (HB.out.trans (HB6.out.mono HB.out.size)) zN _ _ _ _ _ _ _ _ _ _⟩
end
section
open Go Go.RowKit
theorem cput_num (k : Int) (F : Nat → Prop) (A : Option Addr) (n c : Nat) (l : List VV) (w : World) (h : Sl tVV F w A n c l) (hn : n ≤ 4096) (hT : Lib.Utf8Tabs 0 1 w) (hk : 1 ≤ k ∧ k ≤ 5) (hall : l.all (mayV k) = true) :
 Calls Tryz.prog 12 #[.int .i64 k, .slice A n c] w (xx5 k l w) := by
 have hn1 : ¬ (n : Int) > 4096 := by omega
 have hn2 : ¬ (4096 : Int) < n := by omega
 obtain ⟨wc, hwc⟩ := colW k w
 have HWC := zH hwc; have HN := zH hn; have HK := zH hk; have HL := zH h.len
 have HH := zH (h.below hwc.below zN); have HT := zH (zze hT hwc.below)
 have hbox := hwc.box
 have HP := zH (show decide (1 ≤ k ∧ k ≤ 7) = true from decide_eq_true (by omega))
 have HQ := zH (show (!l.all (mayV k)) = false by rw [hall]; rfl)
 have hE : colE k l = 0 := by unfold colE; rw [if_pos (by omega), hall]; rfl
 have HE := zH hE
 have HR := zH (show colR k l = ((l.length : Int), colC k l) from if_pos hE)
 have HM := zH (show ∀ v ∈ l.filter zzw, v.null = false ∧ mayV k v = true from fun v hv => by
  obtain ⟨h1, h2⟩ := List.mem_filter.1 hv
  exact ⟨by simpa [zzw] using h2, List.all_eq_true.1 hall v h1⟩)
 have HC := zH (show colC k l = (1, 0, [(1, yyI l), (2, vvY k (l.filter zzw))]) from if_pos hk)
 have HNM := zH (show decide (1 ≤ k ∧ k ≤ 5) = true from decide_eq_true hk)
 clear h hn hT hwc hk hall hE
 go_enter Tryz.func12, Tryz.ntmps12
 go_upto_region 1 with fail
 rw [← HWC.out.eq]
 go_upto_region 10 with (first
  | (go_at_call 38; refine (vvm _ _).mono ?_; rintro e w1 ⟨rfl, rfl⟩; rw [HP.out])
  | (go_at_call 39; refine (uuL k w.heap.size F A n c l _ HH.out hbox HT.out).mono ?_; rintro e w1 ⟨rfl, hb1⟩; rw [HQ.out]; have HB1 := zH hb1; clear hb1)
  | (go_at_call 42; refine (zqv F A n c l _ (HH.out.below HB1.out zN) HN.out).mono ?_; rintro e w2 ⟨A1, n1, c1, A2, n2, c2, rfl, hs1, hs2, hb2⟩; have HS1 := zH hs1; have HS2 := zH hs2; have HB2 := zH hb2; clear hs1 hs2 hb2)
  | fail)
 have hz1 := HB1.out.size
 have hz2 := HB2.out.size
 have hzc := HWC.out.size
 have HZ1 := zH hz1; have HZ2 := zH hz2; have HZC := zH hzc
 have HL2 := zH HS2.out.len
 have hn24 : n2 ≤ 4096 := by have := HL2.out; have := List.length_filter_le zzw l; have := HL.out; have := HN.out; omega
 have HN2 := zH hn24
 have HBX := zH ((HWC.out.below.trans (HB1.out.mono HWC.out.below.size)).trans (HB2.out.mono (by have := HWC.out.below.size; omega)))
 have hcol2 : w2.heap[w.heap.size + 1]? = some (.cells #[.int .i64 0, .int .i64 0, .int .i64 0, .slice none 0 0] 27 (0, 0)) := (HB2.out.block _ (by omega)).trans ((HB1.out.block _ (by omega)).trans HWC.out.col)
 have HCOL := zH hcol2
 have HBOX := zH (zzh HB2.out (zzh HB1.out hbox))
 have HT2 := zH (zze (zze HT.out HB1.out) HB2.out)
 clear hbox hcol2 hz1 hz2 hzc hn24
 go_upto_region 12 with fail
 obtain ⟨w3, hw3⟩ : ∃ w3, w3 = w2.alloc (.cells #[.int .i64 (n : Int), .int .i64 1, .int .i64 0, .slice none 0 0] 85) := ⟨_, rfl⟩
 rw [← hw3]
 have hbu3 : BuR w2 w2.heap.size (n : Int) 1 0 (fun _ => False) none 0 0 [] w3 := ⟨by rw [hw3]; exact heap_alloc_new w2 _, OwnF.nil_ _ _ _ _ _, by rw [hw3]; exact (zR).alloc zN _⟩
 have BU3 := zH hbu3
 have HS13 := zH ((HS1.out.weaken (F' := fun b => w1.heap.size ≤ b ∧ b < w2.heap.size) fun b hb hl => ⟨hb, hl⟩).below hbu3.below zN)
 clear hbu3 hw3
 go_upto_region 13 with (first
  | (go_at_call 43; refine (vv8 w2 w2.heap.size (n : Int) 1 0 (fun _ => False) none 0 0 [] w3 BU3.out (fun h => h) 1 (by omega) (fun b => w1.heap.size ≤ b ∧ b < w2.heap.size) A1 n1 c1 (yyI l) HS13.out (fun h => by omega) (fun b h => by cases h) (by omega)).mono ?_; rintro e w4 ⟨rfl, ⟨A4, c4, hbu4, _⟩, hz4, _⟩; have BU4 := zH hbu4; have hbox4 := zzh hbu4.below HBOX.out; have HZ4 := zH hz4; clear hbu4 hz4)
  | fail)
 have HF4 := zH (show ∀ b, ((False ∨ (w1.heap.size ≤ b ∧ b < w2.heap.size)) ∧ b < w3.heap.size) → w1.heap.size ≤ b ∧ b < w2.heap.size from fun b h => h.1.elim (fun h => h.elim) id)
 go_upto_region 15 with (first
  | (go_at_call 44; refine (zzf _ _).mono ?_; rintro e w5 ⟨rfl, rfl⟩; rw [HNM.out])
  | (go_at_call 45; refine (iput_any k HK.out _ A2 n2 c2 (l.filter zzw) _ (HS2.out.below BU4.out.below zN) HN2.out HM.out (zze HT2.out BU4.out.below)).mono ?_; rintro e w5 ⟨hb5, A5, n5, c5, rfl, ho5⟩; have HO5 := zH ho5; have HB5 := zH hb5; clear ho5 hb5)
  | fail)
 have hg4 := zzb BU4.out.hold
 have hbu5 : BuR w2 w2.heap.size (n : Int) 1 0 _ A4 1 c4 [(1, yyI l)] w5 := ⟨(HB5.out.block _ hg4).trans BU4.out.hold, BU4.out.own.keepB HB5.out, BU4.out.below.trans (HB5.out.mono (by omega))⟩
 have BU5 := zH hbu5
 have HS5 := zH (HO5.out.own.sl.weaken (F' := fun b => w4.heap.size ≤ b) fun b hb _ => by
  rcases hb with hb | hb
  · exact hb.elim
  · exact hb.2)
 have HG4 := zH hg4
 have HA4 := zH (show ∀ b, A4 = some ⟨b, 0, none⟩ → b < w4.heap.size from fun b e => (BU4.out.own.lies (b := b) (by rw [zzg, e]; rfl)).2.2)
 clear hbu5 hg4
 go_upto_region 16 with (first
  | (go_at_call 43; refine (vv8 w2 w2.heap.size (n : Int) 1 0 _ A4 1 c4 [(1, yyI l)] w5 BU5.out (fun h => by have := (HF4.out _ h).2; omega) 2 (by omega) (fun b => w4.heap.size ≤ b) A5 n5 c5 (vvY k (l.filter zzw)) HS5.out (fun h => by have := HG4.out; omega) (fun b h h2 => by have := HA4.out b h; omega) (by omega)).mono ?_; rintro e w6 ⟨rfl, ⟨A6, c6, hbu6, _⟩, _, _⟩; have BU6 := zH hbu6; clear hbu6)
  | fail)
 have hg6 := BU6.out.hold
 obtain ⟨⟨z0, _⟩, ⟨z1, _⟩, ⟨z2, _⟩, ⟨z3, _⟩⟩ := zzn hg6
 have hcol6 := (BU6.out.below.block _ (zzb HCOL.out)).trans HCOL.out
 obtain ⟨⟨v0, y0⟩, ⟨v1, y1⟩, ⟨v2, y2⟩, ⟨v3, y3⟩⟩ := zzn hcol6
 have HCOL6 := zH hcol6
 clear hg6 hcol6
 go_wp2_with fail
 refine bodyPost_ret (zzC rfl _ _ (w.heap.size + 1) 27 #[.int .i64 (n : Int), .int .i64 1, .int .i64 0, .slice A6 2 c6] (0, 0) _ rfl (jjw HCOL6.out _ _ _ _) Tryz.underlying27 rfl (by kernel_rfl)) rfl ?_
 unfold xx5
 rw [HR.out, HE.out, HC.out, ← HL.out]
 refine ⟨A6, 2, c6, rfl, ?_, zz2 (HBX.out.trans (BU6.out.below.mono HBX.out.size)) (by omega) _ _ _ _⟩
 have hs7 := BU6.out.own.sl.weaken (F' := fun b => w.heap.size + 2 ≤ b) (fun b hb _ => by
  have e1 := HZ1.out; have e2 := HZ2.out; have e3 := HZC.out; have e4 := HG4.out
  rcases hb with hb | hb
  · rcases hb.1 with hb | hb
    · have := (HF4.out _ hb).1; omega
    · omega
  · have := hb.2; omega)
 exact (hs7.keep (by simp) (fun b hb _ => xxx (by omega) _ _ _ _)).weaken fun b hb _ => by omega
end
section
open Go Go.RowKit
theorem tput_at (F : Nat → Prop) (A : Option Addr) (n c : Nat) (l : List ByteArray) (w : World) (h : Sl tStr F w A n c l) (hn : n ≤ 4096) (hs : ∀ s ∈ l, s.size ≤ 300) (enc tx : Int) (ss : List (Int × List UInt8)) (ht : txC l = (enc, tx, ss)) :
 Calls Tryz.prog 46 #[.slice A n c] w fun e w' => ∃ A' n' c', e = .returned (.tuple #[.agg #[.int .i64 (n : Int), .int .i64 enc, .int .i64 tx, .slice A' n' c'], .int .i64 0]) ∧ Sl zzm (fun b => w.heap.size ≤ b) w' A' n' c' ss ∧ Below w.heap.size w w' := by
 have h1 := tput_any F A n c l w h hn hs
 unfold zqC at h1
 rw [ht, ← h.len] at h1
 exact h1
theorem txC_len (l : List ByteArray) : (txC l).2.2.length ≤ 3 := by unfold txC; split <;> simp
theorem cput_txt (k : Int) (F : Nat → Prop) (A : Option Addr) (n c : Nat) (l : List VV) (w : World) (h : Sl tVV F w A n c l) (hn : n ≤ 4096) (hT : Lib.Utf8Tabs 0 1 w) (hk : k = 6 ∨ k = 7) (hall : l.all (mayV k) = true) :
 Calls Tryz.prog 12 #[.int .i64 k, .slice A n c] w (xx5 k l w) := by
 have hn1 : ¬ (n : Int) > 4096 := by omega
 have hn2 : ¬ (4096 : Int) < n := by omega
 obtain ⟨wc, hwc⟩ := colW k w
 have HWC := zH hwc; have HN := zH hn; have HK := zH hk; have HL := zH h.len
 have HH := zH (h.below hwc.below zN); have HT := zH (zze hT hwc.below)
 have hbox := hwc.box
 have HP := zH (show decide (1 ≤ k ∧ k ≤ 7) = true from decide_eq_true (by omega))
 have HQ := zH (show (!l.all (mayV k)) = false by rw [hall]; rfl)
 have hE : colE k l = 0 := by unfold colE; rw [if_pos (by omega), hall]; rfl
 have HE := zH hE
 have HR := zH (show colR k l = ((l.length : Int), colC k l) from if_pos hE)
 have HM := zH (show ∀ v ∈ l.filter zzw, v.null = false ∧ mayV k v = true from fun v hv => by
  obtain ⟨h1, h2⟩ := List.mem_filter.1 hv
  exact ⟨by simpa [zzw] using h2, List.all_eq_true.1 hall v h1⟩)
 obtain ⟨ws, hws⟩ : ∃ ws, ws = (l.filter zzw).map (·.s) := ⟨_, rfl⟩
 have HC := zH (show colC k l = ((txC ws).1, (txC ws).2.1, (1, yyI l) :: (txC ws).2.2) by unfold colC; rw [if_neg (by omega), hws])
 obtain ⟨enc, tx, ss, htx⟩ : ∃ enc tx ss, txC ws = (enc, tx, ss) := ⟨_, _, _, rfl⟩
 have HWS := zH hws; have HTX := zH htx
 have HNM := zH (show decide (1 ≤ k ∧ k ≤ 5) = false from decide_eq_false (by omega))
 have HSM := zH (show ∀ s ∈ ws, s.size ≤ 300 from fun s hs => by
  rw [hws] at hs
  obtain ⟨v, hv, rfl⟩ := List.mem_map.1 hs
  obtain ⟨h1, h2⟩ := HM.out v hv
  unfold mayV at h2
  rw [if_neg (by omega), if_pos hk, h1] at h2
  simp at h2
  exact h2.2.1)
 clear h hn hT hwc hk hall hE hws htx
 go_enter Tryz.func12, Tryz.ntmps12
 go_upto_region 1 with fail
 rw [← HWC.out.eq]
 go_upto_region 10 with (first
  | (go_at_call 38; refine (vvm _ _).mono ?_; rintro e w1 ⟨rfl, rfl⟩; rw [HP.out])
  | (go_at_call 39; refine (uuL k w.heap.size F A n c l _ HH.out hbox HT.out).mono ?_; rintro e w1 ⟨rfl, hb1⟩; rw [HQ.out]; have HB1 := zH hb1; clear hb1)
  | (go_at_call 42; refine (zqv F A n c l _ (HH.out.below HB1.out zN) HN.out).mono ?_; rintro e w2 ⟨A1, n1, c1, A2, n2, c2, rfl, hs1, hs2, hb2⟩; have HS1 := zH hs1; have HS2 := zH hs2; have HB2 := zH hb2; clear hs1 hs2 hb2)
  | fail)
 have hz1 := HB1.out.size
 have hz2 := HB2.out.size
 have hzc := HWC.out.size
 have HZ1 := zH hz1; have HZ2 := zH hz2; have HZC := zH hzc
 have HL2 := zH HS2.out.len
 have hn24 : n2 ≤ 4096 := by have := HL2.out; have := List.length_filter_le zzw l; have := HL.out; have := HN.out; omega
 have HN2 := zH hn24
 have HBX := zH ((HWC.out.below.trans (HB1.out.mono HWC.out.below.size)).trans (HB2.out.mono (by have := HWC.out.below.size; omega)))
 have hcol2 : w2.heap[w.heap.size + 1]? = some (.cells #[.int .i64 0, .int .i64 0, .int .i64 0, .slice none 0 0] 27 (0, 0)) := (HB2.out.block _ (by omega)).trans ((HB1.out.block _ (by omega)).trans HWC.out.col)
 have HCOL := zH hcol2
 have HBOX := zH (zzh HB2.out (zzh HB1.out hbox))
 have HT2 := zH (zze (zze HT.out HB1.out) HB2.out)
 clear hbox hcol2 hz1 hz2 hzc hn24
 go_upto_region 12 with fail
 obtain ⟨w3, hw3⟩ : ∃ w3, w3 = w2.alloc (.cells #[.int .i64 (n : Int), .int .i64 1, .int .i64 0, .slice none 0 0] 85) := ⟨_, rfl⟩
 rw [← hw3]
 have hbu3 : BuR w2 w2.heap.size (n : Int) 1 0 (fun _ => False) none 0 0 [] w3 := ⟨by rw [hw3]; exact heap_alloc_new w2 _, OwnF.nil_ _ _ _ _ _, by rw [hw3]; exact (zR).alloc zN _⟩
 have BU3 := zH hbu3
 have HS13 := zH ((HS1.out.weaken (F' := fun b => w1.heap.size ≤ b ∧ b < w2.heap.size) fun b hb hl => ⟨hb, hl⟩).below hbu3.below zN)
 clear hbu3 hw3
 go_upto_region 13 with (first
  | (go_at_call 43; refine (vv8 w2 w2.heap.size (n : Int) 1 0 (fun _ => False) none 0 0 [] w3 BU3.out (fun h => h) 1 (by omega) (fun b => w1.heap.size ≤ b ∧ b < w2.heap.size) A1 n1 c1 (yyI l) HS13.out (fun h => by omega) (fun b h => by cases h) (by omega)).mono ?_; rintro e w4 ⟨rfl, ⟨A4, c4, hbu4, _⟩, hz4, _⟩; have BU4 := zH hbu4; have hbox4 := zzh hbu4.below HBOX.out; have HZ4 := zH hz4; clear hbu4 hz4)
  | fail)
 have HF4 := zH (show ∀ b, ((False ∨ (w1.heap.size ≤ b ∧ b < w2.heap.size)) ∧ b < w3.heap.size) → w1.heap.size ≤ b ∧ b < w2.heap.size from fun b h => h.1.elim (fun h => h.elim) id)
 go_wp2_with (first
  | (go_at_call 44; refine (zzf _ _).mono ?_; rintro e w5 ⟨rfl, rfl⟩; rw [HNM.out])
  | fail)
 go_loopw [12, 66] (fun v iv wr => ∃ (j : Nat) (A5 : Option Addr) (c5 : Nat) (G : Nat → Prop), j ≤ n2 ∧ iv = .int .i64 (j : Int) ∧ v = .slice A5 j c5 ∧ OwnF tStr 9 G wr w4.heap.size A5 j c5 (((l.filter zzw).take j).map (·.s)) ∧ Below w4.heap.size w4 wr) (fun _ iv _ => n2 - (intOf iv).toNat)
 case atStart => exact ⟨0, none, 0, fun _ => False, Nat.zero_le _, rfl, rfl, OwnF.nil_ _ _ _ _ _, zR⟩
 case round =>
  obtain ⟨j, A5, c5, G, hj, rfl, rfl, hown, hb⟩ := hrel
  have HO := zH hown; have HB := zH hb
  have hsz := hb.size
  by_cases hlt : j < n2
  · have hjl : j < (l.filter zzw).length := by rw [← HL2.out]; exact hlt
    obtain ⟨b, o, cs, rfl, _, hbl, hrep, hc⟩ := (HS2.out.below (BU4.out.below.trans (hb.mono (by have := zzb BU4.out.hold; omega))) zN).at_ hjl (by decide)
    obtain ⟨v, hf⟩ : ∃ v, v = (l.filter zzw)[j] := ⟨_, rfl⟩
    obtain ⟨rfl, hok⟩ := hrep
    rw [← hf] at hc hok
    obtain ⟨nu, x, s⟩ := v
    have hsm : s.size ≤ maxLen := hok.2.2
    have HF := zH hf
    obtain ⟨g0, g1, g2⟩ := xxj hc
    have g0 : _ = some (Value.bool nu) := g0
    have g1 : _ = some (Value.int .i64 x) := g1
    have g2 : _ = some (Value.string s) := g2
    have hi0 : (0 : Int) ≤ (j : Int) := by omega
    have hi1 : (j : Int) < (n2 : Int) := by omega
    have hj4 : j ≤ 34359738368 := by have := HN2.out; omega
    clear hc hf hown hb hok
    go_wp2_with (first
     | (at_builtin; refine apl1 (T := tStr) elemStr _ w4 rfl (.tmp 70) (.tmp 73) rfl w4.heap.size A5 j c5 (((l.filter zzw).take j).map (·.s)) (by rfl) G (fun _ => False) (HO.out.alloc _) (HB.out.alloc hsz _) zN _ (by rw [zS]; rfl) [.string s] s ⟨rfl, hsm⟩ 9 rfl (fun _ _ _ _ h4 => h4) hj4 ?_; intro A7 c7 w7 h7)
     | fail)
    go_roundw
    case rel =>
     have e1 : ((l.filter zzw).take (j + 1)).map (·.s) = ((l.filter zzw).take j).map (·.s) ++ [s] := by
      rw [zT hjl, List.map_append, ← HF.out]; rfl
     have e2 := h7.own
     rw [← e1] at e2
     exact ⟨j + 1, A7, c7, _, by omega, by go_num, rfl, e2, h7.below⟩
    case measure => simp [intOf]; omega
  · obtain rfl : j = n2 := by omega
    obtain ⟨w5, rfl⟩ : ∃ w5, w5 = wr := ⟨wr, rfl⟩
    have e1 : (l.filter zzw).take j = l.filter zzw := zL (by rw [← HL2.out]; exact Nat.le_refl _)
    rw [e1, ← HWS.out] at hown
    have HO := zH hown.sl
    have hg4 := zzb BU4.out.hold
    have hbu5 : BuR w2 w2.heap.size (n : Int) 1 0 _ A4 1 c4 [(1, yyI l)] w5 := ⟨(hb.block _ hg4).trans BU4.out.hold, BU4.out.own.keepB hb, BU4.out.below.trans (hb.mono (by omega))⟩
    have BU5 := zH hbu5
    have hg5 := zzb hbu5.hold
    clear hown hbu5 e1
    go_upto_region 24 with (first
     | (go_at_call 46; refine (tput_at _ A5 j c5 ws w5 HO.out HN2.out HSM.out enc tx ss HTX.out).mono ?_; rintro e w6 ⟨A6, n6, c6, rfl, hs6, hb6⟩; have HS6 := zH hs6; have HB6 := zH hb6; clear hs6 hb6)
     | fail)
    obtain ⟨w7, hw7⟩ : ∃ w7, w7 = w6.alloc (.cells #[.int .i64 (j : Int), .int .i64 enc, .int .i64 tx, .slice A6 n6 c6] 27) := ⟨_, rfl⟩
    rw [← hw7]
    have hb67 : Below w5.heap.size w5 w7 := by rw [hw7]; exact HB6.out.alloc HB6.out.size _
    have hg7 : w7.heap[w6.heap.size]? = some (.cells #[.int .i64 (j : Int), .int .i64 enc, .int .i64 tx, .slice A6 n6 c6] 27 (0, 0)) := by rw [hw7]; exact heap_alloc_new _ _
    have HS7 := zH (show Sl zzm (fun b => w5.heap.size ≤ b ∧ b < w7.heap.size) w7 A6 n6 c6 ss from by
     have h1 := HS6.out.alloc (.cells #[.int .i64 (j : Int), .int .i64 enc, .int .i64 tx, .slice A6 n6 c6] 27)
     rw [← hw7] at h1
     exact h1.weaken fun b hb hl => ⟨hb, hl⟩)
    have hbu7 : BuR w2 w2.heap.size (n : Int) 1 0 _ A4 1 c4 [(1, yyI l)] w7 := ⟨(hb67.block _ hg5).trans BU5.out.hold, BU5.out.own.keepB hb67, BU5.out.below.trans (hb67.mono (by omega))⟩
    have BU7 := zH hbu7; have HG7 := zH hg7; have HB67 := zH hb67; have HG5 := zH hg5
    have hsz67 : w6.heap.size < w7.heap.size := zzb hg7
    have hsz6 := HB6.out.size
    have hsz5 := hb.size
    have hgne : w6.heap.size ≠ w2.heap.size := by omega
    have hgne2 : ¬ w2.heap.size = w6.heap.size := by omega
    have hg27 : w2.heap.size < w7.heap.size := by omega
    obtain ⟨⟨q0, p0⟩, ⟨q1, p1⟩, ⟨q2, p2⟩, ⟨q3, p3⟩⟩ := zzn hg7
    obtain ⟨⟨u0, t0⟩, ⟨u1, t1⟩, ⟨u2, t2⟩, ⟨u3, t3⟩⟩ := zzn hbu7.hold
    have HA4 := zH (show ∀ b, A4 = some ⟨b, 0, none⟩ → b < w5.heap.size from fun b e => (BU5.out.own.lies (b := b) (by rw [zzg, e]; rfl)).2.2)
    clear hw7 hb67 hg7 hbu7
    go_cut [] from 81 to 89 (fun wx => ∃ wd, wd = wx ∧ BuR w2 w2.heap.size (n : Int) enc tx (fun b => (False ∨ w1.heap.size ≤ b ∧ b < w2.heap.size) ∧ b < w3.heap.size) A4 1 c4 [(1, yyI l)] wd ∧ w7.heap.size ≤ wd.heap.size ∧ ∀ b, b < w7.heap.size → b ≠ w2.heap.size → wd.heap[b]? = w7.heap[b]?)
    case first =>
     go_region
     all_goals
      go_wp2_with fail
      go_meet
      refine ⟨_, rfl, ⟨zza (zza BU7.out.hold rfl) rfl, BU7.out.own.keep (by simp) (fun b hb hl => ?_), ?_⟩, by simp, fun b h1 h2 => (Below.heap_setCell _ _ _ _ h2).trans ((Below.heap_setCell _ _ _ _ h2).trans rfl)⟩
      · have hne : b ≠ w2.heap.size := by
         rcases hb with hb | hb
         · have := (HF4.out b hb).2; omega
         · have := hb.2; omega
        exact (Below.heap_setCell _ _ _ _ hne).trans ((Below.heap_setCell _ _ _ _ hne).trans rfl)
      · first
         | exact zzd (zzd (xxu BU7.out.below _) zN _) zN _
         | exact zzd (zzd BU7.out.below zN _) zN _
    case rest =>
     obtain ⟨wd, rfl, hbu8, hsz8, hk8⟩ := hcut
     have BU8 := zH hbu8; have HK8 := zH hk8; have HZ8 := zH hsz8
     have hg8 := (hk8 _ hsz67 hgne).trans HG7.out
     clear q0 p0 q1 p1 q2 p2 q3 p3 u0 t0 u1 t1 u2 t2 u3 t3
     obtain ⟨_, _, _, ⟨q3, _⟩⟩ := zzn hg8
     have HS8 := zH (HS7.out.keep hsz8 (fun b hb hl => hk8 b hl (by omega)))
     have HL6 := zH HS7.out.len
     have HN6 := zH (show n6 ≤ 3 by have h1 := txC_len ws; rw [HTX.out] at h1; have h2 : ss.length ≤ 3 := h1; have := HL6.out; omega)
     have HZ5 := zH (show w2.heap.size < w5.heap.size ∧ w5.heap.size ≤ wd.heap.size by omega)
     clear hbu8 hk8 hg8
     refine ‹∀ (a : Act) (w_1 : World), Code.wp _ _ _ a w_1 → _› _ _ ?_
     go_wp2_with fail
     go_loopw [92] (fun iv wx => ∃ (i : Nat) (A7 : Option Addr) (c7 : Nat) (G : Nat → Prop), i ≤ n6 ∧ iv = .int .i64 (i : Int) ∧ BuR w2 w2.heap.size (n : Int) enc tx G A7 (1 + i) c7 ((1, yyI l) :: ss.take i) wx ∧ (∀ b, G b → w1.heap.size ≤ b ∧ b ≠ w2.heap.size) ∧ (∀ b, A7.map (·.block) = some b → b < w5.heap.size ∨ wd.heap.size ≤ b) ∧ wd.heap.size ≤ wx.heap.size ∧ ∀ b, w5.heap.size ≤ b → b < wd.heap.size → wx.heap[b]? = wd.heap[b]?) (fun iv _ => n6 - (intOf iv).toNat)
     case atStart =>
      refine ⟨0, A4, c4, _, Nat.zero_le _, rfl, BU8.out, fun b hb => ?_, fun b hb => .inl ?_, Nat.le_refl _, fun _ _ _ => rfl⟩
      · have := HF4.out b hb; omega
      · obtain ⟨e, _⟩ := BU8.out.own.lies (b := b) (by rw [zzg]; exact hb)
        exact HA4.out b e
     case round =>
      obtain ⟨i, A7, c7, G, hi, rfl, hbu, hG, hA7, hszx, hkx⟩ := hrel
      obtain ⟨wx, rfl⟩ : ∃ wx, wx = wr := ⟨wr, rfl⟩
      have BUX := zH hbu; have HGX := zH hG; have HAX := zH hA7; have HKX := zH hkx; have HZX := zH hszx
      by_cases hlt : i < n6
      · have hil : i < ss.length := by rw [← HL6.out]; exact hlt
        obtain ⟨b, o, cs, rfl, _, hbl, hrep, hc⟩ := (HS8.out.keep hszx (fun b hb hl => hkx b hb.1 (by have := HZ8.out; omega))).at_ hil (by decide)
        obtain ⟨x, hf⟩ : ∃ x, x = ss[i] := ⟨_, rfl⟩
        obtain ⟨kk, bs⟩ := x
        rw [← hf] at hrep
        obtain ⟨d1, d2, rfl, ⟨h1, h1'⟩, A8, n8, c8, h2, hsl⟩ := hrep
        subst h1 h2
        obtain ⟨g0, g1⟩ := xxS hc
        have g0 : _ = some (Value.int .i64 kk) := g0
        have g1 : _ = some (Value.slice A8 n8 c8) := g1
        have HSL := zH hsl; have HKK := zH h1'; have HF := zH hf
        have hi0 : (0 : Int) ≤ (i : Int) := by omega
        have hi1 : (i : Int) < (n6 : Int) := by omega
        have hgx := zzb hbu.hold
        have hi3 : i ≤ 3 := by have := HN6.out; omega
        have HB9 := zH (show BuR w2 w2.heap.size (n : Int) enc tx G A7 (1 + i) c7 ((1, yyI l) :: ss.take i) (wx.alloc (.cells #[.int .i64 kk, .slice A8 n8 c8] 55)) from ⟨(Below.heap_alloc _ _ _ hgx).trans hbu.hold, hbu.own.alloc _, hbu.below.alloc (by omega) _⟩)
        clear hc hf h1' hsl hbu hG hA7 hszx hkx
        go_wp2_with (first
         | (go_at_call 43; refine (vv8 w2 w2.heap.size (n : Int) enc tx G A7 (1 + i) c7 _ _ HB9.out (fun h => (HGX.out _ h).2 rfl) kk HKK.out _ A8 n8 c8 bs (HSL.out.alloc _) (fun h => by have := HZ5.out; omega) (fun b h h2 => by have h3 := HAX.out b (by rw [h]; rfl); have := HZ8.out; omega) (by have := HN6.out; omega)).mono ?_; rintro e w9 ⟨rfl, ⟨A9, c9, hbu9, hl9⟩, hz9, hk9⟩; have BU9 := zH hbu9; have HL9 := zH hl9; have HZ9 := zH hz9; have HK9 := zH hk9; clear hbu9 hl9 hz9 hk9)
         | fail)
        go_roundw
        case rel =>
         have hz9 := HZ9.out
         rw [zS] at hz9
         have e1 : (1, yyI l) :: ss.take (i + 1) = (1, yyI l) :: ss.take i ++ [(kk, bs)] := by
          rw [zT hil, ← HF.out]; rfl
         have hbu9 := BU9.out
         rw [← e1] at hbu9
         refine ⟨i + 1, A9, c9, _, by omega, by go_num, hbu9, fun b hb => ?_, fun b hb => ?_, ?_, fun b h1 h2 => ?_⟩
         · have h5 := HZ5.out; have h2 := HZ2.out; have h8 := HZ8.out
           rcases hb.1 with hb | hb
           · exact HGX.out b hb
           · omega
         · rcases HL9.out with h | h
           · exact HAX.out b (h.symm.trans hb)
           · rw [hb] at h
             injection h with h
             rw [zS] at h
             have := HZX.out
             omega
         · have := HZX.out; omega
         · have h5 := HZ5.out; have hzx := HZX.out
           exact (HK9.out b (by rw [zS]; omega) (by omega) (fun e => by have := HAX.out b e; omega)).trans ((Below.heap_alloc _ _ _ (by omega)).trans (HKX.out b h1 h2))
        case measure => simp [intOf]; omega
      · obtain rfl : i = n6 := by omega
        have e1 : ss.take i = ss := zL (by rw [← HL6.out]; exact Nat.le_refl _)
        rw [e1] at hbu
        have BUY := zH hbu
        have hg6 := hbu.hold
        obtain ⟨⟨z0, _⟩, ⟨z1, _⟩, ⟨z2, _⟩, ⟨z3, _⟩⟩ := zzn hg6
        have hcol6 := (hbu.below.block _ (zzb HCOL.out)).trans HCOL.out
        obtain ⟨⟨v0, y0⟩, ⟨v1, y1⟩, ⟨v2, y2⟩, ⟨v3, y3⟩⟩ := zzn hcol6
        have HCOL6 := zH hcol6
        clear hg6 hcol6 hbu e1 hG hA7 hkx hszx BUX
        go_wp2_with fail
        refine bodyPost_ret (zzC rfl _ _ (w.heap.size + 1) 27 #[.int .i64 (n : Int), .int .i64 enc, .int .i64 tx, .slice A7 (1 + i) c7] (0, 0) _ rfl (jjw HCOL6.out _ _ _ _) Tryz.underlying27 rfl (by kernel_rfl)) rfl ?_
        unfold xx5
        rw [HR.out, HE.out, HC.out, HTX.out, ← HL.out]
        refine ⟨A7, 1 + i, c7, rfl, ?_, zz2 (HBX.out.trans (BUY.out.below.mono HBX.out.size)) (by omega) _ _ _ _⟩
        have hs7 := BUY.out.own.sl.weaken (F' := fun b => w.heap.size + 2 ≤ b) (fun b hb _ => by
         have e1 := HZ1.out; have e2 := HZ2.out; have e3 := HZC.out
         rcases hb with hb | hb
         · have := (HGX.out _ hb).1; omega
         · have := hb.2; omega)
        exact (hs7.keep (by simp) (fun b hb _ => xxx (by omega) _ _ _ _)).weaken fun b hb _ => by omega
end
end Go.Proofs.YtpmglcachffojaaGreatDoor
