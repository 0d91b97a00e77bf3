/- A part of what Puts leans on. -/
import Derived.Test.YtpmglcachffojaaGreatDoorZ33
import Derived.Test.YtpmglcachffojaaGreatDoorZ35
import Derived.Lib.AppendStr
set_option maxRecDepth 100000
set_option maxHeartbeats 16000000
namespace Go.Proofs.YtpmglcachffojaaGreatDoor
section
open Go Go.RowKit
structure StR (gs gt : Nat) (c : Int) (hn : Bool) (mn mx : VV) (S : Int) (w : World) : Prop where
 s : w.heap[gs]? = some (.cells #[.int .i64 c, .bool hn, .bool mn.null, .int .i64 mn.n, .string mn.s, .bool mx.null, .int .i64 mx.n, .string mx.s, .int .i64 0, .bool false] 109 (0, 0))
 t : w.heap[gt]? = some (.cells #[.int .i64 (tHi S), .int .u64 (tLo S : Nat)] 230 (0, 0))
theorem StR.call {gs gt : Nat} {c : Int} {hn : Bool} {mn mx : VV} {S : Int} {w w' : World} (h : StR gs gt c hn mn mx S w) (hb : Below w.heap.size w w') : StR gs gt c hn mn mx S w' :=
 ⟨(hb.block _ (zzb h.s)).trans h.s, (hb.block _ (zzb h.t)).trans h.t⟩
structure vv8 (w0 : World) (gs gt : Nat) (c : Int) (hn : Bool) (mn mx : VV) (S : Int) (v : VV) (w : World) : Prop where
 st : StR gs gt c hn mn mx S w
 b : w.heap[w0.heap.size]? = some (.cells #[.bool v.null, .int .i64 v.n, .string v.s] 74 (0, 0))
 size : w0.heap.size ≤ w.heap.size
 keep : ∀ b, b < w0.heap.size → b ≠ gs → b ≠ gt → w.heap[b]? = w0.heap[b]?
 below : ∀ (a : World) (B : Nat), Below B a w0 → B ≤ gs → B ≤ gt → Below B a w
 lts : gs < w0.heap.size
 ltt : gt < w0.heap.size
 ne : gs ≠ gt
section
variable {w0 w w' : World} {gs gt : Nat} {c : Int} {hn : Bool} {mn mx : VV} {S : Int} {v : VV}
theorem vv8.call (h : vv8 w0 gs gt c hn mn mx S v w) (hb : Below w.heap.size w w') : vv8 w0 gs gt c hn mn mx S v w' :=
 ⟨h.st.call hb, (hb.block _ (zzb h.b)).trans h.b, Nat.le_trans h.size hb.size, fun b h1 h2 h3 => (hb.block b (Nat.lt_of_lt_of_le h1 h.size)).trans (h.keep b h1 h2 h3), fun a B h1 h2 h3 => (h.below a B h1 h2 h3).trans (hb.mono (Nat.le_trans (Nat.le_trans h2 (Nat.le_of_lt h.lts)) h.size)), h.lts, h.ltt, h.ne⟩
theorem vv8.drew (h : vv8 w0 gs gt c hn mn mx S v w) : vv8 w0 gs gt c hn mn mx S v w.drew := h.call ((zR).drew)
theorem vv8.init (h : StR gs gt c hn mn mx S w) (hne : gs ≠ gt) : vv8 w gs gt c hn mn mx S v (w.alloc (.cells #[.bool v.null, .int .i64 v.n, .string v.s] 74)) :=
 ⟨h.call ((zR).alloc zN _), heap_alloc_new w _, by simp, fun b h1 _ _ => Below.heap_alloc w _ b h1, fun a B h1 h2 _ => h1.alloc (Nat.le_trans (Nat.le_trans h2 (Nat.le_of_lt (zzb h.s))) zN) _, zzb h.s, zzb h.t, hne⟩
theorem vv8.count (h : vv8 w0 gs gt c hn mn mx S v w) : vv8 w0 gs gt (c + 1) hn mn mx S v (w.setCell ⟨gs, 0, none⟩ (.int .i64 (c + 1))) :=
 ⟨⟨zza h.st.s rfl, (Below.heap_setCell _ _ _ _ h.ne.symm).trans h.st.t⟩, (Below.heap_setCell _ _ _ _ (by have := h.lts; show w0.heap.size ≠ gs; omega)).trans h.b, by simpa using h.size, fun b h1 h2 h3 => (Below.heap_setCell _ _ _ _ h2).trans (h.keep b h1 h2 h3), fun a B h1 h2 h3 => zzf (h.below a B h1 h2 h3) h2 _, h.lts, h.ltt, h.ne⟩
theorem vv8.minmax (h : vv8 w0 gs gt c hn mn mx S v w) (mn' mx' : VV) : vv8 w0 gs gt c hn mn' mx' S v ((((((w.setCell ⟨gs, 2, none⟩ (.bool mn'.null)).setCell ⟨gs, 3, none⟩ (.int .i64 mn'.n)).setCell ⟨gs, 4, none⟩ (.string mn'.s)).setCell ⟨gs, 5, none⟩ (.bool mx'.null)).setCell ⟨gs, 6, none⟩ (.int .i64 mx'.n)).setCell ⟨gs, 7, none⟩ (.string mx'.s)) := by
 have hgv : w0.heap.size ≠ gs := by have := h.lts; omega
 exact ⟨⟨(zza (cs' := #[.int .i64 c, .bool hn, .bool mn'.null, .int .i64 mn'.n, .string mn'.s, .bool mx'.null, .int .i64 mx'.n, .string mx'.s, .int .i64 0, .bool false]) (zza (cs' := #[.int .i64 c, .bool hn, .bool mn'.null, .int .i64 mn'.n, .string mn'.s, .bool mx'.null, .int .i64 mx'.n, .string mx.s, .int .i64 0, .bool false]) (zza (cs' := #[.int .i64 c, .bool hn, .bool mn'.null, .int .i64 mn'.n, .string mn'.s, .bool mx'.null, .int .i64 mx.n, .string mx.s, .int .i64 0, .bool false]) (zza (cs' := #[.int .i64 c, .bool hn, .bool mn'.null, .int .i64 mn'.n, .string mn'.s, .bool mx.null, .int .i64 mx.n, .string mx.s, .int .i64 0, .bool false]) (zza (cs' := #[.int .i64 c, .bool hn, .bool mn'.null, .int .i64 mn'.n, .string mn.s, .bool mx.null, .int .i64 mx.n, .string mx.s, .int .i64 0, .bool false]) (zza (cs' := #[.int .i64 c, .bool hn, .bool mn'.null, .int .i64 mn.n, .string mn.s, .bool mx.null, .int .i64 mx.n, .string mx.s, .int .i64 0, .bool false]) h.st.s rfl) rfl) rfl) rfl) rfl) rfl), ((Below.heap_setCell _ _ _ _ h.ne.symm).trans ((Below.heap_setCell _ _ _ _ h.ne.symm).trans ((Below.heap_setCell _ _ _ _ h.ne.symm).trans ((Below.heap_setCell _ _ _ _ h.ne.symm).trans ((Below.heap_setCell _ _ _ _ h.ne.symm).trans ((Below.heap_setCell _ _ _ _ h.ne.symm).trans h.st.t))))))⟩, ((Below.heap_setCell _ _ _ _ hgv).trans ((Below.heap_setCell _ _ _ _ hgv).trans ((Below.heap_setCell _ _ _ _ hgv).trans ((Below.heap_setCell _ _ _ _ hgv).trans ((Below.heap_setCell _ _ _ _ hgv).trans ((Below.heap_setCell _ _ _ _ hgv).trans h.b)))))), by simpa using h.size, fun b h1 h2 h3 => ((Below.heap_setCell _ _ _ _ h2).trans ((Below.heap_setCell _ _ _ _ h2).trans ((Below.heap_setCell _ _ _ _ h2).trans ((Below.heap_setCell _ _ _ _ h2).trans ((Below.heap_setCell _ _ _ _ h2).trans ((Below.heap_setCell _ _ _ _ h2).trans (h.keep b h1 h2 h3))))))), fun a B h1 h2 h3 => (zzf (zzf (zzf (zzf (zzf (zzf (h.below a B h1 h2 h3) h2 _) h2 _) h2 _) h2 _) h2 _) h2 _), h.lts, h.ltt, h.ne⟩
theorem vv8.total (h : vv8 w0 gs gt c hn mn mx S v w) (S' : Int) : vv8 w0 gs gt c hn mn mx S' v ((w.setCell ⟨gt, 0, none⟩ (.int .i64 (tHi S'))).setCell ⟨gt, 1, none⟩ (.int .u64 (tLo S' : Nat))) := by
 have hgv : w0.heap.size ≠ gt := by have := h.ltt; omega
 exact ⟨⟨(Below.heap_setCell _ _ _ _ h.ne).trans ((Below.heap_setCell _ _ _ _ h.ne).trans h.st.s), zza (zza h.st.t rfl) rfl⟩, (Below.heap_setCell _ _ _ _ hgv).trans ((Below.heap_setCell _ _ _ _ hgv).trans h.b), by simpa using h.size, fun b h1 h2 h3 => (Below.heap_setCell _ _ _ _ h3).trans ((Below.heap_setCell _ _ _ _ h3).trans (h.keep b h1 h2 h3)), fun a B h1 h2 h3 => zzf (zzf (h.below a B h1 h2 h3) h3 _) h3 _, h.lts, h.ltt, h.ne⟩
end
theorem note_any (gs gt : Nat) (c : Int) (hn : Bool) (mn mx : VV) (S : Int) (v : VV) (w : World) (h : StR gs gt c hn mn mx S w) (hne : gs ≠ gt) (hc : 0 ≤ c ∧ c ≤ 4096) (hS : -4096 ≤ tHi S ∧ tHi S ≤ 4096) (hv0 : -9223372036854775808 ≤ v.n) (hv1 : v.n ≤ 9223372036854775807) :
 Calls Tryz.prog 175 #[.agg #[.bool v.null, .int .i64 v.n, .string v.s], .pointer (some ⟨gs, 0, none⟩), .pointer (some ⟨gt, 0, none⟩)] w fun e w' => e = .returned (.tuple #[]) ∧ vv8 w gs gt (c + 1) hn (uuJ (-1) mn v) (uuJ 1 mx v) (S + v.n) v w' := by
 obtain ⟨mn', hmn'⟩ : ∃ mn', mn' = uuJ (-1) mn v := ⟨_, rfl⟩
 obtain ⟨mx', hmx'⟩ : ∃ mx', mx' = uuJ 1 mx v := ⟨_, rfl⟩
 rw [← hmn', ← hmx']
 have HMN := zH hmn'; have HMX := zH hmx'
 obtain ⟨w1, hw1⟩ : ∃ w1, w1 = w.alloc (.cells #[.bool v.null, .int .i64 v.n, .string v.s] 74) := ⟨_, rfl⟩
 have hn1 : vv8 w gs gt c hn mn mx S v w1 := by rw [hw1]; exact vv8.init h hne
 have HN1 := zH hn1; have HW1 := zH hw1
 have HADD := zH (tadd_any S v.n hv0 hv1 hS)
 obtain ⟨hc0, hc1⟩ := hc
 have hs1 := hn1.st.s
 obtain ⟨⟨s0, a0⟩, ⟨s1, a1⟩, ⟨s2, a2⟩, ⟨s3, a3⟩, ⟨s4, a4⟩, ⟨s5, a5⟩, ⟨s6, a6⟩, ⟨s7, a7⟩, ⟨s8, a8⟩, ⟨s9, a9⟩⟩ := zzn hs1
 clear hmn' hmx' hw1 hn1 hs1 h hS hv0 hv1
 go_enter Tryz.func175, Tryz.ntmps175
 go_upto_region 1 with fail
 rw [← HW1.out]
 go_upto_region 2 with fail
 clear s0 a0 s1 a1 s2 a2 s3 a3 s4 a4 s5 a5 s6 a6 s7 a7 s8 a8 s9 a9
 obtain ⟨w2, hw2⟩ : ∃ w2, w2 = w1.setCell ⟨gs, 0, none⟩ (.int .i64 (c + 1)) := ⟨_, rfl⟩
 have hn2 := HN1.out.count
 rw [← hw2] at hn2 ⊢
 have HN2 := zH hn2
 have hs2 := hn2.st.s; have hb2 := hn2.b
 obtain ⟨⟨s0, a0⟩, ⟨s1, a1⟩, ⟨s2, a2⟩, ⟨s3, a3⟩, ⟨s4, a4⟩, ⟨s5, a5⟩, ⟨s6, a6⟩, ⟨s7, a7⟩, ⟨s8, a8⟩, ⟨s9, a9⟩⟩ := zzn hs2
 obtain ⟨⟨b0, _⟩, ⟨b1, _⟩, ⟨b2, _⟩⟩ := zzJ hb2
 have hgv : gs ≠ w.heap.size := by have := hn2.lts; omega
 have hgv2 : w.heap.size ≠ gs := by have := hn2.lts; omega
 have bd0 : w2.drew.cell? ⟨w.heap.size, 0, none⟩ = some (.bool v.null) := b0
 have bd1 : w2.drew.cell? ⟨w.heap.size, 1, none⟩ = some (.int .i64 v.n) := b1
 have bd2 : w2.drew.cell? ⟨w.heap.size, 2, none⟩ = some (.string v.s) := b2
 clear hw2 hn2 hs2 hb2
 go_cut [] from 8 to 17 (fun wx => ∃ wd, wd = wx ∧ vv8 w gs gt (c + 1) hn mn' mx' S v wd)
 case first =>
  refine regL [(some 3, fun w' => w'.cell? ⟨gs, 2, none⟩ = some (.bool mn.null) ∧ w'.cell? ⟨gs, 3, none⟩ = some (.int .i64 mn.n) ∧ w'.cell? ⟨gs, 4, none⟩ = some (.string mn.s)), (some 7, fun w' => w'.cell? ⟨gs, 5, none⟩ = some (.bool mx.null) ∧ w'.cell? ⟨gs, 6, none⟩ = some (.int .i64 mx.n) ∧ w'.cell? ⟨gs, 7, none⟩ = some (.string mx.s)), (some 3, fun w' => w'.cell? ⟨w.heap.size, 0, none⟩ = some (.bool v.null) ∧ w'.cell? ⟨w.heap.size, 1, none⟩ = some (.int .i64 v.n) ∧ w'.cell? ⟨w.heap.size, 2, none⟩ = some (.string v.s)), (some 7, fun w' => w'.cell? ⟨w.heap.size, 0, none⟩ = some (.bool v.null) ∧ w'.cell? ⟨w.heap.size, 1, none⟩ = some (.int .i64 v.n) ∧ w'.cell? ⟨w.heap.size, 2, none⟩ = some (.string v.s))] (by kernel_rfl) ?_ (fun hHeld => ?_)
  · exact ⟨fun h => (by first | exact gone (c := 3) (by decide +kernel) h | exact ⟨s2, s3, s4⟩ | fail), fun h => (by first | exact gone (c := 7) (by decide +kernel) h | exact ⟨s5, s6, s7⟩ | exact ⟨p5, p6, p7⟩ | fail), fun h => (by first | exact gone (c := 3) (by decide +kernel) h | exact ⟨bd0, bd1, bd2⟩ | fail), fun h => (by first | exact gone (c := 7) (by decide +kernel) h | exact ⟨bd0, bd1, bd2⟩ | exact ⟨b05, b15, b25⟩ | fail), trivial⟩
  iterate 4
   all_goals
    repeat ((first | (refine tkP 0 (oi := ⟨_, _, _, _, _, _⟩) (v := ?_) rfl (by decide +kernel) rfl (fun _ _ _ h => h) rfl hHeld ?_ ?_) | (refine tkL 1 0 rfl (oi := ⟨_, _, _, _, _, _⟩) (v := ?_) rfl (by decide +kernel) rfl (fun _ _ _ h => h) rfl hHeld ?_ ?_) | (refine tkL 2 2 rfl (oi := ⟨_, _, _, _, _, _⟩) (v := ?_) rfl (by decide +kernel) rfl (fun _ _ _ h => h) rfl hHeld ?_ ?_) | (refine tkP 4 (oi := ⟨_, _, _, _, _, _⟩) (v := ?_) rfl (by decide +kernel) rfl (fun _ _ _ h => h) rfl hHeld ?_ ?_) | (refine tkL 5 1 rfl (oi := ⟨_, _, _, _, _, _⟩) (v := ?_) rfl (by decide +kernel) rfl (fun _ _ _ h => h) rfl hHeld ?_ ?_) | (refine tkL 6 3 rfl (oi := ⟨_, _, _, _, _, _⟩) (v := ?_) rfl (by decide +kernel) rfl (fun _ _ _ h => h) rfl hHeld ?_ ?_) | (refine tkP 8 (oi := ⟨_, _, _, _, _, _⟩) (v := ?_) rfl (by decide +kernel) rfl (fun _ _ _ h => h) rfl hHeld ?_ ?_) | (refine tkP 10 (oi := ⟨_, _, _, _, _, _⟩) (v := ?_) rfl (by decide +kernel) rfl (fun _ _ _ h => h) rfl hHeld ?_ ?_)); rotate_left; (focus (intro w; (try intro hSw); (try dsimp only at hSw); go_simp; try with_reducible rfl)); intro hHeld; (try simp only [Act.put]); (try simp only [List.setIfInBounds_toArray]); (try simp only [List.set_cons_succ]); (try simp only [List.set_cons_zero]))
    first | (refine rd1 3 (o := ⟨_, _, _, _, _, _⟩) (by decide +kernel) rfl (fun K hK => ?_)) | (refine rd1 7 (o := ⟨_, _, _, _, _, _⟩) (by decide +kernel) rfl (fun K hK => ?_)) | (refine rd1 9 (o := ⟨_, _, _, _, _, _⟩) (by decide +kernel) rfl (fun K hK => ?_)) | (refine rd1 11 (o := ⟨_, _, _, _, _, _⟩) (by decide +kernel) rfl (fun K hK => ?_))
   all_goals
    first  | (go_simp; (first | (go_at_call_of 176 (Value.int .i64 1); refine (qxB 1 (.inr rfl) mx v _).mono ?_; rintro e w6 ⟨rfl, hb6⟩; rw [← HMX.out]; have HN6 := zH (HN5.out.call hb6); have hs6 := HN6.out.st.s; obtain ⟨⟨r0, g0⟩, ⟨r1, g1⟩, ⟨r2, g2⟩, ⟨r3, g3⟩, ⟨r4, g4⟩, ⟨r5, g5⟩, ⟨r6, g6⟩, ⟨r7, g7⟩, ⟨r8, g8⟩, ⟨r9, g9⟩⟩ := zzn hs6; have b06 := zze hb6 b05; have b16 := zze hb6 b15; have b26 := zze hb6 b25; clear hs6) | (go_at_call 176; refine (qxB (-1) (.inl rfl) mn v _).mono ?_; rintro e w5 ⟨rfl, hb5⟩; rw [← HMN.out]; have HN5 := zH (HN2.out.drew.call hb5); have hs5 := HN5.out.st.s; obtain ⟨⟨p0, f0⟩, ⟨p1, f1⟩, ⟨p2, f2⟩, ⟨p3, f3⟩, ⟨p4, f4⟩, ⟨p5, f5⟩, ⟨p6, f6⟩, ⟨p7, f7⟩, ⟨p8, f8⟩, ⟨p9, f9⟩⟩ := zzn hs5; have b05 := zze (W := w2.drew) hb5 b0; have b15 := zze (W := w2.drew) hb5 b1; have b25 := zze (W := w2.drew) hb5 b2; clear hs5) | fail)) | go_simp
    refine hK.out _ _ ?_ (fun hHeld => ?_)
    · (try dsimp only); exact ⟨fun h => (by first | exact gone (c := 3) (by decide +kernel) h | exact ⟨s2, s3, s4⟩ | fail), fun h => (by first | exact gone (c := 7) (by decide +kernel) h | exact ⟨s5, s6, s7⟩ | exact ⟨p5, p6, p7⟩ | fail), fun h => (by first | exact gone (c := 3) (by decide +kernel) h | exact ⟨bd0, bd1, bd2⟩ | fail), fun h => (by first | exact gone (c := 7) (by decide +kernel) h | exact ⟨bd0, bd1, bd2⟩ | exact ⟨b05, b15, b25⟩ | fail), trivial⟩
    clear hK K; (try simp only [Act.put]); (try simp only [List.setIfInBounds_toArray]); (try simp only [List.set_cons_succ]); (try simp only [List.set_cons_zero])
  all_goals
   refine qzw (by decide +kernel) ?_ _
   go_wp2_with fail
   go_meet
   exact ⟨_, rfl, HN6.out.minmax mn' mx'⟩
 case rest =>
  obtain ⟨wd, rfl, hnd⟩ := hcut
  have HND := zH hnd
  clear s0 a0 s1 a1 s2 a2 s3 a3 s4 a4 s5 a5 s6 a6 s7 a7 s8 a8 s9 a9 b0 b1 b2
  have ht := hnd.st.t; have hbx := hnd.b
  have t0 : wd.cell? ⟨gt, 0, none⟩ = some (.int .i64 (tHi S)) := by rw [zC ht]; rfl
  have t1 : wd.cell? ⟨gt, 1, none⟩ = some (.int .u64 (tLo S : Nat)) := by rw [zC ht]; rfl
  obtain ⟨⟨b0, _⟩, ⟨b1, _⟩, ⟨b2, _⟩⟩ := zzJ hbx
  clear hnd ht hbx
  refine ‹∀ (a : Act) (w_1 : World), Code.wp _ _ _ a w_1 → _› _ _ ?_
  go_wp2_with (first
   | (go_at_call 177; refine (HADD.out _).mono ?_; rintro e w7 ⟨rfl, hb7⟩; have HN7 := zH (HND.out.call hb7); have ht7 := HN7.out.st.t; have t07 : w7.cell? ⟨gt, 0, none⟩ = some (.int .i64 (tHi S)) := (by rw [zC ht7]; rfl); have t17 : w7.cell? ⟨gt, 1, none⟩ = some (.int .u64 (tLo S : Nat)) := (by rw [zC ht7]; rfl); have f07 := zF ht7 0; have f17 := zF ht7 1; clear ht7 hb7)
   | fail)
  go_end0
  exact ⟨rfl, HN7.out.total (S + v.n)⟩
end
section
open Go Go.RowKit
theorem jjT (s : S0) {v : VV} (h : v.null = true) : vvr s v = ⟨s.count, true, s.min, s.max⟩ := by unfold vvr; rw [h]; rfl
theorem zqP (s : S0) {v : VV} (h : v.null = false) : vvr s v = ⟨s.count + 1, s.hasNull, uuJ (-1) s.min v, uuJ 1 s.max v⟩ := by
 unfold vvr uuJ
 rw [h, if_neg (by decide)]
 have e1 : decide (vcmp v s.min < 0) = decide (0 < -1 * vcmp v s.min) := by rw [decide_eq_decide]; omega
 have e2 : decide (0 < vcmp v s.max) = decide (0 < 1 * vcmp v s.max) := by rw [decide_eq_decide]; omega
 rw [e1, e2]
 rfl
theorem StR.hn {gs gt : Nat} {c : Int} {hn : Bool} {mn mx : VV} {S : Int} {w : World} (h : StR gs gt c hn mn mx S w) (hne : gs ≠ gt) : StR gs gt c true mn mx S (w.setCell ⟨gs, 1, none⟩ (.bool true)) :=
 ⟨zza h.s rfl, (Below.heap_setCell _ _ _ _ hne.symm).trans h.t⟩
theorem xqo : ∀ l : List VV, (∀ v ∈ l, v.ok) → -9223372036854775808 * (l.length : Int) ≤ sumV l ∧ sumV l ≤ 9223372036854775808 * (l.length : Int) := by
 suffices h : ∀ r : List VV, (∀ v ∈ r.reverse, v.ok) → -9223372036854775808 * (r.length : Int) ≤ sumV r.reverse ∧ sumV r.reverse ≤ 9223372036854775808 * (r.length : Int) by
  intro l hl
  have := h l.reverse (by rwa [List.reverse_reverse])
  rwa [List.reverse_reverse, List.length_reverse] at this
 intro r
 induction r with
 | nil => intro _; exact ⟨by simp [sumV], by simp [sumV]⟩
 | cons v r ih =>
   intro h
   rw [List.reverse_cons] at h ⊢
   have ih := ih (fun x hx => h x (List.mem_append_left _ hx))
   obtain ⟨h0, h1, _⟩ := h v (List.mem_append_right _ (List.mem_singleton.2 rfl))
   rw [qzV, List.length_cons]
   split
   · omega
   · omega
theorem sumV_hi {l : List VV} (h : ∀ v ∈ l, v.ok) (hn : l.length ≤ 4096) : -4096 ≤ tHi (sumV l) ∧ tHi (sumV l) ≤ 4096 := by
 have := xqo l h
 unfold tHi
 omega
structure OfW (w w4 : World) : Prop where
 eq : w4 = (((w.alloc (.cells #[.int .i64 0, .bool false, .bool false, .int .i64 0, .string ⟨#[]⟩, .bool false, .int .i64 0, .string ⟨#[]⟩, .int .i64 0, .bool false] 109)).alloc (.cells #[.bool true, .int .i64 0, .string ⟨#[]⟩] 74)).alloc (.cells #[.int .i64 0, .bool false, .bool true, .int .i64 0, .string ⟨#[]⟩, .bool true, .int .i64 0, .string ⟨#[]⟩, .int .i64 0, .bool false] 109)).alloc (.cells #[.int .i64 0, .int .u64 0] 230)
 below : Below w.heap.size w w4
 st : StR (w.heap.size + 2) (w.heap.size + 3) 0 false jjN jjN 0 w4
 r : w4.heap[w.heap.size]? = some (.cells #[.int .i64 0, .bool false, .bool false, .int .i64 0, .string ⟨#[]⟩, .bool false, .int .i64 0, .string ⟨#[]⟩, .int .i64 0, .bool false] 109 (0, 0))
theorem ofW (w : World) : ∃ w4, OfW w w4 := by
 obtain ⟨w1, h1⟩ : ∃ w1, w1 = w.alloc (.cells #[.int .i64 0, .bool false, .bool false, .int .i64 0, .string ⟨#[]⟩, .bool false, .int .i64 0, .string ⟨#[]⟩, .int .i64 0, .bool false] 109) := ⟨_, rfl⟩
 obtain ⟨w2, h2⟩ : ∃ w2, w2 = w1.alloc (.cells #[.bool true, .int .i64 0, .string ⟨#[]⟩] 74) := ⟨_, rfl⟩
 obtain ⟨w3, h3⟩ : ∃ w3, w3 = w2.alloc (.cells #[.int .i64 0, .bool false, .bool true, .int .i64 0, .string ⟨#[]⟩, .bool true, .int .i64 0, .string ⟨#[]⟩, .int .i64 0, .bool false] 109) := ⟨_, rfl⟩
 obtain ⟨w4, h4⟩ : ∃ w4, w4 = w3.alloc (.cells #[.int .i64 0, .int .u64 0] 230) := ⟨_, rfl⟩
 have z1 : w1.heap.size = w.heap.size + 1 := by rw [h1, zS]
 have z2 : w2.heap.size = w.heap.size + 2 := by rw [h2, zS, z1]
 have z3 : w3.heap.size = w.heap.size + 3 := by rw [h3, zS, z2]
 have g1 : w1.heap[w.heap.size]? = some (.cells #[.int .i64 0, .bool false, .bool false, .int .i64 0, .string ⟨#[]⟩, .bool false, .int .i64 0, .string ⟨#[]⟩, .int .i64 0, .bool false] 109 (0, 0)) := by rw [h1]; exact heap_alloc_new w _
 have g3 := heap_alloc_new w2 (.cells #[.int .i64 0, .bool false, .bool true, .int .i64 0, .string ⟨#[]⟩, .bool true, .int .i64 0, .string ⟨#[]⟩, .int .i64 0, .bool false] 109)
 rw [← h3, z2] at g3
 have g4 := heap_alloc_new w3 (.cells #[.int .i64 0, .int .u64 0] 230)
 rw [← h4, z3] at g4
 have b1 : Below w.heap.size w w1 := by rw [h1]; exact (zR).alloc zN _
 have b2 : Below w.heap.size w w2 := by rw [h2]; exact b1.alloc b1.size _
 have b3 : Below w.heap.size w w3 := by rw [h3]; exact b2.alloc b2.size _
 have b4 : Below w.heap.size w w4 := by rw [h4]; exact b3.alloc b3.size _
 refine ⟨w4, by rw [h4, h3, h2, h1], b4, ⟨?_, g4⟩, ?_⟩
 · rw [h4]; exact (Below.heap_alloc w3 _ _ (by omega)).trans g3
 · rw [h4, Below.heap_alloc w3 _ _ (by omega), h3, Below.heap_alloc w2 _ _ (by omega), h2, Below.heap_alloc w1 _ _ (by omega)]; exact g1
theorem sof_any (k : Int) (F : Nat → Prop) (A : Option Addr) (n c : Nat) (l : List VV) (w : World) (h : Sl tVV F w A n c l) (hn : n ≤ 4096) :
 Calls Tryz.prog 112 #[.int .i64 k, .slice A n c] w fun e w' => e = .returned (.agg #[.int .i64 (zzs k l).count, .bool (zzs k l).hasNull, .bool (zzs k l).min.null, .int .i64 (zzs k l).min.n, .string (zzs k l).min.s, .bool (zzs k l).max.null, .int .i64 (zzs k l).max.n, .string (zzs k l).max.s, .int .i64 (zzs k l).sum, .bool (zzs k l).over]) ∧ Below w.heap.size w w' := by
 have HL := zH h.len
 have HOK := zH (zqD h)
 obtain ⟨w4, h4⟩ := ofW w
 have HW := zH h4
 have HH := zH ((h.weaken (F' := fun b => b < w.heap.size) fun b _ hl => hl).below h4.below zN)
 have HN := zH hn
 obtain ⟨gs, hgs⟩ : ∃ gs, gs = w.heap.size + 2 := ⟨_, rfl⟩
 have hst0 := h4.st
 rw [show w.heap.size + 3 = (w.heap.size + 2) + 1 from rfl, ← hgs] at hst0
 obtain ⟨gt, hgt⟩ : ∃ gt, gt = gs + 1 := ⟨_, rfl⟩
 rw [← hgt] at hst0
 have HST0 := zH hst0
 have HG := zH (show w.heap.size < gs ∧ w.heap.size < gt ∧ gs ≠ gt by omega)
 have HGS := zH hgs; have HGT := zH hgt
 clear h h4 hst0 hgs hgt
 go_enter Tryz.func112, Tryz.ntmps112
 go_upto_region 4 with fail
 rw [← HW.out.eq, ← HGS.out, ← HGT.out]
 go_wp2_with fail
 go_loopw [18] (fun iv wr => ∃ i : Nat, i ≤ n ∧ iv = .int .i64 (i : Int) ∧ StR gs gt ((s0Of (l.take i)).count : Int) (s0Of (l.take i)).hasNull (s0Of (l.take i)).min (s0Of (l.take i)).max (sumV (l.take i)) wr ∧ wr.heap[w.heap.size]? = some (.cells #[.int .i64 0, .bool false, .bool false, .int .i64 0, .string ⟨#[]⟩, .bool false, .int .i64 0, .string ⟨#[]⟩, .int .i64 0, .bool false] 109 (0, 0)) ∧ Below w.heap.size w wr ∧ Hid (∀ b, b < w.heap.size → wr.heap[b]? = w4.heap[b]?)) (fun iv _ => n - (intOf iv).toNat)
 case atStart => exact ⟨0, Nat.zero_le _, rfl, HST0.out, HW.out.r, HW.out.below, zH fun _ _ => rfl⟩
 case round =>
  obtain ⟨i, hi, rfl, hst, hr, hb, HK⟩ := hrel
  have HST := zH hst; have HR := zH hr; have HB := zH hb
  have hsz4 : w4.heap.size ≤ wr.heap.size := by have h1 := zzb hst.t; have h2 := HW.out.eq; have h3 := HGT.out; have h5 := HGS.out; rw [h2]; simp; omega
  have HZ4 := zH hsz4
  clear hst hr hb hsz4
  by_cases hlt : i < n
  · have hil : i < l.length := by rw [← HL.out]; exact hlt
    obtain ⟨b, o, cs, rfl, _, hbl, hrep, hc⟩ := (HH.out.keep HZ4.out (fun b hb _ => HK.out b hb)).at_ hil (by decide)
    obtain ⟨v, hf⟩ : ∃ v, v = l[i] := ⟨_, rfl⟩
    obtain ⟨rfl, hok⟩ := hrep
    rw [← hf] at hc hok
    obtain ⟨hv0, hv1, _⟩ := hok
    have HC := zH (xxZ (l.take i) v); have HSV := zH (qzV (l.take i) v)
    have HTK := zH (show l.take (i + 1) = l.take i ++ [v] by rw [zT hil, ← hf])
    have hcl := kq6 (l.take i)
    rw [List.length_take] at hcl
    have hc0 : (0 : Int) ≤ ((s0Of (l.take i)).count : Int) ∧ ((s0Of (l.take i)).count : Int) ≤ 4096 := by have := HN.out; omega
    have hSb := sumV_hi (l := l.take i) (fun x hx => HOK.out x (List.mem_of_mem_take hx)) (by rw [List.length_take]; have := HN.out; omega)
    obtain ⟨s, hs⟩ : ∃ s, s = s0Of (l.take i) := ⟨_, rfl⟩
    obtain ⟨S, hS⟩ : ∃ S, S = sumV (l.take i) := ⟨_, rfl⟩
    rw [← hs] at HC HST hc0; rw [← hS] at HSV HST hSb
    have HC0 := zH hc0; have HSB := zH hSb
    obtain ⟨nu, x, t⟩ := v
    obtain ⟨g0, g1, g2⟩ := zzR hc
    have g0 : _ = some (Value.bool nu) := g0
    have g1 : _ = some (Value.int .i64 x) := g1
    have g2 : _ = some (Value.string t) := g2
    have hi0 : (0 : Int) ≤ (i : Int) := by omega
    have hi1 : (i : Int) < (n : Int) := by omega
    have HV := zH (show -9223372036854775808 ≤ x ∧ x ≤ 9223372036854775807 from ⟨hv0, hv1⟩)
    clear hc hf hs hS hcl hc0 hSb hv0 hv1
    go_upto_region 8 with fail
    obtain ⟨w5, hw5⟩ : ∃ w5, w5 = wr.alloc (.cells #[.bool nu, .int .i64 x, .string t] 74) := ⟨_, rfl⟩
    have hb5 : Below wr.heap.size wr w5 := by rw [hw5]; exact (zR).alloc zN _
    have hg5 : w5.heap[wr.heap.size]? = some (.cells #[.bool nu, .int .i64 x, .string t] 74 (0, 0)) := by rw [hw5]; exact heap_alloc_new _ _
    rw [← hw5]
    have HB5 := zH hb5
    have HST5 := zH (HST.out.call hb5)
    have HR5 := zH ((hb5.block _ (zzb HR.out)).trans HR.out)
    have HBB := zH (HB.out.trans (hb5.mono HB.out.size))
    have hwl := zzb HR.out
    have HWL := zH hwl
    obtain ⟨⟨b0, _⟩, ⟨b1, _⟩, ⟨b2, _⟩⟩ := zzJ hg5
    clear hw5 hb5 hg5 g0 g1 g2 hwl
    cases nu
    · have e1 := HC.out; have e2 := HSV.out
      rw [zqP s rfl] at e1
      rw [if_neg (by simp)] at e2
      have HE1 := zH e1; have HE2 := zH e2
      clear e1 e2
      go_wp2_with (first
       | (go_at_call 175; refine (note_any gs gt _ _ _ _ S ⟨false, x, t⟩ w5 HST5.out HG.out.2.2 HC0.out HSB.out HV.out.1 HV.out.2).mono ?_; rintro e w6 ⟨rfl, hn6⟩; have HN6 := zH hn6; clear hn6)
       | fail)
      go_roundw
      case rel =>
       have hgl := HG.out
       refine ⟨i + 1, by omega, by go_num, ?_, (HN6.out.keep _ (zzb HR5.out) (by omega) (by omega)).trans HR5.out, HN6.out.below _ _ HBB.out (by omega) (by omega), zH fun b hb => ?_⟩
       · rw [HTK.out, HE1.out, HE2.out]
         have h6 := HN6.out.st
         have e : (((s.count + 1 : Nat)) : Int) = (s.count : Int) + 1 := by omega
         rw [e]
         exact h6
       · have h1 := HWL.out
         exact (HN6.out.keep b (by have := HB5.out.size; omega) (by omega) (by omega)).trans ((HB5.out.block b (by omega)).trans (HK.out b hb))
      case measure => simp [intOf]; omega
    · have e1 := HC.out; have e2 := HSV.out
      rw [jjT s rfl] at e1
      rw [if_pos rfl] at e2
      have HE1 := zH e1; have HE2 := zH e2
      have hs5 := HST5.out.s
      have q1 : w5.cell? ⟨gs, 1, none⟩ = some (.bool s.hasNull) := by rw [zC hs5]; rfl
      have f1 := zF hs5 1
      clear e1 e2 hs5
      go_wp2_with fail
      go_roundw
      case rel =>
       have hgl := HG.out
       refine ⟨i + 1, by omega, by go_num, ?_, (Below.heap_setCell _ _ _ _ (by show w.heap.size ≠ gs; omega)).trans HR5.out, zzf HBB.out (by omega) _, zH fun b hb => ?_⟩
       · rw [HTK.out, HE1.out, HE2.out]
         exact HST5.out.hn hgl.2.2
       · have h1 := HWL.out
         exact (Below.heap_setCell _ _ _ _ (by show b ≠ gs; omega)).trans ((HB5.out.block b (by omega)).trans (HK.out b hb))
      case measure => simp [intOf]; omega
  · obtain rfl : i = n := by omega
    have e1 : l.take i = l := zL (by rw [← HL.out]; exact Nat.le_refl _)
    rw [e1] at HST
    obtain ⟨sm, hsm⟩ : ∃ sm : Int, sm = if decide (1 ≤ k ∧ k ≤ 5) && yy6 (sumV l) then sumV l else 0 := ⟨_, rfl⟩
    obtain ⟨ov, hov⟩ : ∃ ov : Bool, ov = (decide (1 ≤ k ∧ k ≤ 5) && !yy6 (sumV l)) := ⟨_, rfl⟩
    have hsu := xqn k ((s0Of l).count : Int) (s0Of l).hasNull (s0Of l).min (s0Of l).max (sumV l)
    rw [← hsm, ← hov] at hsu
    have HSM := zH hsu; have HS1 := zH hsm; have HS2 := zH hov
    have hs := HST.out.s; have ht := HST.out.t
    obtain ⟨⟨s0, _⟩, ⟨s1, _⟩, ⟨s2, _⟩, ⟨s3, _⟩, ⟨s4, _⟩, ⟨s5, _⟩, ⟨s6, _⟩, ⟨s7, _⟩, ⟨s8, _⟩, ⟨s9, _⟩⟩ := zzn hs
    have t0 : wr.cell? ⟨gt, 0, none⟩ = some (.int .i64 (tHi (sumV l))) := by rw [zC ht]; rfl
    have t1 : wr.cell? ⟨gt, 1, none⟩ = some (.int .u64 (tLo (sumV l) : Nat)) := by rw [zC ht]; rfl
    clear hs ht e1 hsu hsm hov
    go_wp2_with (first
     | (go_at_call 178; refine (HSM.out _).mono ?_; rintro e w6 ⟨rfl, hb6⟩; have HB6 := zH hb6; have HR6 := zH ((hb6.block _ (zzb HR.out)).trans HR.out); have hr6 := HR6.out; obtain ⟨⟨r0, y0⟩, ⟨r1, y1⟩, ⟨r2, y2⟩, ⟨r3, y3⟩, ⟨r4, y4⟩, ⟨r5, y5⟩, ⟨r6, y6⟩, ⟨r7, y7⟩, ⟨r8, y8⟩, ⟨r9, y9⟩⟩ := zzn hr6; clear hr6 hb6)
     | fail)
    exact bodyPost_ret (results_cell_row rfl _ _ w.heap.size 109 _ (0, 0) _ rfl (set10 HR6.out _ _ _ _ _ _ _ _ _ _) Tryz.underlying109 rfl (by kernel_rfl)) rfl ⟨by rw [HS1.out, HS2.out]; rfl, jjS (HB.out.trans (HB6.out.mono HB.out.size)) zN _ _ _ _ _ _ _ _ _ _⟩
end
section
open Go Go.RowKit
theorem c06 : C06 := fun F A n c l w h hn => r6put_any F A n c l w h hn
theorem c09 : C09 := fun F A n c l w h h1 h2 sg hs => r9put_any F A n c l w h h1 h2 sg hs
theorem c10 : C10 := fun F A n c l w h h1 h2 sg hs k hk => by
 obtain ⟨e1, e2, e3⟩ := wN_ok k (by omega)
 rw [e1]
 exact xqy F A n c l w h h1 h2 sg hs (wN k) e2 e3
theorem c11 : C11 := fun F A n c l w h hn sg hl => xqx c09 c10 F A n c l w h hn sg hl
end
section
open Go Go.RowKit
theorem jj2 {w : World} {B1 B2 n1 n2 c1 c2 z1 z2 : Nat} {A1 A2 : Option Addr} {e1 e2 : TypeId} {xs ys : List Value} (h1 : w.ownsRow B1 e1 z1 (.slice A1 n1 c1) n1 xs) (h2 : w.ownsRow B2 e2 z2 (.slice A2 n2 c2) n2 ys) (he : e1 ≠ e2) {g : Nat} (hA : A1.map (·.block) = some g) : A2 ≠ some ⟨g, 0, none⟩ := by
 intro hA2
 rcases h1.2 with ⟨q, _⟩ | ⟨g1, _, _, q, _, hg1, _⟩
 · injection q with q; rw [q] at hA; simp at hA
 rcases h2.2 with ⟨q2, _⟩ | ⟨g2, _, _, q2, _, hg2, _⟩
 · injection q2 with q2; rw [q2] at hA2; simp at hA2
 injection q with q; injection q2 with q2
 rw [q] at hA; injection hA with hA
 have hA : g1 = g := hA
 rw [q2] at hA2; injection hA2 with hA2; injection hA2 with hA2 _ _
 subst hA; subst hA2
 rw [hg1] at hg2
 injection hg2 with hg2
 injection hg2 with _ h3 _
 exact he h3
section
variable (w a0 : World) {ops : Array Oper} {rest : List Oper} {o : Oper} {a : Act} {Q : Exit → Act → World → Prop}
theorem aps (hgd : o.guard = none) (s x : Operand) (ho : o.op = .call { callee := .builtin .append, args := #[s, x], argTypes := #[41, 9] }) (B : Nat) (A : Option Addr) (n c : Nat) (xs : List UInt8) (hs : a.eval s = .slice A n c)
 (hown : OwnB w B A n c xs) (hb : Below B a0 w) (hB : B ≤ a0.heap.size) (t : ByteArray) (hx : a.eval x = .string t) (hlim : n + t.size ≤ 140737488355328)
 (h : ∀ A' c' w', OwnB w' B A' (n + t.size) c' (xs ++ t.data.toList) → Below B a0 w' → w.grownBy w' (A.map (·.block)) → wpList Tryz.prog ops Q rest (a.put o.dst (.slice A' (n + t.size) c')) w') : wpList Tryz.prog ops Q (o :: rest) a w := by
 obtain ⟨i, hi, hz, hs1, hby⟩ : ∃ i, Tryz.prog.info? 5 = some i ∧ i.zero = some (.int .u8 0) ∧ i.size = 1 ∧ i.bytes = 1 := by
  have := vvJ
  cases hq : Tryz.prog.info? 5 with
  | none => rw [hq] at this; cases this
  | some i =>
    rw [hq] at this
    simp at this
    exact ⟨i, rfl, this.1, this.2.1, this.2.2⟩
 refine Lib.wpList_append_own_string w hgd s x 41 9 ho B 5 i yya vvK hi hz hs1 hby (.slice A n c) n (bvs xs) hs hown t hx (by unfold maxLen; omega) hlim (by have := hb.size; omega) ?_
 intro v' w' hown' hgr _
 rw [zzd] at hgr
 have hbw : Below B a0 w' := hb.grown hgr (Nat.le_trans hB hb.size) (fun g hg => (OwnF.lies' hown.own hg).2.1)
 have hv : ∃ A' c', v' = .slice A' (n + t.size) c' := by
  rcases hown'.2 with ⟨rfl, hn⟩ | ⟨g, cap, cur, rfl, _⟩
  · exact ⟨none, 0, by rw [hn]⟩
  · exact ⟨_, _, rfl⟩
 obtain ⟨A', c', rfl⟩ := hv
 refine h A' c' w' ?_ hbw hgr
 have e : bvs (xs ++ t.data.toList) = bvs xs ++ Lib.strCells t := by unfold bvs Lib.strCells; rw [List.map_append]; rfl
 unfold OwnB
 rw [e]
 exact hown'
end
theorem xqz {l : List ByteArray} {i : Nat} (h : i < l.length) : zzC (l.take (i + 1)) = zzC (l.take i) ++ l[i].data.toList := by
 unfold zzC zzp
 rw [zT h, List.map_append, List.flatten_append, List.map_singleton, List.flatten_singleton]
structure AllR (w0 : World) (A1 : Option Addr) (n1 c1 : Nat) (bs : List UInt8) (A2 : Option Addr) (n2 c2 : Nat) (ls : List Int) (w : World) : Prop where
 b : OwnB w w0.heap.size A1 n1 c1 bs
 n : OwnF tI64 3 (fun _ => False) w w0.heap.size A2 n2 c2 ls
 below : Below w0.heap.size w0 w
theorem AllR.push1 {w0 w w' : World} {A1 A2 A' : Option Addr} {n1 c1 n2 c2 n' c' : Nat} {bs bs' : List UInt8} {ls : List Int} (h : AllR w0 A1 n1 c1 bs A2 n2 c2 ls w) (h1 : OwnB w' w0.heap.size A' n' c' bs') (h2 : Below w0.heap.size w0 w') (h3 : w.grownBy w' (A1.map (·.block))) : AllR w0 A' n' c' bs' A2 n2 c2 ls w' :=
 ⟨h1, h.n.grown h3 fun _ hg => ⟨fun h => h, jj2 h.b (OwnF.row1 oneI64 h.n).1 (by decide) hg⟩, h2⟩
theorem AllR.push2 {F : Nat → Prop} {w0 w w' : World} {o : Obj} {A1 A2 A' : Option Addr} {n1 c1 n2 c2 n' c' : Nat} {bs : List UInt8} {ls ls' : List Int} (h : AllR w0 A1 n1 c1 bs A2 n2 c2 ls w) (ha : ApdL tI64 3 F w0 (w.alloc o) w' w0.heap.size A2 A' n' c' ls') : AllR w0 A1 n1 c1 bs A' n' c' ls' w' :=
 ⟨yye ⟨_, (h.b.own.alloc o).grown ha.grown fun _ hg => ⟨fun h => h, jj2 (OwnF.row1 oneI64 h.n).1 h.b (by decide) hg⟩⟩, ha.own.flat xxO, ha.below⟩
theorem qxG (F : Nat → Prop) (A : Option Addr) (n c : Nat) (l : List ByteArray) (w : World) (h : Sl tStr F w A n c l) (hn : n ≤ 4096) (hs : ∀ s ∈ l, s.size ≤ 300) :
 Calls Tryz.prog 108 #[.slice A n c] w fun e w' => ∃ A1 n1 c1 A2 n2 c2, e = .returned (.tuple #[.slice A1 n1 c1, .slice A2 n2 c2]) ∧ OwnB w' w.heap.size A1 n1 c1 (zzC l) ∧ OwnB w' w.heap.size A2 n2 c2 (xxD l) ∧ Below w.heap.size w w' := by
 have HH := zH h; have HL := zH h.len; have HS := zH hs
 have hr0 : AllR w _ 0 0 [] _ 0 0 [] ((w.alloc (.cells #[] 5)).alloc (.cells #[] 3)) :=
  ⟨(OwnB.new0 w w.heap.size zN).keepB ((zR).alloc zN _), OwnF.empty tI64 3 _ (w.alloc (.cells #[] 5)) w.heap.size (by simp) (fun _ hb => hb.elim), ((zR).alloc zN _).alloc (by simp) _⟩
 have HR0 := zH hr0
 clear h hs hr0
 go_enter Tryz.func108, Tryz.ntmps108
 go_wp2_with fail
 go_loopw [4, 5, 6] (fun bv nv iv wr => ∃ (i : Nat) (A1 : Option Addr) (m c1 : Nat) (A2 : Option Addr) (c2 : Nat), i ≤ n ∧ m ≤ 300 * i ∧ iv = .int .i64 (i : Int) ∧ bv = .slice A1 m c1 ∧ nv = .slice A2 i c2 ∧ AllR w A1 m c1 (zzC (l.take i)) A2 i c2 ((l.take i).map fun s => (s.size : Int)) wr) (fun _ _ iv _ => n - (intOf iv).toNat)
 case atStart => exact ⟨0, _, 0, 0, _, 0, Nat.zero_le _, Nat.zero_le _, rfl, rfl, rfl, by simpa [zzC, zzp] using HR0.out⟩
 case round =>
  obtain ⟨i, A1, m, c1, A2, c2, hi, hm, rfl, rfl, rfl, hr⟩ := hrel
  have HR := zH hr
  clear hr
  by_cases hlt : i < n
  · have hil : i < l.length := by rw [← HL.out]; exact hlt
    obtain ⟨b, o, u, rfl, _, hbl, hr, hc0⟩ := HH.out.at1 hil rfl
    obtain ⟨s, hs⟩ : ∃ s, s = l[i] := ⟨_, rfl⟩
    obtain ⟨hr, _⟩ := hr
    injection hr with hr; subst hr
    rw [← hs] at hc0
    have hsz : s.size ≤ 300 := by rw [hs]; exact HS.out _ (List.getElem_mem _)
    have HC0 := zH hc0
    have cl := zze HR.out.below hc0
    have HT1 := zH (show zzC (l.take (i + 1)) = zzC (l.take i) ++ s.data.toList by rw [xqz hil, hs])
    have HT2 := zH (show (l.take (i + 1)).map (fun s => (s.size : Int)) = (l.take i).map (fun s => (s.size : Int)) ++ [(s.size : Int)] by rw [zT hil, List.map_append, hs]; rfl)
    have hi0 : (0 : Int) ≤ (i : Int) := by omega
    have hi1 : (i : Int) < (n : Int) := by omega
    obtain ⟨z, hz⟩ : ∃ z, z = s.size := ⟨_, rfl⟩
    have HZ := zH hz
    clear hs hc0
    go_upto_region 7 with (first
     | (at_builtin; refine aps _ w rfl (.tmp 17) (.tmp 21) rfl w.heap.size A1 m c1 (zzC (l.take i)) rfl HR.out.b HR.out.below zN s rfl (by omega) ?_; intro A3 c3 w3 h3 hb3 hg3; have HR3 := zH (HR.out.push1 h3 hb3 hg3); clear h3 hb3 hg3)
     | fail)
    clear cl
    have cl := zze HR3.out.below HC0.out
    go_wp2_with (first
     | (at_builtin; refine apl1 (T := tI64) zzQ w3 w rfl (.tmp 23) (.tmp 29) rfl w.heap.size A2 i c2 _ (by rfl) (fun _ => False) (fun _ => False) HR3.out.n HR3.out.below zN _ (by rfl) [.int .i64 (s.size : Int)] (s.size : Int) ⟨rfl, by omega, by omega⟩ 3 rfl (fun _ _ _ _ h4 => h4) (by omega) ?_; intro A5 c5 w5 h5; have HR5 := zH (HR3.out.push2 h5); clear h5)
     | fail)
    go_roundw
    case rel => exact ⟨i + 1, A3, m + s.size, c3, A5, c5, by omega, by omega, by go_num, rfl, rfl, by rw [HT1.out, HT2.out]; exact HR5.out⟩
    case measure => simp [intOf]; omega
  · obtain rfl : i = n := by omega
    have e1 : l.take i = l := zL (by rw [← HL.out]; exact Nat.le_refl _)
    rw [e1] at HR
    have HOK : Hid (zzY false (l.map fun s => (s.size : Int))) := zH (by
     intro x hx
     obtain ⟨s, hs, rfl⟩ := List.mem_map.1 hx
     have := HS.out s hs
     exact ⟨by omega, by omega, .inr (by omega)⟩)
    have HLB := zH (show xxD l = rleB false (l.map fun s => (s.size : Int)) from rfl)
    clear e1
    go_wp2_with (first
     | (go_at_call 106; refine (c11 _ A2 i c2 _ wr (OwnF.sl HR.out.n) hn false HOK.out).mono ?_; rintro e w5 ⟨hb5, A5, n5, c5, rfl, ho5⟩; have HO5 := zH ho5; have HB5 := zH hb5; clear ho5 hb5)
     | fail)
    go_ret2
    exact ⟨A1, m, c1, A5, n5, c5, rfl, HR.out.b.keepB HB5.out, by rw [HLB.out]; exact HO5.out.down HR.out.below.size, HR.out.below.trans (HB5.out.mono HR.out.below.size)⟩
end
section
open Go Go.RowKit Go.Maps
structure ColZ (g : Nat) (w : World) : Prop where
 at_ : w.heap[g]? = some (.cells #[.int .i64 0, .int .i64 0, .int .i64 0, .slice none 0 0] 27 (0, 0))
theorem ColZ.keep {g : Nat} {w w' : World} (h : ColZ g w) (hb : Below w.heap.size w w') : ColZ g w' := ⟨(hb.block _ (zzb h.at_)).trans h.at_⟩
theorem ColZ.lt {g : Nat} {w : World} (h : ColZ g w) : g < w.heap.size := zzb h.at_
theorem ColZ.cells {g : Nat} {w : World} (h : ColZ g w) (o : Obj) :
 ((w.alloc o).cell? ⟨g, 0, none⟩ = some (.int .i64 0) ∧ (w.alloc o).frozen? ⟨g, 0, none⟩ = false) ∧ ((w.alloc o).cell? ⟨g, 1, none⟩ = some (.int .i64 0) ∧ (w.alloc o).frozen? ⟨g, 1, none⟩ = false) ∧ ((w.alloc o).cell? ⟨g, 2, none⟩ = some (.int .i64 0) ∧ (w.alloc o).frozen? ⟨g, 2, none⟩ = false) ∧ ((w.alloc o).cell? ⟨g, 3, none⟩ = some (.slice none 0 0) ∧ (w.alloc o).frozen? ⟨g, 3, none⟩ = false) := by
 have hg : (w.alloc o).heap[g]? = some (.cells #[.int .i64 0, .int .i64 0, .int .i64 0, .slice none 0 0] 27 (0, 0)) := (Below.heap_alloc w o _ (zzb h.at_)).trans h.at_
 exact ⟨⟨by rw [zC hg]; rfl, zF hg 0⟩, ⟨by rw [zC hg]; rfl, zF hg 1⟩, ⟨by rw [zC hg]; rfl, zF hg 2⟩, ⟨by rw [zC hg]; rfl, zF hg 3⟩⟩
theorem vvo {w : World} {B B' : Nat} {A : Option Addr} {n c : Nat} {bs : List UInt8} (h : OwnB w B A n c bs) (hB : B' ≤ B) : Sl tU8 (fun b => B' ≤ b) w A n c bs :=
 h.own.sl.weaken fun b hb _ => by
  rcases hb with hb | hb
  · exact hb.elim
  · exact Nat.le_trans hB hb.2
theorem xqA (F : Nat → Prop) (A : Option Addr) (n c : Nat) (l : List ByteArray) (w : World) (h : Sl tStr F w A n c l) (hn : n ≤ 4096) (hs : ∀ s ∈ l, s.size ≤ 300) :
 Calls Tryz.prog 51 #[.slice A n c] w (uuA l w) := by
 have HL := zH h.len; have H := zH h; have HS := zH hs
 have hn1 : ¬ (n : Int) > 4096 := by omega
 have hn2 : ¬ (4096 : Int) < n := by omega
 have HWL := zH (jjK l)
 obtain ⟨m, hm⟩ : ∃ m, m = (zzF l).length := ⟨_, rfl⟩
 have HM := zH hm
 have hm4 : m ≤ 4096 := by have := HWL.out; rw [← HM.out, ← HL.out] at this; omega
 obtain ⟨wc, hwc⟩ : ∃ wc, wc = w.alloc (.cells #[.int .i64 0, .int .i64 0, .int .i64 0, .slice none 0 0] 27) := ⟨_, rfl⟩
 have hbc : Below w.heap.size w wc := by rw [hwc]; exact (zR).alloc zN _
 have hgc : ColZ w.heap.size wc := ⟨by rw [hwc]; exact heap_alloc_new w _⟩
 have HWC := zH hwc; have HBC := zH hbc; have HGC := zH hgc
 have HC := zH (h.below hbc zN)
 clear h hs hm hwc hbc hgc
 go_enter Tryz.func51, Tryz.ntmps51
 go_upto_region 1 with fail
 rw [← HWC.out]
 go_wp2_with fail
 go_loopw [4] (fun iv wr => ∃ i : Nat, i ≤ n ∧ iv = .int .i64 (i : Int) ∧ wc = wr) (fun iv _ => n - (intOf iv).toNat)
 case atStart => exact ⟨0, Nat.zero_le _, rfl, rfl⟩
 case round =>
  obtain ⟨i, hi, rfl, rfl⟩ := hrel
  by_cases hlt : i < n
  · have hil : i < l.length := by rw [← HL.out]; exact hlt
    obtain ⟨b, o, u, rfl, _, _, hr, hc⟩ := HC.out.at1 hil rfl
    have hsz := HS.out _ (List.getElem_mem hil)
    obtain ⟨s, hs⟩ : ∃ s, s = l[i] := ⟨_, rfl⟩
    obtain ⟨hr, _⟩ := hr
    injection hr with hr; subst hr
    rw [← hs] at hc hsz
    have hz1 : ¬ (s.size : Int) > 300 := by omega
    have hz2 : ¬ (300 : Int) < (s.size : Int) := by omega
    have hz3 : ¬ 300 < s.size := by omega
    have hi0 : (0 : Int) ≤ (i : Int) := by omega
    have hi1 : (i : Int) < (n : Int) := by omega
    clear hs
    go_wp2_with fail
    go_roundw
    case rel => exact ⟨i + 1, by omega, by go_num, trivial⟩
    case measure => simp [intOf]; omega
  · obtain rfl : i = n := by omega
    go_upto_if 38 with (first
     | (go_at_call 107; refine (xqq F A i c l _ HC.out hn).mono ?_; rintro e w3 ⟨A3, c3, rfl, ho3, hb3⟩; rw [← HM.out] at ho3 ⊢; have HO3 := zH ho3; have HB3 := zH hb3; clear ho3 hb3)
     | fail)
    have HB03 := zH (HBC.out.trans (HB3.out.mono HBC.out.size))
    have HG3 := zH (HGC.out.keep HB3.out)
    have HZ3 := zH (show w.heap.size + 1 ≤ w3.heap.size from HG3.out.lt)
    by_cases hlt2 : i < 2 * m
    · have hI : (i : Int) < 2 * (m : Int) := by omega
      have e1 : txC l = (1, 0, [(2, zzC l), (3, xxD l)]) := if_pos (by rw [← HL.out, ← HM.out]; exact hlt2)
      have HE1 := zH e1
      clear e1
      go_upto_region 11 with (first
       | (go_at_call 108; refine (qxG F A i c l _ (H.out.below HB03.out zN) hn HS.out).mono ?_; rintro e w5 ⟨A1, n1, c1, A2, n2, c2, rfl, ho1, ho2, hb5⟩; have HO1 := zH ho1; have HO2 := zH ho2; have HB5 := zH hb5; clear ho1 ho2 hb5)
       | fail)
      have HG5 := zH (HG3.out.keep HB5.out)
      have hga := HG5.out.cells
      have z0 := fun o => (hga o).1.1; have y0 := fun o => (hga o).1.2; have z1 := fun o => (hga o).2.1.1; have y1 := fun o => (hga o).2.1.2
      have z2 := fun o => (hga o).2.2.1.1; have y2 := fun o => (hga o).2.2.1.2; have z3 := fun o => (hga o).2.2.2.1; have y3 := fun o => (hga o).2.2.2.2
      clear hga
      have s1 := vvo (B' := w.heap.size + 1) HO1.out HZ3.out
      have s2 := vvo (B' := w.heap.size + 1) HO2.out HZ3.out
      have s3 := Sl.news (T := zzw) (F := fun b => w.heap.size + 1 ≤ b) (w := w5) (Reps.mk2 (T := zzw) (x1 := ((2 : Int), zzC l)) (x2 := ((3 : Int), xxD l)) ⟨[.int .i64 2], _, rfl, ⟨rfl, yyn 2 (by omega)⟩, _, _, _, rfl, s1⟩ ⟨[.int .i64 3], _, rfl, ⟨rfl, yyn 3 (by omega)⟩, _, _, _, rfl, s2⟩) 55 2 rfl (by omega) _ rfl
      have HS3 := zH s3
      clear s1 s2 s3
      go_wp2_with fail
      refine bodyPost_ret (zzm rfl _ _ w.heap.size 27 #[.int .i64 (i : Int), .int .i64 1, .int .i64 0, .slice (some ⟨w5.heap.size, 0, none⟩) 2 2] (0, 0) _ rfl (zza (zza (zza (zza ((Below.heap_alloc w5 _ _ HG5.out.lt).trans HG5.out.at_) rfl) rfl) rfl) rfl) Tryz.underlying27 rfl (by kernel_rfl)) rfl ?_
      unfold uuA
      rw [HE1.out]
      have hz5 := HG5.out.lt
      refine ⟨some ⟨w5.heap.size, 0, none⟩, 2, 2, by rw [← HL.out]; rfl, (HS3.out.keep (by simp) (fun b hb _ => ?_)).weaken (fun b hb _ => by rcases hb with hb | hb <;> omega), ?_⟩
      · have hne : b ≠ w.heap.size := by rcases hb with hb | hb <;> omega
        exact (Below.heap_setCell _ _ _ _ hne).trans ((Below.heap_setCell _ _ _ _ hne).trans ((Below.heap_setCell _ _ _ _ hne).trans (Below.heap_setCell _ _ _ _ hne)))
      · have hbb : Below w.heap.size w w5 := HB03.out.trans (HB5.out.mono HB03.out.size)
        exact zzf (zzf (zzf (zzf (hbb.alloc hbb.size _) zN _) zN _) zN _) zN _
    · have hI : ¬ (i : Int) < 2 * (m : Int) := by omega
      have e1 : txC l = (2, (m : Int), [(2, rleB false (l.map fun s : ByteArray => (zzG l s : Int))), (3, xxD (zzi l)), (4, zzC (zzi l))]) := by
       rw [HM.out]
       exact if_neg (by rw [← HL.out, ← HM.out]; exact hlt2)
      have HE1 := zH e1
      clear e1
      have HP0 := zH (OwnF.empty tI64 3 (fun _ => False) w3 w3.heap.size zN (fun _ hb => hb.elim))
      have HPB0 := zH (show Below w3.heap.size w3 (w3.alloc (.cells #[] 3)) from (zR).alloc zN _)
      go_wp2_with fail
      go_loopw [8, 9] (fun v iv wx => ∃ (j : Nat) (A5 : Option Addr) (c5 : Nat) (G : Nat → Prop), j ≤ i ∧ iv = .int .i64 (j : Int) ∧ v = .slice A5 j c5 ∧ OwnF tI64 3 G wx w3.heap.size A5 j c5 ((l.take j).map fun s : ByteArray => (zzG l s : Int)) ∧ Below w3.heap.size w3 wx) (fun _ iv _ => i - (intOf iv).toNat)
      case atStart => exact ⟨0, _, 0, _, Nat.zero_le _, rfl, rfl, HP0.out, HPB0.out⟩
      case round =>
       obtain ⟨j, A5, c5, G, hj, rfl, rfl, hown5, hb5⟩ := hrel
       have HO5 := zH hown5; have HB5 := zH hb5
       clear hown5 hb5
       by_cases hjn : j < i
       · have hjl : j < l.length := by rw [← HL.out]; exact hjn
         obtain ⟨b, o, u, rfl, _, hbl, hr, hc⟩ := (H.out.below (HB03.out.trans (HB5.out.mono HB03.out.size)) zN).at1 hjl rfl
         have hsj := List.getElem_mem hjl
         obtain ⟨t, ht⟩ : ∃ t, t = l[j] := ⟨_, rfl⟩
         obtain ⟨hr, hsz⟩ := hr
         injection hr with hr; subst hr
         rw [← ht] at hc hsz hsj
         have hpl := yyK l hsj
         have hp4 : zzG l t ≤ 4096 := by have := HM.out; omega
         have HTJ := zH ht
         have HPL := zH (show ∀ r, zqL (zzi l) t r → r = (zzG l t : Int) from fun r hr => zqM hsj hr)
         have HP5 := zH (show (0 : Int) ≤ (zzG l t : Int) ∧ (zzG l t : Int) ≤ 4096 by omega)
         have hi0 : (0 : Int) ≤ (j : Int) := by omega
         have hi1 : (j : Int) < (i : Int) := by omega
         clear ht hsj hpl hsz hp4
         go_wp2_with (first
          | (go_at_call 109; refine (uuu _ A3 m c3 (zzi l) _ ((OwnF.sl HO3.out).below HB5.out zN) t hm4).mono ?_; rintro e w6 ⟨⟨r, rfl, hpl⟩, rfl⟩; obtain rfl := HPL.out r hpl; clear hpl)
          | (at_builtin; refine apl1 (T := tI64) zzQ wr w3 rfl (.tmp 59) (.tmp 66) rfl w3.heap.size A5 j c5 ((l.take j).map fun s : ByteArray => (zzG l s : Int)) (by rfl) G (fun _ => False) HO5.out HB5.out zN _ (by rfl) [.int .i64 (zzG l t : Int)] (zzG l t : Int) ⟨rfl, yyn _ HP5.out⟩ 3 rfl (fun _ _ _ _ h4 => h4) (by omega) ?_; intro A6 c6 w6 h6)
          | fail)
         go_roundw
         case rel => exact ⟨j + 1, A6, c6, _, by omega, by go_num, rfl, by rw [zT hjl, List.map_append, ← HTJ.out]; exact h6.own, h6.below⟩
         case measure => simp [intOf]; omega
       · obtain rfl : j = i := by omega
         have htk : l.take j = l := zL (by rw [← HL.out]; exact Nat.le_refl _)
         rw [htk] at HO5
         have HPS := zH HO5.out.sl
         have HOK := zH (show zzY false (l.map fun s : ByteArray => (zzG l s : Int)) from by
          intro x hx
          obtain ⟨s, hs, rfl⟩ := List.mem_map.1 hx
          have h1 := yyK l hs
          have h2 := HM.out
          exact ⟨by omega, by omega, .inr (by omega)⟩)
         have HSM := zH (xxF HS.out)
         have HWS := zH ((OwnF.sl HO3.out).below HB5.out zN)
         clear htk
         go_upto_region 18 with (first
          | (go_at_call 106; refine (c11 _ A5 j c5 _ wr HPS.out hn false HOK.out).mono ?_; rintro e w5 ⟨hb6, A7, n7, c7, rfl, ho7⟩; have HO7 := zH ho7; have HB7 := zH hb6; clear ho7 hb6)
          | fail)
         have HB57 := zH (HB5.out.trans (HB7.out.mono HB5.out.size))
         have HWS7 := zH (HWS.out.below HB7.out zN)
         go_upto_region 19 with (first
          | (go_at_call 108; refine (qxG _ A3 m c3 (zzi l) _ HWS7.out hm4 HSM.out).mono ?_; rintro e w8 ⟨A1, n1, c1, A2, n2, c2, rfl, ho1, ho2, hb8⟩; have HO1 := zH ho1; have HO2 := zH ho2; have HB8 := zH hb8; clear ho1 ho2 hb8)
          | fail)
         have HB38 := zH (HB57.out.trans (HB8.out.mono HB57.out.size))
         have HG8 := zH (HG3.out.keep HB38.out)
         have hga := HG8.out.cells
         have z0 := fun o => (hga o).1.1; have y0 := fun o => (hga o).1.2; have z1 := fun o => (hga o).2.1.1; have y1 := fun o => (hga o).2.1.2
         have z2 := fun o => (hga o).2.2.1.1; have y2 := fun o => (hga o).2.2.1.2; have z3 := fun o => (hga o).2.2.2.1; have y3 := fun o => (hga o).2.2.2.2
         clear hga
         have hz57 := HB57.out.size
         have hzr := HB5.out.size
         have s1 := vvo (B' := w.heap.size + 1) (HO7.out.keepB HB8.out) (Nat.le_trans HZ3.out hzr)
         have s2 := vvo (B' := w.heap.size + 1) HO2.out (Nat.le_trans HZ3.out hz57)
         have s4 := vvo (B' := w.heap.size + 1) HO1.out (Nat.le_trans HZ3.out hz57)
         have s3 := Sl.news (T := zzw) (F := fun b => w.heap.size + 1 ≤ b) (w := w8) (Reps.mk3 (T := zzw) (x1 := ((2 : Int), rleB false (l.map fun s : ByteArray => (zzG l s : Int)))) (x2 := ((3 : Int), xxD (zzi l))) (x3 := ((4 : Int), zzC (zzi l))) ⟨[.int .i64 2], _, rfl, ⟨rfl, yyn 2 (by omega)⟩, _, _, _, rfl, s1⟩ ⟨[.int .i64 3], _, rfl, ⟨rfl, yyn 3 (by omega)⟩, _, _, _, rfl, s2⟩ ⟨[.int .i64 4], _, rfl, ⟨rfl, yyn 4 (by omega)⟩, _, _, _, rfl, s4⟩) 55 3 rfl (by omega) _ rfl
         have HS3 := zH s3
         clear s1 s2 s3 s4 hz57 hzr
         go_wp2_with fail
         refine bodyPost_ret (zzm rfl _ _ w.heap.size 27 #[.int .i64 (j : Int), .int .i64 2, .int .i64 (m : Int), .slice (some ⟨w8.heap.size, 0, none⟩) 3 3] (0, 0) _ rfl (zza (zza (zza (zza ((Below.heap_alloc w8 _ _ HG8.out.lt).trans HG8.out.at_) rfl) rfl) rfl) rfl) Tryz.underlying27 rfl (by kernel_rfl)) rfl ?_
         unfold uuA
         rw [HE1.out]
         have hz8 := HG8.out.lt
         refine ⟨some ⟨w8.heap.size, 0, none⟩, 3, 3, by rw [← HL.out]; rfl, (HS3.out.keep (by simp) (fun b hb _ => ?_)).weaken (fun b hb _ => by rcases hb with hb | hb <;> omega), ?_⟩
         · have hne : b ≠ w.heap.size := by rcases hb with hb | hb <;> omega
           exact (Below.heap_setCell _ _ _ _ hne).trans ((Below.heap_setCell _ _ _ _ hne).trans ((Below.heap_setCell _ _ _ _ hne).trans (Below.heap_setCell _ _ _ _ hne)))
         · have hbb : Below w.heap.size w w8 := HB03.out.trans (HB38.out.mono HB03.out.size)
           exact zzf (zzf (zzf (zzf (hbb.alloc hbb.size _) zN _) zN _) zN _) zN _
end
end Go.Proofs.YtpmglcachffojaaGreatDoor
