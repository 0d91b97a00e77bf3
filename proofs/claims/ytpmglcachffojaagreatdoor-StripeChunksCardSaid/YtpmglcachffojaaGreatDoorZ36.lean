/- A part of what Chunks leans on. -/
import Derived.Test.YtpmglcachffojaaGreatDoorZ33
import Derived.Test.YtpmglcachffojaaGreatDoorZ34
set_option maxRecDepth 100000
set_option maxHeartbeats 16000000
namespace Go.Proofs.YtpmglcachffojaaGreatDoor
section
open Go Go.RowKit
theorem cellsSt : tSt.OnCells := Ty.OnCells.prod (Ty.Flat.cells jjF) (Ty.OnCells.prod (Ty.OnCells.sl (Ty.Flat.cells jjF)) (Ty.OnCells.sl (Ty.Flat.cells flatSS)))
structure TwoL (B : Nat) (D : List UInt8) (L : List ST) (A0 : Option Addr) (m0 c0 : Nat) (A7 : Option Addr) (k c7 : Nat) (F3 : Nat → Prop) (W : World) : Prop where
 d : OwnF tU8 5 (fun _ => False) W B A0 m0 c0 D
 s : OwnF tSt 97 F3 W B A7 k c7 L
 ap : ∀ b, A0 = some ⟨b, 0, none⟩ → B ≤ b → A7 ≠ some ⟨b, 0, none⟩ ∧ ¬ F3 b
 lt : ∀ b, F3 b → B ≤ b ∧ b < W.heap.size
section
variable {B : Nat} {D D' : List UInt8} {L L' : List ST} {A0 : Option Addr} {m0 c0 : Nat} {A7 : Option Addr} {k c7 : Nat} {F3 G : Nat → Prop} {W W' wa wb : World} {A' : Option Addr} {n' c' : Nat}
theorem TwoL.keep (h : TwoL B D L A0 m0 c0 A7 k c7 F3 W) (hs : W.heap.size ≤ W'.heap.size) (hk : ∀ b, B ≤ b → b < W.heap.size → W'.heap[b]? = W.heap[b]?) : TwoL B D L A0 m0 c0 A7 k c7 F3 W' :=
 ⟨h.d.keep hs (fun b hb hl => hk b (hb.elim False.elim (fun x => x.2)) hl), h.s.keep hs (fun b hb hl => hk b (hb.elim (fun x => (h.lt b x).1) (fun x => x.2)) hl), h.ap, fun b hb => ⟨(h.lt b hb).1, by have := (h.lt b hb).2; omega⟩⟩
theorem TwoL.call (h : TwoL B D L A0 m0 c0 A7 k c7 F3 W) (hb : Below W.heap.size W W') : TwoL B D L A0 m0 c0 A7 k c7 F3 W' := h.keep hb.size fun b _ hl => hb.block b hl
theorem TwoL.data (h : TwoL B D L A0 m0 c0 A7 k c7 F3 W) (ha : ApdL tU8 5 G wa W W' B A0 A' n' c' D') : TwoL B D' L A' n' c' A7 k c7 F3 W' := by
 have hs := ha.grown.size
 refine ⟨ha.own.flat jjd, h.s.grown ha.grown fun g e => ?_, fun b e hb => ?_, fun b hb => ⟨(h.lt b hb).1, by have := (h.lt b hb).2; omega⟩⟩
 · obtain ⟨e1, e2, _⟩ := h.d.lies' e
   exact ⟨(h.ap g e1 e2).2, (h.ap g e1 e2).1⟩
 · rcases ha.lies with h1 | h1
   · rw [e] at h1
     obtain ⟨e1, e2, _⟩ := h.d.lies' h1.symm
     exact h.ap b e1 e2
   · rw [e] at h1
     injection h1 with h1
     have h1 : b = W.heap.size := h1
     exact ⟨fun e7 => by have := (h.s.lies' (b := b) (by rw [e7]; rfl)).2.2; omega, fun hb => by have := (h.lt b hb).2; omega⟩
theorem TwoL.stride (h : TwoL B D L A0 m0 c0 A7 k c7 F3 W) (ha : ApdL tSt 97 (fun b => (F3 b ∨ G b) ∧ b < wb.heap.size) wa W W' B A7 A' n' c' L') (hw : wb.heap.size ≤ W.heap.size) (hG : ∀ b, G b → B ≤ b ∧ A0 ≠ some ⟨b, 0, none⟩) : TwoL B D L' A0 m0 c0 A' n' c' (fun b => (F3 b ∨ G b) ∧ b < wb.heap.size) W' := by
 have hs := ha.grown.size
 refine ⟨h.d.grown ha.grown fun g e => ⟨id, fun e0 => ?_⟩, ha.own, fun b e hb => ⟨fun e' => ?_, fun hb' => ?_⟩, fun b hb => ⟨?_, by have := hb.2; omega⟩⟩
 · obtain ⟨e1, e2, _⟩ := h.s.lies' e
   exact (h.ap g e0 e2).1 e1
 · rcases ha.lies with h1 | h1
   · rw [e'] at h1
     exact (h.ap b e hb).1 (h.s.lies' h1.symm).1
   · rw [e'] at h1
     injection h1 with h1
     have h1 : b = W.heap.size := h1
     have := (h.d.lies' (b := b) (by rw [e]; rfl)).2.2
     omega
 · rcases hb'.1 with h1 | h1
   · exact (h.ap b e hb).2 h1
   · exact (hG b h1).2 e
 · rcases hb.1 with h1 | h1
   · exact (h.lt b h1).1
   · exact (hG b h1).1
theorem TwoL.quiet (h : TwoL B D L A0 m0 c0 A7 k c7 F3 W) {row : Option Nat} (hg : W.grownBy W' row) (hr : ∀ r, row = some r → ∃ o : Obj, W.heap[r]? = some o ∧ o.isCells = false) : TwoL B D L A0 m0 c0 A7 k c7 (fun b => F3 b ∧ zz0 W b) W' :=
 ⟨(h.d.quiet (Ty.Flat.cells jjd) hg hr).flat jjd, h.s.quiet cellsSt hg hr, fun b e hb => ⟨(h.ap b e hb).1, fun h1 => (h.ap b e hb).2 h1.1⟩, fun b hb => ⟨(h.lt b hb.1).1, by have := (h.lt b hb.1).2; have := hg.size; omega⟩⟩
end
theorem TwoL.nil_ (B : Nat) (W : World) : TwoL B [] [] none 0 0 none 0 0 (fun _ => False) W := ⟨OwnF.nil_ _ _ _ _ _, OwnF.nil_ _ _ _ _ _, fun b e _ => (by cases e), fun b h => h.elim⟩
def xxA (cols : List CC) (rows : List RR) {m : Nat} (pre : List (Fin m)) : List UInt8 := (pre.map fun x => vvr cols (zz8 rows x.val) cols.length).flatten
def stF8 (cols : List CC) (rows : List RR) {m : Nat} (pre : List (Fin m)) : List ST := pre.map fun x => zzY cols (zz8 rows x.val)
theorem dataF_all (cols : List CC) (rows : List RR) (m : Nat) : xxA cols rows (List.finRange m) = dataR cols rows m := by unfold xxA dataR; rw [xxy m fun j => vvr cols (zz8 rows j) cols.length]
theorem stF8_all (cols : List CC) (rows : List RR) (m : Nat) : stF8 cols rows (List.finRange m) = stR cols rows m := by unfold stF8 stR; rw [xxy m fun j => zzY cols (zz8 rows j)]
theorem qxE (cols : List CC) (rows : List RR) {m : Nat} (pre : List (Fin m)) (x : Fin m) : xxA cols rows (pre ++ [x]) = xxA cols rows pre ++ vvr cols (zz8 rows x.val) cols.length := by unfold xxA; simp
theorem stF8_snoc (cols : List CC) (rows : List RR) {m : Nat} (pre : List (Fin m)) (x : Fin m) : stF8 cols rows (pre ++ [x]) = stF8 cols rows pre ++ [zzY cols (zz8 rows x.val)] := by unfold stF8; simp
theorem kqZ (cols : List CC) (rows : List RR) {m : Nat} (hc : cols.length ≤ 6) : ∀ pre : List (Fin m), (xxA cols rows pre).length ≤ pre.length * 30000024
 | [] => by simp [xxA]
 | x :: r => by
   have ih := kqZ cols rows hc r
   have h1 := vvs cols (zz8 rows x.val) (by rw [uuW]; omega) cols.length
   have h2 : cols.length * 5000004 ≤ 6 * 5000004 := Nat.mul_le_mul_right 5000004 hc
   show (xxA cols rows ([x] ++ r)).length ≤ _
   rw [show xxA cols rows ([x] ++ r) = vvr cols (zz8 rows x.val) cols.length ++ xxA cols rows r by unfold xxA; simp, List.length_append, List.length_cons, Nat.succ_mul]
   omega
def SpI (cols : List CC) (rows : List RR) (B K : Nat) (wd : World) {m : Nat} (pre : List (Fin m)) (W : World) : Prop :=
 ∃ A0 m0 c0 A7 c7 F3, TwoL B (xxA cols rows pre) (stF8 cols rows pre) A0 m0 c0 A7 pre.length c7 F3 W ∧ W.heap[K]? = some (.cells #[.slice A0 m0 c0] 41 (0, 0)) ∧ W.heap[K + 1]? = some (.cells #[.slice A7 pre.length c7] 42 (0, 0)) ∧ Below K wd W ∧ B ≤ W.heap.size
theorem SpI.own (cols : List CC) (rows : List RR) (B K : Nat) (wd : World) (m : Nat) (hK : K + 2 ≤ B) (hw : wd.heap.size = K) : OwnFrom B (SpI cols rows B K wd (m := m)) := fun pre W W' row hs hg hr => by
 obtain ⟨A0, m0, c0, A7, c7, F3, h1, h2, h3, h4, h5⟩ := hs
 have hr1 : ∀ r, row = some r → B ≤ r := fun r e => (hr r e).1
 exact ⟨A0, m0, c0, A7, c7, _, h1.quiet hg (fun r e => (hr r e).2), (hg.block K (by omega) (fun e => by have := hr1 _ e.symm; omega)).trans h2, (hg.block (K + 1) (by omega) (fun e => by have := hr1 _ e.symm; omega)).trans h3, h4.grown hg (by omega) (fun r e => by have := hr1 r e; omega), Nat.le_trans h5 hg.size⟩
end
section
open Go Go.RowKit Go.Shelf
attribute [local go_sem] Oper.semAt_some
structure SpW (g : Nat) (A : Option Addr) (n c : Nat) (w wb : World) : Prop where
 eq : wb = ((((w.alloc (.cells #[.pointer (some ⟨g, 0, none⟩)] 45)).alloc (.cells #[.slice A n c] 34)).alloc (.cells #[.slice none 0 0] 41)).alloc (.cells #[.slice none 0 0] 42)).alloc (.cells #[.int .i64 0] 28)
 below : Below w.heap.size w wb
 size : wb.heap.size = w.heap.size + 5
 t : wb.heap[w.heap.size]? = some (.cells #[.pointer (some ⟨g, 0, none⟩)] 45 (0, 0))
 c : wb.heap[w.heap.size + 1]? = some (.cells #[.slice A n c] 34 (0, 0))
 r1 : wb.heap[w.heap.size + 1 + 1]? = some (.cells #[.slice none 0 0] 41 (0, 0))
 r2 : wb.heap[w.heap.size + 1 + 1 + 1]? = some (.cells #[.slice none 0 0] 42 (0, 0))
 r3 : wb.heap[w.heap.size + 1 + 1 + 1 + 1]? = some (.cells #[.int .i64 0] 28 (0, 0))
theorem spW (g : Nat) (A : Option Addr) (n c : Nat) (w : World) : ∃ wb, SpW g A n c w wb := by
 refine ⟨_, rfl, ?_, by simp, ?_, ?_, ?_, ?_, ?_⟩
 · exact (((((Below.refl _ w).alloc zN _).alloc (by simp) _).alloc (by simp; omega) _).alloc (by simp; omega) _).alloc (by simp; omega) _
 · exact zzi (zzi (zzi (zzi (zzQ rfl _) _) _) _) _
 · exact zzi (zzi (zzi (zzQ (by simp) _) _) _) _
 · exact zzi (zzi (zzQ (by simp) _) _) _
 · exact zzi (zzQ (by simp) _) _
 · exact zzQ (by simp) _
theorem SpW.call {g : Nat} {A : Option Addr} {n c : Nat} {w wb w1 : World} (_ : SpW g A n c w wb) (hb : Below wb.heap.size wb w1) {b : Nat} {o : Obj} (hl : wb.heap[b]? = some o) : w1.heap[b]? = some o := (hb.block b (zzb hl)).trans hl
theorem jjC {P : Program} {fn : Func} {p q u : Tmp} {t1 t2 t3 : TypeId} (h : fn.results = #[.cell p t1, .cell q t2, .cell u t3]) (tmps : Array Value) (w : World) (g1 g2 g3 : Nat) (v1 v2 v3 : Value)
 (hp : tmps.getD p undef = .pointer (some ⟨g1, 0, none⟩)) (hq : tmps.getD q undef = .pointer (some ⟨g2, 0, none⟩)) (hu : tmps.getD u undef = .pointer (some ⟨g3, 0, none⟩))
 (h1 : (loadVar t1 ⟨g1, 0, none⟩).run P w = .ok v1 w) (h2 : (loadVar t2 ⟨g2, 0, none⟩).run P w = .ok v2 w) (h3 : (loadVar t3 ⟨g3, 0, none⟩).run P w = .ok v3 w) :
 (results fn tmps).run P w = .ok (.tuple #[v1, v2, v3]) w := by
 have hp' : tmps[p]?.getD undef = .pointer (some ⟨g1, 0, none⟩) := by simpa using hp
 have hq' : tmps[q]?.getD undef = .pointer (some ⟨g2, 0, none⟩) := by simpa using hq
 have hu' : tmps[u]?.getD undef = .pointer (some ⟨g3, 0, none⟩) := by simpa using hu
 simp [results, h, hp', hq', hu', asAddr, h1, h2, h3]
theorem kq3 {w : World} {g : Nat} {v : Value} (h : w.cell? ⟨g, 0, none⟩ = some v) : (loadVar 41 ⟨g, 0, none⟩).run Tryz.prog w = .ok v w := by
 simp [go_sem, h]
theorem kq4 {w : World} {g : Nat} {v : Value} (h : w.cell? ⟨g, 0, none⟩ = some v) : (loadVar 42 ⟨g, 0, none⟩).run Tryz.prog w = .ok v w := by
 simp [go_sem, h]
theorem kq5 {w1 : World} {s : Nat} {u1 u2 u3 : Value} {t1 t2 t3 : TypeId} (v1 v2 v3 : Value) (h1 : w1.heap[s + 1 + 1]? = some (.cells #[u1] t1 (0, 0))) (h2 : w1.heap[s + 1 + 1 + 1]? = some (.cells #[u2] t2 (0, 0))) (h3 : w1.heap[s + 1 + 1 + 1 + 1]? = some (.cells #[u3] t3 (0, 0))) :
 (((w1.setCell ⟨s + 1 + 1, 0, none⟩ v1).setCell ⟨s + 1 + 1 + 1, 0, none⟩ v2).setCell ⟨s + 1 + 1 + 1 + 1, 0, none⟩ v3).heap[s + 1 + 1]? = some (.cells #[v1] t1 (0, 0)) ∧
 (((w1.setCell ⟨s + 1 + 1, 0, none⟩ v1).setCell ⟨s + 1 + 1 + 1, 0, none⟩ v2).setCell ⟨s + 1 + 1 + 1 + 1, 0, none⟩ v3).heap[s + 1 + 1 + 1]? = some (.cells #[v2] t2 (0, 0)) ∧
 (((w1.setCell ⟨s + 1 + 1, 0, none⟩ v1).setCell ⟨s + 1 + 1 + 1, 0, none⟩ v2).setCell ⟨s + 1 + 1 + 1 + 1, 0, none⟩ v3).heap[s + 1 + 1 + 1 + 1]? = some (.cells #[v3] t3 (0, 0)) :=
 ⟨zzc (zzc (zza h1 rfl) (by omega)) (by omega), zzc (zza (zzc h2 (by omega)) rfl) (by omega), zza (zzc (zzc h3 (by omega)) (by omega)) rfl⟩
theorem kq6 {w w1 : World} {s B : Nat} (hB : B ≤ s) (h : Below B w w1) (v1 v2 v3 : Value) : Below B w (((w1.setCell ⟨s + 1 + 1, 0, none⟩ v1).setCell ⟨s + 1 + 1 + 1, 0, none⟩ v2).setCell ⟨s + 1 + 1 + 1 + 1, 0, none⟩ v3) :=
 zzd (zzd (zzd h (by omega) _) (by omega) _) (by omega) _
theorem sput_no (g : Nat) (F F2 : Nat → Prop) (A A2 : Option Addr) (n c n2 c2 : Nat) (cols : List CC) (rows : List RR) (w : World) (h : Sl tCol F w A n c cols) (h2 : Sl tRow F2 w A2 n2 c2 rows) (hn : n ≤ 4096) (hn2 : n2 ≤ 4096) (hU : Lib.Utf8Tabs 0 1 w) (hE : putE cols rows ≠ 0) :
 Calls Tryz.prog 20 #[.pointer (some ⟨g, 0, none⟩), .slice A n c, .slice A2 n2 c2] w (zqN cols rows w) := by
 have HL := zH h.len; have HL2 := zH h2.len; have HN := zH hn; have HN2 := zH hn2
 have hd := put_no hE
 suffices hs : Calls Tryz.prog 20 #[.pointer (some ⟨g, 0, none⟩), .slice A n c, .slice A2 n2 c2] w (fun e w' => e = .returned (.tuple #[.slice none 0 0, .slice none 0 0, .int .i64 (putE cols rows)]) ∧ Below w.heap.size w w') by
  refine hs.mono ?_
  rintro e w' ⟨rfl, hb⟩
  unfold zqN
  rw [hd.1, hd.2]
  exact ⟨none, 0, 0, none, 0, 0, rfl, Sl.nil_ _ _ _, Sl.nil_ _ _ _, hb⟩
 clear hd
 obtain ⟨wb, hw⟩ := spW g A n c w
 have HW := zH hw
 have HH := zH (h.below hw.below zN); have HH2 := zH (h2.below hw.below zN); have HU := zH (zze hU hw.below)
 have HSZ := zH hw.size
 have fin : ∀ (w1 : World) (tm : Array Value) (er : Int), Below wb.heap.size wb w1 → tm.getD 6 undef = .pointer (some ⟨w.heap.size + 1 + 1, 0, none⟩) → tm.getD 7 undef = .pointer (some ⟨w.heap.size + 1 + 1 + 1, 0, none⟩) → tm.getD 8 undef = .pointer (some ⟨w.heap.size + 1 + 1 + 1 + 1, 0, none⟩) →
  (results Tryz.f20 tm).run Tryz.prog (((w1.setCell ⟨w.heap.size + 1 + 1, 0, none⟩ (.slice none 0 0)).setCell ⟨w.heap.size + 1 + 1 + 1, 0, none⟩ (.slice none 0 0)).setCell ⟨w.heap.size + 1 + 1 + 1 + 1, 0, none⟩ (.int .i64 er)) = .ok (.tuple #[.slice none 0 0, .slice none 0 0, .int .i64 er]) (((w1.setCell ⟨w.heap.size + 1 + 1, 0, none⟩ (.slice none 0 0)).setCell ⟨w.heap.size + 1 + 1 + 1, 0, none⟩ (.slice none 0 0)).setCell ⟨w.heap.size + 1 + 1 + 1 + 1, 0, none⟩ (.int .i64 er)) := fun w1 tm er hb a6 a7 a8 => by
  obtain ⟨k1, k2, k3⟩ := kq5 (.slice none 0 0) (.slice none 0 0) (.int .i64 er) (HW.out.call hb HW.out.r1) (HW.out.call hb HW.out.r2) (HW.out.call hb HW.out.r3)
  exact jjC rfl _ _ _ _ _ _ _ _ a6 a7 a8 (kq3 (by rw [zC k1]; rfl)) (kq4 (by rw [zC k2]; rfl)) (uuR (by rw [zC k3]; rfl))
 have finb : ∀ (w1 : World) (er : Int), Below wb.heap.size wb w1 → Below w.heap.size w (((w1.setCell ⟨w.heap.size + 1 + 1, 0, none⟩ (.slice none 0 0)).setCell ⟨w.heap.size + 1 + 1 + 1, 0, none⟩ (.slice none 0 0)).setCell ⟨w.heap.size + 1 + 1 + 1 + 1, 0, none⟩ (.int .i64 er)) :=
  fun w1 er hb => kq6 zN (HW.out.below.trans (hb.mono (by have := HSZ.out; omega))) _ _ _
 have FIN := zH fin; have FINB := zH finb
 clear hw h h2 hn hn2 hU fin finb
 have q0 : wb.cell? ⟨w.heap.size + 1, 0, none⟩ = some (.slice A n c) := by rw [zC HW.out.c]; rfl
 refine (callsIn_wide (n := 3)).1 ?_
 refine callsIn_of_wp_marks Tryz.func20 rfl trivial ?_ rfl
 simp only [Tryz.ntmps20, List.size_toArray, List.length_cons, List.length_nil, Nat.reduceAdd, Nat.reduceSub, Array.replicate_succ, Array.replicate_zero, List.push_toArray, List.append_toArray, List.nil_append, List.cons_append]
 cases hs : schB cols with
 | false =>
   have HE := zH (zqJ (rows := rows) hs)
   have HS := zH (vvM hs)
   clear hs hE
   gi_wp2
   refine ⟨trivial, ?_⟩
   rw [← HW.out.eq]
   refine (callsIn_wide.2 (xxO F A n c cols _ HH.out)).mono ?_
   rintro e w1 ⟨rfl, hb1⟩
   rw [HS.out]
   have HB1 := zH hb1
   have z1 := zF (HW.out.call hb1 HW.out.r1) 0
   have z2 := zF (HW.out.call hb1 HW.out.r2) 0
   have z3 := zF (HW.out.call hb1 HW.out.r3) 0
   have y1 : w1.cell? ⟨w.heap.size + 1 + 1, 0, none⟩ = some (.slice none 0 0) := by rw [zC (HW.out.call hb1 HW.out.r1)]; rfl
   have y2 : w1.cell? ⟨w.heap.size + 1 + 1 + 1, 0, none⟩ = some (.slice none 0 0) := by rw [zC (HW.out.call hb1 HW.out.r2)]; rfl
   have y3 : w1.cell? ⟨w.heap.size + 1 + 1 + 1 + 1, 0, none⟩ = some (.int .i64 0) := by rw [zC (HW.out.call hb1 HW.out.r3)]; rfl
   clear hb1
   gi_wp2
   refine ⟨_, FIN.out w1 _ 20 HB1.out ?_ ?_ ?_, ?_⟩
   · rfl
   · rfl
   · rfl
   · rw [HE.out]; exact ⟨rfl, FINB.out w1 20 HB1.out⟩
 | true =>
   have HS := zH (jj4 hs)
   by_cases h32 : rows.length ≤ 32
   · have hall : rows.all (rowB cols) = false := by
      cases hq : rows.all (rowB cols) with
      | false => rfl
      | true => exact absurd (qzR hs h32 hq) hE
     have HE := zH (zqL hs h32 hall)
     have HA := zH hall
     have c1 : ¬ (n2 : Int) > 32 := by have := HL2.out; omega
     have HN32 := zH (show n2 ≤ 32 by have := HL2.out; omega)
     clear hs hE h32 hall
     gi_wp2
     refine ⟨trivial, ?_⟩
     rw [← HW.out.eq]
     refine (callsIn_wide.2 (xxO F A n c cols _ HH.out)).mono ?_
     rintro e w1 ⟨rfl, hb1⟩
     rw [HS.out]
     have HB1 := zH hb1
     clear hb1
     gi_wp2
     gi_loopw [29] (fun iv wr => ∃ i : Nat, i ≤ n2 ∧ iv = .int .i64 (i : Int) ∧ Below wb.heap.size wb wr ∧ (rows.take i).all (rowB cols) = true) (fun iv _ => n2 - (intOf iv).toNat)
     case atStart => exact ⟨0, Nat.zero_le _, rfl, HB1.out, by rw [List.take_zero]; rfl⟩
     case round =>
      obtain ⟨i, hi, rfl, hb, hv⟩ := hrel
      have HB := zH hb; have HV := zH hv
      clear hb hv
      by_cases hlt : i < n2
      · have hil : i < rows.length := by rw [← HL2.out]; exact hlt
        obtain ⟨b, o, cs, rfl, _, _, hrep, hc⟩ := (HH2.out.below HB.out zN).at_ hil (by decide)
        obtain ⟨r, hr⟩ : ∃ r, r = rows[i] := ⟨_, rfl⟩
        rw [← hr] at hrep
        have HR := zH hr
        obtain ⟨A3, n3, c3, rfl, h3⟩ := hrep
        have H3 := zH h3
        have y := hc 0 _ rfl
        have y : wr.cell? ⟨b, o + i, none⟩ = some (.slice A3 n3 c3) := by
         have e : o + (i * tRow.size + 0) = o + i := by show o + (i * 1 + 0) = o + i; omega
         rw [e] at y; exact y
        have i0 : (0 : Int) ≤ (i : Int) := by omega
        have i1 : (i : Int) < (n2 : Int) := by omega
        have i2 : (i : Int) ≤ 32 := by have := HN32.out; omega
        have q1 : wr.cell? ⟨w.heap.size + 1, 0, none⟩ = some (.slice A n c) := by rw [zC (HW.out.call HB.out HW.out.c)]; rfl
        clear hc hr h3
        cases hrb : rowB cols r with
        | false =>
          have HRE := zH (qzA hrb)
          clear hrb
          gi_wp2
          refine ⟨trivial, ?_⟩
          refine (callsIn_wide.2 (qzB F _ A A3 n c n3 c3 cols r _ (HH.out.below HB.out zN) H3.out HN.out (zze HU.out HB.out))).mono ?_
          rintro e w3 ⟨rfl, hb3⟩
          rw [HRE.out]
          have HB3 := zH (HB.out.trans (hb3.mono HB.out.size))
          clear hb3
          have z1 := zF (HW.out.call HB3.out HW.out.r1) 0
          have z2 := zF (HW.out.call HB3.out HW.out.r2) 0
          have z3 := zF (HW.out.call HB3.out HW.out.r3) 0
          have y1 : w3.cell? ⟨w.heap.size + 1 + 1, 0, none⟩ = some (.slice none 0 0) := by rw [zC (HW.out.call HB3.out HW.out.r1)]; rfl
          have y2 : w3.cell? ⟨w.heap.size + 1 + 1 + 1, 0, none⟩ = some (.slice none 0 0) := by rw [zC (HW.out.call HB3.out HW.out.r2)]; rfl
          have y3 : w3.cell? ⟨w.heap.size + 1 + 1 + 1 + 1, 0, none⟩ = some (.int .i64 0) := by rw [zC (HW.out.call HB3.out HW.out.r3)]; rfl
          gi_wp2
          refine ⟨_, FIN.out w3 _ 21 HB3.out ?_ ?_ ?_, ?_⟩
          · rfl
          · rfl
          · rfl
          · rw [HE.out]; exact ⟨rfl, FINB.out w3 21 HB3.out⟩
        | true =>
          have HRE := zH (jj0 hrb)
          have HV2 := zH (show (rows.take (i + 1)).all (rowB cols) = true by rw [vvp hil HR.out, HV.out]; exact hrb)
          clear hrb
          gi_wp2
          refine ⟨trivial, ?_⟩
          refine (callsIn_wide.2 (qzB F _ A A3 n c n3 c3 cols r _ (HH.out.below HB.out zN) H3.out HN.out (zze HU.out HB.out))).mono ?_
          rintro e w3 ⟨rfl, hb3⟩
          rw [HRE.out]
          have HB3 := zH (HB.out.trans (hb3.mono HB.out.size))
          clear hb3
          gi_wp2
          go_roundw
          case rel => exact ⟨i + 1, by omega, by go_num, HB3.out, HV2.out⟩
          case measure => simp [intOf]; omega
      · obtain rfl : i = n2 := by omega
        have h1 := HV.out
        rw [zL (by rw [← HL2.out]; exact Nat.le_refl _), HA.out] at h1
        cases h1
   · have HE := zH (zqK hs h32)
     have c1 : (n2 : Int) > 32 := by have := HL2.out; omega
     clear hs hE h32
     gi_wp2
     refine ⟨trivial, ?_⟩
     rw [← HW.out.eq]
     refine (callsIn_wide.2 (xxO F A n c cols _ HH.out)).mono ?_
     rintro e w1 ⟨rfl, hb1⟩
     rw [HS.out]
     have HB1 := zH hb1
     clear hb1
     have z1 := zF (HW.out.call HB1.out HW.out.r1) 0
     have z2 := zF (HW.out.call HB1.out HW.out.r2) 0
     have z3 := zF (HW.out.call HB1.out HW.out.r3) 0
     have y1 : w1.cell? ⟨w.heap.size + 1 + 1, 0, none⟩ = some (.slice none 0 0) := by rw [zC (HW.out.call HB1.out HW.out.r1)]; rfl
     have y2 : w1.cell? ⟨w.heap.size + 1 + 1 + 1, 0, none⟩ = some (.slice none 0 0) := by rw [zC (HW.out.call HB1.out HW.out.r2)]; rfl
     have y3 : w1.cell? ⟨w.heap.size + 1 + 1 + 1 + 1, 0, none⟩ = some (.int .i64 0) := by rw [zC (HW.out.call HB1.out HW.out.r3)]; rfl
     gi_wp2
     refine ⟨_, FIN.out w1 _ 3 HB1.out ?_ ?_ ?_, ?_⟩
     · rfl
     · rfl
     · rfl
     · rw [HE.out]; exact ⟨rfl, FINB.out w1 3 HB1.out⟩
end
end Go.Proofs.YtpmglcachffojaaGreatDoor
