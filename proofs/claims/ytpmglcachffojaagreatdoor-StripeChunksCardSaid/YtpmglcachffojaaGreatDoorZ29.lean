/- A part of what Chunks leans on. -/
import Derived.Test.YtpmglcachffojaaGreatDoorZ25
import Derived.Test.YtpmglcachffojaaGreatDoorZ26
import Derived.Test.YtpmglcachffojaaGreatDoorZ27
set_option maxRecDepth 100000
set_option maxHeartbeats 16000000
namespace Go.Proofs.YtpmglcachffojaaGreatDoor
section
open Go Go.RowKit
end
section
open Go Go.RowKit
theorem zqO {F : Nat → Prop} {w : World} {A : Option Addr} {n c : Nat} {bs : List UInt8} (h : Sl tU8 F w A n c bs) :
 (convert 41 9 (.slice A n c)).run Tryz.prog w = .ok (.string ⟨bs.toArray⟩) w := by
 by_cases hne : 0 < bs.length
 · exact sl_text h hne
 · obtain rfl : bs = [] := List.length_eq_zero_iff.1 (by omega)
   obtain rfl : n = 0 := h.len
   cases A with
   | some a => exact run_convert_bytes_back w _ _ 5 a c [] Tryz.underlying41 Tryz.underlying5 Tryz.underlying9 (fun j hj => by simp at hj)
   | none =>
     rw [run_convert_bytes_string w _ _ 5 none 0 c Tryz.underlying41 Tryz.underlying5 Tryz.underlying9]
     rfl
theorem qxK (m enc tx : Int) (F F' : Nat → Prop) (A A' : Option Addr) (n c c' : Nat) (ss : List (Int × List UInt8)) (w : World) (h : Sl zzm F w A n c ss) (h' : Sl zzm F' w A' n c' ss) (hn : n ≤ 1000) :
 Calls Tryz.prog 14 #[.agg #[.int .i64 m, .int .i64 enc, .int .i64 tx, .slice A n c], .agg #[.int .i64 m, .int .i64 enc, .int .i64 tx, .slice A' n c']] w fun e w' => e = .returned (.bool true) ∧ Below w.heap.size w w' := by
 have HL := zH h.len
 obtain ⟨w2, hw2⟩ : ∃ w2, w2 = (w.alloc (.cells #[.int .i64 m, .int .i64 enc, .int .i64 tx, .slice A n c] 27)).alloc (.cells #[.int .i64 m, .int .i64 enc, .int .i64 tx, .slice A' n c'] 27) := ⟨_, rfl⟩
 have hb1 : Below w.heap.size w (w.alloc (.cells #[.int .i64 m, .int .i64 enc, .int .i64 tx, .slice A n c] 27)) := (zR).alloc zN _
 have hb2 : Below w.heap.size w w2 := by rw [hw2]; exact hb1.alloc hb1.size _
 have hg0 : w2.heap[w.heap.size]? = some (.cells #[.int .i64 m, .int .i64 enc, .int .i64 tx, .slice A n c] 27 (0, 0)) := by rw [hw2]; exact (Below.heap_alloc _ _ _ (by simp)).trans (heap_alloc_new w _)
 have hg1 : w2.heap[w.heap.size + 1]? = some (.cells #[.int .i64 m, .int .i64 enc, .int .i64 tx, .slice A' n c'] 27 (0, 0)) := by
  have := heap_alloc_new (w.alloc (.cells #[.int .i64 m, .int .i64 enc, .int .i64 tx, .slice A n c] 27)) (.cells #[.int .i64 m, .int .i64 enc, .int .i64 tx, .slice A' n c'] 27)
  rw [zS] at this
  rw [hw2]; exact this
 have HW := zH hw2; have HB2 := zH hb2
 have HS := zH (h.below hb2 zN); have HS' := zH (h'.below hb2 zN)
 obtain ⟨⟨a0, _⟩, ⟨a1, _⟩, ⟨a2, _⟩, ⟨a3, _⟩⟩ := zzn hg0
 obtain ⟨⟨b0, _⟩, ⟨b1, _⟩, ⟨b2, _⟩, ⟨b3, _⟩⟩ := zzn hg1
 have HA3 := zH a3; have HB3 := zH b3
 clear h h' hw2 hb1 hb2 hg0 hg1
 go_enter Tryz.func14, Tryz.ntmps14
 go_upto_region 1 with fail
 rw [← HW.out]
 go_wp2_with fail
 clear a0 a1 a2 a3 b0 b1 b2 b3
 go_loopw [5] (fun iv wr => ∃ i : Nat, i ≤ n ∧ iv = .int .i64 (i : Int) ∧ Below w2.heap.size w2 wr) (fun iv _ => n - (intOf iv).toNat)
 case atStart => exact ⟨0, Nat.zero_le _, rfl, zR⟩
 case round =>
  obtain ⟨i, hi, rfl, hb⟩ := hrel
  have HB := zH hb
  have a3 := zzh hb HA3.out
  have b3 := zzh hb HB3.out
  by_cases hlt : i < n
  · have hil : i < ss.length := by rw [← HL.out]; exact hlt
    obtain ⟨bk, o, cs, rfl, _, _, hrep, hc⟩ := (HS.out.below hb zN).at_ hil (by decide)
    obtain ⟨bk', o', cs', rfl, _, _, hrep', hc'⟩ := (HS'.out.below hb zN).at_ hil (by decide)
    obtain ⟨x, hf⟩ : ∃ x, x = ss[i] := ⟨_, rfl⟩
    obtain ⟨kk, bs⟩ := x
    rw [← hf] at hrep hrep'
    obtain ⟨d1, d2, rfl, ⟨h1, _⟩, A8, n8, c8, h2, hsl⟩ := hrep
    subst h1 h2
    obtain ⟨d1', d2', rfl, ⟨h1', _⟩, A9, n9, c9, h2', hsl'⟩ := hrep'
    subst h1' h2'
    obtain ⟨g0, g1⟩ := xxS hc
    obtain ⟨g0', g1'⟩ := xxS hc'
    have g0 : _ = some (Value.int .i64 kk) := g0
    have g1 : _ = some (Value.slice A8 n8 c8) := g1
    have g0' : _ = some (Value.int .i64 kk) := g0'
    have g1' : _ = some (Value.slice A9 n9 c9) := g1'
    have k1 := fun q => zqO (hsl.drewN q)
    have k2 := fun q => zqO (hsl'.drewN q)
    have hi0 : (0 : Int) ≤ (i : Int) := by omega
    have hi1 : (i : Int) < (n : Int) := by omega
    clear hc hc' hf hsl hsl' hb
    go_wp2_with fail
    go_quiet (fail)
    go_wp2_with fail
    go_roundw
    case rel => exact ⟨i + 1, by omega, by go_num, xxu HB.out _⟩
    case measure => simp [intOf]; omega
  · obtain rfl : i = n := by omega
    clear hb
    go_wp2_with fail
    go_ret
    exact ⟨rfl, HB2.out.trans (HB.out.mono HB2.out.size)⟩
end
section
open Go Go.RowKit
theorem uue {l : List UInt8} {f : Fld} {r : List UInt8} (h : wone l = some (f, r)) : r.length < l.length := by
 unfold wone at h
 split at h
 · cases h
 · rename_i key r1 h1
   have q1 := yyl h1
   split at h
   · cases h
   · rename_i n r2 h2
     have q2 := yyl h2
     split at h
     · cases h
     · split at h
       · injection h with h; injection h with _ h; subst h; omega
       · split at h
         · cases h
         · injection h with h; injection h with _ h; subst h; simp only [List.length_drop]; omega
theorem wone_flen {l : List UInt8} {f : Fld} {r : List UInt8} (h : wone l = some (f, r)) : f.b.length + r.length + 1 ≤ l.length := by
 unfold wone at h
 split at h
 · cases h
 · rename_i key r1 h1
   have q1 := yyl h1
   split at h
   · cases h
   · rename_i n r2 h2
     have q2 := yyl h2
     split at h
     · cases h
     · split at h
       · injection h with h; injection h with h0 h; subst h h0; simp only [List.length_nil]; omega
       · split at h
         · cases h
         · injection h with h; injection h with h0 h; subst h h0; simp only [List.length_drop, List.length_take]; omega
theorem qzX : ∀ (k : Nat) (l : List UInt8), l.length ≤ k → yyA k l = zzq l := by
 intro k
 induction k using Nat.strongRecOn with
 | ind k ih =>
   intro l hl
   unfold zzq
   match k, l with
   | _, [] => cases k <;> simp [yyA]
   | 0, c :: t => simp at hl
   | k + 1, c :: t =>
     show yyA (k + 1) (c :: t) = yyA (t.length + 1) (c :: t)
     simp only [yyA]
     cases h : wone (c :: t) with
     | none => rfl
     | some p =>
       obtain ⟨f, r⟩ := p
       have hr := uue h
       simp only [List.length_cons] at hr hl
       dsimp only
       rw [ih k (by omega) r (by omega)]
       by_cases hk : t.length < k + 1
       · rw [ih t.length hk r (by omega)]
       · have : t.length = k := by omega
         rw [this, ih k (by omega) r (by omega)]
theorem vvw : zzq [] = some [] := rfl
theorem yyy {l : List UInt8} (h0 : l ≠ []) (h : wone l = none) : zzq l = none := by
 cases l with
 | nil => exact absurd rfl h0
 | cons c t => unfold zzq; simp only [List.length_cons, yyA, h]
theorem yy6 {l : List UInt8} {f : Fld} {r : List UInt8} (h0 : l ≠ []) (h : wone l = some (f, r)) : zzq l = (zzq r).map (f :: ·) := by
 cases l with
 | nil => exact absurd rfl h0
 | cons c t =>
   have hr := uue h
   unfold zzq
   simp only [List.length_cons, yyA, h]
   rw [qzX t.length r (by simp only [List.length_cons] at hr; omega)]
   rfl
def bsum : List Fld → Nat
 | [] => 0
 | f :: r => f.b.length + bsum r
theorem qzY : ∀ (n : Nat) (l : List UInt8) (L : List Fld), l.length ≤ n → zzq l = some L → L.length + bsum L ≤ l.length := by
 intro n
 induction n with
 | zero =>
   intro l L hl h
   cases l with
   | nil => rw [vvw] at h; injection h with h; subst h; simp [bsum]
   | cons c t => simp at hl
 | succ n ih =>
   intro l L hl h
   cases hl0 : l with
   | nil => rw [hl0, vvw] at h; injection h with h; subst h; simp [bsum]
   | cons c t =>
     have hne : l ≠ [] := by rw [hl0]; simp
     rw [← hl0]
     cases ho : wone l with
     | none => rw [yyy hne ho] at h; cases h
     | some p =>
       obtain ⟨f, r⟩ := p
       rw [yy6 hne ho] at h
       have hf := wone_flen ho
       cases hr : zzq r with
       | none => rw [hr] at h; cases h
       | some L' =>
         rw [hr] at h
         injection h with h
         subst h
         have := ih r L' (by omega) hr
         simp only [List.length_cons, bsum]; omega
def zqP (l : List UInt8) (w : World) (e : Ending) (w' : World) : Prop :=
 ∃ A n c, e = .returned (.tuple #[.slice A n c, .int .i64 (okc (zzq l).isSome 2)]) ∧ Below w.heap.size w w' ∧ Sl tFld (fun b => w.heap.size ≤ b) w' A n c ((zzq l).getD [])
theorem wtake_any (F : Nat → Prop) (A : Option Addr) (n c : Nat) (l : List UInt8) (w : World) (h : Bs F w A n c l) (hn : n ≤ 4294967296) :
 Calls Tryz.prog 131 #[.slice A n c] w (zqP l w) := by
 have HL := zH h.len
 go_enter Tryz.func131, Tryz.ntmps131
 go_wp2
 go_loopw [0, 4] (fun s v wr => ∃ (r : List UInt8) (L : List Fld) (A1 : Option Addr) (n1 c1 : Nat) (A2 : Option Addr) (m c2 : Nat) (G H : Nat → Prop), s = .slice A1 n1 c1 ∧ v = .slice A2 m c2 ∧ Bs H wr A1 n1 c1 r ∧
  OwnF tFld 114 G wr w.heap.size A2 m c2 L ∧ (∀ b, A2 = some ⟨b, 0, none⟩ → w.heap.size ≤ b → ¬ H b) ∧ (∀ b, G b → w.heap.size ≤ b) ∧ Below w.heap.size w wr ∧ zzq l = (zzq r).map (L ++ ·) ∧ r.length + L.length ≤ l.length)
  (fun s _ _ => lenV s)
 case atStart => exact ⟨l, [], A, n, c, none, 0, 0, fun _ => False, F, rfl, rfl, h, OwnF.nil_ _ _ _ _ _, by simp, by simp, zR, by cases zzq l <;> simp, by simp⟩
 case round =>
  obtain ⟨r, L, A1, n1, c1, A2, m, c2, G, H, rfl, rfl, hs, hown, hH, hG, hb, hw, hlen⟩ := hrel
  have HR := zH hs.len
  have hn1 : n1 ≤ 4294967296 := by rw [HR.out]; have := HL.out; omega
  have hm : m ≤ 4294967296 := by rw [hown.len]; have := HL.out; omega
  have hsz := hb.size
  have HHH := zH hH; have HGG := zH hG; clear hH hG
  have HW := zH hw; have HLEN := zH hlen; clear hw hlen
  by_cases hlt : 0 < n1
  · have hne : r ≠ [] := by intro h0; rw [HR.out, h0] at hlt; simp at hlt
    have HO := zH hown; clear hown
    go_wp2_with (go_at_call 184; refine (wone_any H A1 n1 c1 r _ hs hn1).mono ?_)
    rintro e w1 ⟨tag, isb, x, A3, n3, c3, A4, n4, c4, rfl, hb1, ho1⟩
    obtain ⟨ec, hec⟩ : ∃ ec, ec = okc (wone r).isSome 2 := ⟨_, rfl⟩
    rw [← hec]
    have HB1 := zH hb1; clear hb1
    cases hT : wone r with
    | none =>
      obtain rfl : ec = 2 := by rw [hec, hT]; rfl
      have hN : zzq l = none := by rw [HW.out, yyy hne hT]; rfl
      have HN := zH hN; clear hN hT hec ho1
      go_wp2
      go_ret2
      exact ⟨none, 0, 0, by rw [HN.out]; rfl, (hb.trans (HB1.out.mono hsz)).alloc (Nat.le_trans hsz HB1.out.size) _, by rw [HN.out]; exact Sl.nil_ _ _ _⟩
    | some p =>
      obtain ⟨f, r'⟩ := p
      obtain rfl : ec = 0 := by rw [hec, hT]; rfl
      obtain ⟨hrep, hs4⟩ := ho1 f r' hT
      have HREP := zH hrep; have HS4 := zH hs4; have HT := zH hT
      have hs4l := hs4.len
      have HS4L := zH hs4l
      clear hT hec ho1 hrep hs4 hs4l
      go_wp2_with (at_builtin; go_loud (refine apl1 (T := tFld) zqy (w1.alloc (.cells #[.int .i64 tag, .bool isb, .int .u64 (x : Int), .slice A3 n3 c3] 114)) w rfl (.tmp 19) (.tmp 21) rfl w.heap.size A2 m c2 L rfl G (fun b => wr.heap.size ≤ b) ((HO.out.keepB HB1.out).alloc _) ((hb.trans (HB1.out.mono hsz)).alloc (Nat.le_trans hsz HB1.out.size) _) zN _ (by rw [zS]; rfl) _ f (tFld.alloc HREP.out _) 114 rfl (fun b h1 _ _ h4 => by obtain ⟨e1, _, e3⟩ := HO.out.lies (b := b) (by simp [Value.ownBlock, h1]); omega) (by omega) ?_); intro A5 c5 w5 h5)
      go_roundw
      case rel =>
       have hw2 : zzq l = (zzq r').map (L ++ [f] ++ ·) := by
        rw [HW.out, yy6 hne HT.out]
        cases zzq r' <;> simp
       have q1 := HB1.out.size
       have hl2 := uue HT.out
       refine ⟨r', L ++ [f], A4, n4, c4, A5, m + 1, c5, _, fun b => wr.heap.size ≤ b ∧ b < w1.heap.size, rfl, rfl, ?_, h5.own, ?_, ?_, h5.below, hw2, ?_⟩
       · refine ((((HS4.out.weaken (F' := fun b => wr.heap.size ≤ b ∧ b < w1.heap.size) (fun b h1 h2 => ⟨h1, h2⟩)).alloc _).alloc _).grown h5.grown ?_)
         intro g hg
         rintro ⟨hg1, _⟩
         obtain ⟨a, ha, hb⟩ := Option.map_eq_some_iff.1 hg
         have := (HO.out.lies (b := a.block) (by rw [ha]; rfl)).2.2
         omega
       · rintro b hb _ ⟨hb1, hb2⟩
         rcases h5.lies with h6 | h6
         · rw [hb] at h6
           obtain ⟨a, ha, hb3⟩ := Option.map_eq_some_iff.1 h6.symm
           have := (HO.out.lies (b := a.block) (by rw [ha]; rfl)).2.2
           simp at hb3
           omega
         · rw [hb] at h6
           simp at h6
           omega
       · rintro b ⟨hb1 | hb1, _⟩
         · exact HGG.out b hb1
         · omega
       · have := HLEN.out
         simp only [List.length_append, List.length_cons, List.length_nil]; omega
      case measure =>
       simp only [lenV]
       have := uue HT.out
       rw [HS4L.out, HR.out]; exact this
  · obtain rfl : n1 = 0 := by omega
    have hr0 : r = [] := List.length_eq_zero_iff.1 HR.out.symm
    have hN : zzq l = some L := by rw [HW.out, hr0, vvw]; simp
    have HN := zH hN; clear hN
    have HO := zH hown; clear hown
    go_wp2
    go_ret2
    exact ⟨A2, m, c2, by rw [HN.out]; rfl, hb, by rw [HN.out]; exact HO.out.sl.weaken (fun b hb _ => by rcases hb with hb | hb; exact HGG.out b hb; exact hb.2)⟩
end
section
open Go Go.RowKit
theorem Sl.front {α : Type} {T : Ty α} {F : Nat → Prop} {w : World} {A : Option Addr} {n c : Nat} {xs : List α} (h : Sl T F w A n c xs) {k : Nat} (hk : k ≤ n) : Sl T F w A k c (xs.take k) := by
 obtain ⟨h1, h2, h3, css, h4, h5⟩ := h
 refine ⟨by simp; omega, by omega, h3, css.take k, ?_, h5.take k⟩
 rw [← List.take_append_drop k css, List.flatten_append] at h4
 exact h4.front
theorem ofNat_toNat {n : Nat} (h : n < 256) : (UInt8.ofNat n).toNat = n := by rw [UInt8.toNat_ofNat', Nat.mod_eq_of_lt h]
theorem pow_split (x i : Nat) : x % 128 * 128 ^ i + x / 128 * 128 ^ (i + 1) = x * 128 ^ i := by
 rw [Nat.pow_succ, Nat.mul_comm (128 ^ i) 128, ← Nat.mul_assoc, ← Nat.add_mul]
 congr 1; omega
theorem qzb (r : List UInt8) : ∀ (f i x y : Nat), i + f = 9 → (i = 0 ∨ 1 ≤ x) → x * 128 ^ i < 18446744073709551616 → vtk (f + 1) i y (yyq f x ++ r) = some (y + x * 128 ^ i, r)
 | 0, i, x, y, hi, h0, hx => by
   obtain rfl : i = 9 := by omega
   have hx1 : x = 1 := by
    have : (128 : Nat) ^ 9 = 9223372036854775808 := by decide
    rw [this] at hx; omega
   subst hx1
   rfl
 | f + 1, i, x, y, hi, h0, hx => by
   unfold yyq
   split
   · rename_i h
     show vtk (f + 1 + 1) i y (UInt8.ofNat x :: r) = _
     rw [vtk, ofNat_toNat (by omega), if_neg (by omega), if_neg (by omega)]
   · rename_i h
     show vtk (f + 1 + 1) i y (UInt8.ofNat (x % 128 + 128) :: (yyq f (x / 128) ++ r)) = _
     have hs := pow_split x i
     rw [vtk, ofNat_toNat (by omega), if_pos (by omega), qzb r f (i + 1) (x / 128) _ (by omega) (.inr (by omega)) (by omega), show x % 128 + 128 - 128 = x % 128 by omega]
     congr 2; omega
theorem qxN (x : Nat) (r : List UInt8) (h : x < 18446744073709551616) : zzD (vput x ++ r) = some (x, r) := by
 have := qzb r 9 0 x 0 rfl (.inl rfl) (by omega)
 unfold zzD vput
 rw [this]; simp
def Fld.ok (f : Fld) : Prop := jjG f = true ∧ f.n < 18446744073709551616 ∧ f.b.length < 18446744073709551616 ∧ (if f.bytes then f.n = 0 else f.b = [])
theorem oks_tag {l : List Fld} (h : ∀ f ∈ l, f.ok) : wput l = some (l.map fld).flatten := qxY l fun f hf => (h f hf).1
theorem tag_ok (t : Nat) (ht : 1 ≤ t ∧ t ≤ 100) : (decide ((1 : Int) ≤ (t : Int)) && decide ((t : Int) ≤ 100)) = true := by
 rw [Bool.and_eq_true, decide_eq_true_eq, decide_eq_true_eq]; omega
theorem ok_num (t : Nat) (n : Nat) (ht : 1 ≤ t ∧ t ≤ 100) (hn : n < 18446744073709551616) : (fnum t n).ok := ⟨tag_ok t ht, hn, by simp [fnum], rfl⟩
theorem ok_txt (t : Nat) (b : List UInt8) (ht : 1 ≤ t ∧ t ≤ 100) (hb : b.length < 18446744073709551616) : (ftxt t b).ok := ⟨tag_ok t ht, by simp [ftxt], hb, rfl⟩
theorem zqQ : ∀ (f i x0 : Nat) (b : List UInt8) (v : Nat) (r : List UInt8), i + f = 9 → vtk (f + 1) i x0 b = some (v, r) → ∃ y, b = yyq f y ++ r ∧ v = x0 + y * 128 ^ i ∧ y < 2 * 128 ^ f ∧ (0 < i → 1 ≤ y)
 | _, _, _, [], _, _, _, h => by simp [vtk] at h
 | f, i, x0, c :: t, v, r, hi, h => by
   have hc := c.toNat_lt
   unfold vtk at h
   by_cases h1 : 128 ≤ c.toNat
   · rw [if_pos h1] at h
     cases f with
     | zero => simp [vtk] at h
     | succ f =>
       obtain ⟨y, e1, e2, e3, e4⟩ := zqQ f (i + 1) _ t v r (by omega) h
       have hy := e4 (by omega)
       refine ⟨(c.toNat - 128) + 128 * y, ?_, ?_, ?_, fun _ => by omega⟩
       · unfold yyq
         rw [if_neg (by omega), show ((c.toNat - 128) + 128 * y) % 128 + 128 = c.toNat by omega, show ((c.toNat - 128) + 128 * y) / 128 = y by omega, UInt8.ofNat_toNat, e1]
         rfl
       · rw [e2, Nat.pow_succ, Nat.add_mul]
         rw [show y * (128 ^ i * 128) = 128 * y * 128 ^ i by rw [Nat.mul_comm (128 ^ i) 128, ← Nat.mul_assoc, Nat.mul_comm y 128]]
         omega
       · rw [Nat.pow_succ]; omega
   · rw [if_neg h1] at h
     by_cases h2 : c.toNat = 0 ∧ 0 < i ∨ i = 9 ∧ 1 < c.toNat
     · rw [if_pos h2] at h; cases h
     · rw [if_neg h2] at h
       injection h with h
       injection h with h3 h4
       subst h3 h4
       refine ⟨c.toNat, ?_, rfl, ?_, fun _ => by omega⟩
       · cases f with
         | zero => simp [yyq]
         | succ f => unfold yyq; rw [if_pos (by omega)]; simp
       · cases f with
         | zero => simp; omega
         | succ f =>
           have : 0 < 128 ^ f := Nat.pow_pos (by omega)
           rw [Nat.pow_succ]; omega
theorem yyz {b : List UInt8} {y : Nat} {r : List UInt8} (h : zzD b = some (y, r)) : b = vput y ++ r ∧ y < 18446744073709551616 := by
 obtain ⟨z, e1, e2, e3, _⟩ := zqQ 9 0 0 b y r rfl h
 have e : y = z := by omega
 subst e
 have e5 : (2 : Nat) * 128 ^ 9 = 18446744073709551616 := by decide
 exact ⟨e1, by omega⟩
theorem vvN : ∀ (f y : Nat), y < 128 ^ (f + 1) → ∃ a c, yyq f y = a ++ [c] ∧ (∀ x ∈ a, 128 ≤ x.toNat) ∧ c.toNat < 128 ∧ a.length ≤ f
 | 0, y, h => ⟨[], UInt8.ofNat y, rfl, by simp, by rw [ofNat_toNat (by omega)]; omega, Nat.le_refl _⟩
 | f + 1, y, h => by
   unfold yyq
   by_cases h1 : y < 128
   · rw [if_pos h1]
     exact ⟨[], UInt8.ofNat y, rfl, by simp, by rw [ofNat_toNat (by omega)]; omega, by simp⟩
   · rw [if_neg h1]
     obtain ⟨a, c, e1, e2, e3, e4⟩ := vvN f (y / 128) (by rw [Nat.pow_succ] at h; exact Nat.div_lt_of_lt_mul (by omega))
     refine ⟨UInt8.ofNat (y % 128 + 128) :: a, c, by rw [e1]; rfl, fun x hx => ?_, e3, by simp; omega⟩
     rcases List.mem_cons.1 hx with rfl | hx
     · rw [ofNat_toNat (by omega)]; omega
     · exact e2 x hx
def hz : List UInt8 → Nat
 | [] => 0
 | c :: r => c.toNat % 128 + 128 * hz r
theorem zqR : ∀ (f y : Nat), y < 128 ^ (f + 1) → hz (yyq f y) = y
 | 0, y, h => by simp only [yyq, hz]; rw [ofNat_toNat (by omega)]; omega
 | f + 1, y, h => by
   unfold yyq
   by_cases h1 : y < 128
   · rw [if_pos h1]; simp only [hz]; rw [ofNat_toNat (by omega)]; omega
   · rw [if_neg h1]
     have ih := zqR f (y / 128) (by rw [Nat.pow_succ] at h; exact Nat.div_lt_of_lt_mul (by omega))
     simp only [hz]; rw [ih, ofNat_toNat (by omega)]; omega
theorem u64_pow : (18446744073709551616 : Nat) ≤ 128 ^ (9 + 1) := by decide
def zqS (b : List UInt8) (k : Nat) : Prop := (∀ i (h : i < b.length), i < k → 128 ≤ (b[i]'h).toNat) ∧ k ≤ 9 ∧ k ≤ b.length
theorem qxO {b : List UInt8} {k : Nat} (h : zqS b k) (hk : k = b.length) : zzD b = none := by
 cases hv : zzD b with
 | none => rfl
 | some p =>
   obtain ⟨y, r⟩ := p
   obtain ⟨e, hy⟩ := yyz hv
   obtain ⟨a, c, e1, _, e3, _⟩ := vvN 9 y (Nat.lt_of_lt_of_le hy u64_pow)
   have e' : b = a ++ (c :: r) := by rw [e]; unfold vput; rw [e1]; simp
   have hl : a.length < b.length := by rw [e']; simp
   have h1 := h.1 a.length hl (by omega)
   have h2 : b[a.length]'hl = c := by
    have : b[a.length]? = some c := by rw [e', List.getElem?_append_right zN]; simp
    rw [List.getElem?_eq_getElem hl] at this
    exact Option.some.inj this
   rw [h2] at h1
   omega
theorem stands_at {b : List UInt8} {k y : Nat} {r : List UInt8} (h : zqS b k) (hk : k < b.length) (hx : k = 9 ∨ (b[k]'hk).toNat < 128) (hv : zzD b = some (y, r)) : b.take (k + 1) = vput y ∧ b.drop (k + 1) = r ∧ hz (b.take (k + 1)) = y ∧ y < 18446744073709551616 := by
 obtain ⟨e, hy⟩ := yyz hv
 have hy2 := Nat.lt_of_lt_of_le hy u64_pow
 obtain ⟨a, c, e1, e2, e3, e4⟩ := vvN 9 y hy2
 have e' : b = a ++ (c :: r) := by rw [e]; unfold vput; rw [e1]; simp
 have hka : k = a.length := by
  rcases Nat.lt_trichotomy k a.length with hlt | heq | hgt
  · exfalso
    have h2 : b[k]'hk = a[k]'hlt := by
     have : b[k]? = some (a[k]'hlt) := by rw [e', List.getElem?_append_left hlt, List.getElem?_eq_getElem hlt]
     rw [List.getElem?_eq_getElem hk] at this
     exact Option.some.inj this
    have h3 := e2 _ (List.getElem_mem hlt)
    rcases hx with hx | hx
    · omega
    · rw [h2] at hx; omega
  · exact heq
  · exfalso
    have hl : a.length < b.length := by omega
    have h1 := h.1 a.length hl hgt
    have h2 : b[a.length]'hl = c := by
     have : b[a.length]? = some c := by rw [e', List.getElem?_append_right zN]; simp
     rw [List.getElem?_eq_getElem hl] at this
     exact Option.some.inj this
    rw [h2] at h1; omega
 have e5 : b.take (k + 1) = vput y := by
  unfold vput
  rw [e1, e', hka, show a ++ c :: r = (a ++ [c]) ++ r by simp, show a.length + 1 = (a ++ [c]).length by simp, List.take_left]
 have e6 : b.drop (k + 1) = r := by
  rw [e', hka, show a ++ c :: r = (a ++ [c]) ++ r by simp, show a.length + 1 = (a ++ [c]).length by simp, List.drop_left]
 exact ⟨e5, e6, by rw [e5]; exact zqR 9 y hy2, hy⟩
theorem rtake_yes {b : List UInt8} {k x : Nat} (hx : x < 18446744073709551616) (he : vput x = b.take (k + 1)) : zzD b = some (x, b.drop (k + 1)) := by
 have : b = vput x ++ b.drop (k + 1) := by rw [he, List.take_append_drop]
 rw [this, qxN x _ hx]
 rw [← this]
theorem rtake_no {b : List UInt8} {k : Nat} (h : zqS b k) (hk : k < b.length) (hx : k = 9 ∨ (b[k]'hk).toNat < 128) (hne : vput (hz (b.take (k + 1)) % 18446744073709551616) ≠ b.take (k + 1)) : zzD b = none := by
 cases hv : zzD b with
 | none => rfl
 | some p =>
   obtain ⟨y, r⟩ := p
   obtain ⟨e1, _, e3, e4⟩ := stands_at h hk hx hv
   exfalso
   apply hne
   rw [e3, Nat.mod_eq_of_lt e4, e1]
theorem wone_some {b : List UInt8} {f : Fld} {r : List UInt8} (h : wone b = some (f, r)) : b = fld f ++ r ∧ f.ok := by
 unfold wone at h
 cases h1 : zzD b with
 | none => rw [h1] at h; cases h
 | some p =>
   obtain ⟨key, r1⟩ := p
   rw [h1] at h
   dsimp only at h
   cases h2 : zzD r1 with
   | none => rw [h2] at h; cases h
   | some q =>
     obtain ⟨n, r2⟩ := q
     rw [h2] at h
     dsimp only at h
     obtain ⟨e1, hk⟩ := yyz h1
     obtain ⟨e2, hn⟩ := yyz h2
     by_cases c1 : key / 8 < 1 ∨ 100 < key / 8 ∨ ¬ (key % 8 = 0 ∨ key % 8 = 2)
     · rw [if_pos c1] at h; cases h
     · rw [if_neg c1] at h
       by_cases c2 : key % 8 = 0
       · rw [if_pos c2] at h
         injection h with h; injection h with h3 h4
         subst h3 h4
         refine ⟨?_, ?_⟩
         · simp only [fld, Bool.false_eq_true, if_false, Int.toNat_natCast]
           rw [show 8 * (key / 8) = key by omega, List.append_assoc, ← e2, ← e1]
         · exact ok_num (key / 8) n (by omega) hn
       · rw [if_neg c2] at h
         by_cases c3 : r2.length < n
         · rw [if_pos c3] at h; cases h
         · rw [if_neg c3] at h
           injection h with h; injection h with h3 h4
           subst h3 h4
           have hl : (r2.take n).length = n := by rw [List.length_take]; omega
           refine ⟨?_, ?_⟩
           · simp only [fld, if_true, Int.toNat_natCast, hl]
             rw [show 8 * (key / 8) + 2 = key by omega, List.append_assoc, List.append_assoc, List.take_append_drop, ← e2, ← e1]
           · exact ok_txt (key / 8) (r2.take n) (by omega) (by rw [hl]; exact hn)
theorem uu1 : ∀ (k : Nat) (b : List UInt8) (l : List Fld), yyA k b = some l → (l.map fld).flatten = b ∧ ∀ f ∈ l, f.ok
 | 0, [], l, h => by simp [yyA] at h; subst h; simp
 | k + 1, [], l, h => by simp [yyA] at h; subst h; simp
 | 0, c :: t, l, h => by simp [yyA] at h
 | k + 1, c :: t, l, h => by
   rw [yyA] at h
   · cases h1 : wone (c :: t) with
     | none => rw [h1] at h; cases h
     | some p =>
       obtain ⟨f, r⟩ := p
       rw [h1] at h
       dsimp only at h
       obtain ⟨e1, e2⟩ := wone_some h1
       cases h2 : yyA k r with
       | none => rw [h2] at h; cases h
       | some m =>
         rw [h2] at h
         have h3 : f :: m = l := Option.some.inj h
         subst h3
         obtain ⟨e3, e4⟩ := uu1 k r m h2
         refine ⟨by rw [List.map_cons, List.flatten_cons, e3, ← e1], fun g hg => ?_⟩
         rcases List.mem_cons.1 hg with rfl | hg
         · exact e2
         · exact e4 g hg
   · intro e; cases e
theorem qzZ {b : List UInt8} {l : List Fld} (h : zzq b = some l) : dput l = b ∧ ∀ f ∈ l, f.ok := by
 obtain ⟨e1, e2⟩ := uu1 _ b l h
 refine ⟨?_, e2⟩
 unfold dput
 rw [oks_tag e2]; exact e1
end
end Go.Proofs.YtpmglcachffojaaGreatDoor
