/- The layer wire: Take. -/
import Derived.Test.YtojenpjafgfpaaaDoorTake2
import Derived.Test.YtojenpjafgfpaaaDoorDesk3
namespace Go.Proofs.YtojenpjafgfpaaaDoor
open Go Go.RowKit

theorem wone_len {l : List UInt8} {f : Fld} {r : List UInt8} (h : wone l = some (f, r)) : r.length < l.length := by
  unfold wone at h
  split at h
  · cases h
  · rename_i key r1 h1
    have q1 := vtake_len h1
    split at h
    · cases h
    · rename_i n r2 h2
      have q2 := vtake_len h2
      split at h
      · cases h
      · split at h
        · injection h with h; injection h with _ h; subst h; omega
        · split at h
          · cases h
          · injection h with h; injection h with _ h; subst h; simp only [List.length_drop]; omega
theorem wone_flen {l : List UInt8} {f : Fld} {r : List UInt8} (h : wone l = some (f, r)) : f.b.length + r.length + 1 ≤ l.length := by
  unfold wone at h
  split at h
  · cases h
  · rename_i key r1 h1
    have q1 := vtake_len h1
    split at h
    · cases h
    · rename_i n r2 h2
      have q2 := vtake_len h2
      split at h
      · cases h
      · split at h
        · injection h with h; injection h with h0 h; subst h h0; simp only [List.length_nil]; omega
        · split at h
          · cases h
          · injection h with h; injection h with h0 h; subst h h0; simp only [List.length_drop, List.length_take]; omega
theorem wtakeF_fuel : ∀ (k : Nat) (l : List UInt8), l.length ≤ k → wtakeF k l = wtake l := by
  intro k
  induction k using Nat.strongRecOn with
  | ind k ih =>
    intro l hl
    unfold wtake
    match k, l with
    | _, [] => cases k <;> simp [wtakeF]
    | 0, c :: t => simp at hl
    | k + 1, c :: t =>
      show wtakeF (k + 1) (c :: t) = wtakeF (t.length + 1) (c :: t)
      simp only [wtakeF]
      cases h : wone (c :: t) with
      | none => rfl
      | some p =>
        obtain ⟨f, r⟩ := p
        have hr := wone_len h
        simp only [List.length_cons] at hr hl
        dsimp only
        rw [ih k (by omega) r (by omega)]
        by_cases hk : t.length < k + 1
        · rw [ih t.length hk r (by omega)]
        · have : t.length = k := by omega
          rw [this, ih k (by omega) r (by omega)]
theorem wtake_nil : wtake [] = some [] := rfl
theorem wtake_none {l : List UInt8} (h0 : l ≠ []) (h : wone l = none) : wtake l = none := by
  cases l with
  | nil => exact absurd rfl h0
  | cons c t => unfold wtake; simp only [List.length_cons, wtakeF, h]
theorem wtake_some {l : List UInt8} {f : Fld} {r : List UInt8} (h0 : l ≠ []) (h : wone l = some (f, r)) : wtake l = (wtake r).map (f :: ·) := by
  cases l with
  | nil => exact absurd rfl h0
  | cons c t =>
    have hr := wone_len h
    unfold wtake
    simp only [List.length_cons, wtakeF, h]
    rw [wtakeF_fuel t.length r (by simp only [List.length_cons] at hr; omega)]
    rfl
def bsum : List Fld → Nat
  | [] => 0
  | f :: r => f.b.length + bsum r
theorem bsum_mem : ∀ (L : List Fld) (f : Fld), f ∈ L → f.b.length ≤ bsum L
  | [], _, h => by cases h
  | g :: r, f, h => by
    rcases List.mem_cons.1 h with rfl | h
    · simp only [bsum]; omega
    · have := bsum_mem r f h; simp only [bsum]; omega
theorem wtake_count : ∀ (n : Nat) (l : List UInt8) (L : List Fld), l.length ≤ n → wtake l = some L → L.length + bsum L ≤ l.length := by
  intro n
  induction n with
  | zero =>
    intro l L hl h
    cases l with
    | nil => rw [wtake_nil] at h; injection h with h; subst h; simp [bsum]
    | cons c t => simp at hl
  | succ n ih =>
    intro l L hl h
    cases hl0 : l with
    | nil => rw [hl0, wtake_nil] at h; injection h with h; subst h; simp [bsum]
    | cons c t =>
      have hne : l ≠ [] := by rw [hl0]; simp
      rw [← hl0]
      cases ho : wone l with
      | none => rw [wtake_none hne ho] at h; cases h
      | some p =>
        obtain ⟨f, r⟩ := p
        rw [wtake_some hne ho] at h
        have hf := wone_flen ho
        cases hr : wtake r with
        | none => rw [hr] at h; cases h
        | some L' =>
          rw [hr] at h
          injection h with h
          subst h
          have := ih r L' (by omega) hr
          simp only [List.length_cons, bsum]; omega

def lenV : Value → Nat
  | .slice _ n _ => n
  | _ => 0
def TakePost (l : List UInt8) (w : World) (e : Ending) (w' : World) : Prop :=
  ∃ A n c, e = .returned (.tuple #[.slice A n c, .int .i64 (okc (wtake l).isSome 2)]) ∧ Below w.heap.size w w' ∧ Sl tFld (fun b => w.heap.size ≤ b) w' A n c ((wtake l).getD [])

set_option maxRecDepth 100000 in
set_option maxHeartbeats 3000000 in
theorem wtake_any (F : Nat → Prop) (A : Option Addr) (n c : Nat) (l : List UInt8) (w : World) (h : Bs F w A n c l) (hn : n ≤ 4294967296) :
    Calls Tryd.prog 91 #[.slice A n c] w (TakePost l w) := by
  have HL := Lib.hid h.len
  go_enter Tryd.func91, Tryd.ntmps91
  go_wp2
  go_loopw [0, 4] (fun s v wr => ∃ (r : List UInt8) (L : List Fld) (A1 : Option Addr) (n1 c1 : Nat) (A2 : Option Addr) (m c2 : Nat) (G H : Nat → Prop), s = .slice A1 n1 c1 ∧ v = .slice A2 m c2 ∧ Bs H wr A1 n1 c1 r ∧
      OwnF tFld 80 G wr w.heap.size A2 m c2 L ∧ (∀ b, A2 = some ⟨b, 0, none⟩ → w.heap.size ≤ b → ¬ H b) ∧ (∀ b, G b → w.heap.size ≤ b) ∧ Below w.heap.size w wr ∧ wtake l = (wtake r).map (L ++ ·) ∧ r.length + L.length ≤ l.length)
    (fun s _ _ => lenV s)
  case atStart => exact ⟨l, [], A, n, c, none, 0, 0, fun _ => False, F, rfl, rfl, h, OwnF.nil_ _ _ _ _ _, by simp, by simp, Below.refl _ _, by cases wtake l <;> simp, by simp⟩
  case round =>
    obtain ⟨r, L, A1, n1, c1, A2, m, c2, G, H, rfl, rfl, hs, hown, hH, hG, hb, hw, hlen⟩ := hrel
    have HR := Lib.hid hs.len
    have hn1 : n1 ≤ 4294967296 := by rw [HR.out]; have := HL.out; omega
    have hm : m ≤ 4294967296 := by rw [hown.len]; have := HL.out; omega
    have hsz := hb.size
    have HHH := Lib.hid hH; have HGG := Lib.hid hG; clear hH hG
    have HW := Lib.hid hw; have HLEN := Lib.hid hlen; clear hw hlen
    by_cases hlt : 0 < n1
    · have hne : r ≠ [] := by intro h0; rw [HR.out, h0] at hlt; simp at hlt
      have HO := Lib.hid hown; clear hown
      go_wp2_with (go_at_call 100; refine (wone_any H A1 n1 c1 r _ hs hn1).mono ?_)
      rintro e w1 ⟨tag, isb, x, A3, n3, c3, A4, n4, c4, rfl, hb1, ho1⟩
      obtain ⟨ec, hec⟩ : ∃ ec, ec = okc (wone r).isSome 2 := ⟨_, rfl⟩
      rw [← hec]
      have HB1 := Lib.hid hb1; clear hb1
      cases hT : wone r with
      | none =>
        obtain rfl : ec = 2 := by rw [hec, hT]; rfl
        have hN : wtake l = none := by rw [HW.out, wtake_none hne hT]; rfl
        have HN := Lib.hid hN; clear hN hT hec ho1
        go_wp2
        go_ret2
        exact ⟨none, 0, 0, by rw [HN.out]; rfl, (hb.trans (HB1.out.mono hsz)).alloc (Nat.le_trans hsz HB1.out.size) _, by rw [HN.out]; exact Sl.nil_ _ _ _⟩
      | some p =>
        obtain ⟨f, r'⟩ := p
        obtain rfl : ec = 0 := by rw [hec, hT]; rfl
        obtain ⟨hrep, hs4⟩ := ho1 f r' hT
        have HREP := Lib.hid hrep; have HS4 := Lib.hid hs4; have HT := Lib.hid hT
        have hs4l := hs4.len
        have HS4L := Lib.hid hs4l
        clear hT hec ho1 hrep hs4 hs4l
        go_wp2_with (at_builtin; go_loud (refine apl1 (T := tFld) elemFld (w1.alloc (.cells #[.int .i64 tag, .bool isb, .int .u64 (x : Int), .slice A3 n3 c3] 80)) w rfl (.tmp 19) (.tmp 21) rfl w.heap.size A2 m c2 L rfl G (fun b => wr.heap.size ≤ b) ((HO.out.keepB HB1.out).alloc _) ((hb.trans (HB1.out.mono hsz)).alloc (Nat.le_trans hsz HB1.out.size) _) (Nat.le_refl _) _ (by rw [World.size_alloc]; rfl) _ f (tFld.alloc HREP.out _) 80 rfl (fun b h1 _ _ h4 => by obtain ⟨e1, _, e3⟩ := HO.out.lies (b := b) (by simp [Value.ownBlock, h1]); omega) (by omega) ?_); intro A5 c5 w5 h5)
        go_roundw
        case rel =>
          have hw2 : wtake l = (wtake r').map (L ++ [f] ++ ·) := by
            rw [HW.out, wtake_some hne HT.out]
            cases wtake r' <;> simp
          have q1 := HB1.out.size
          have hl2 := wone_len HT.out
          refine ⟨r', L ++ [f], A4, n4, c4, A5, m + 1, c5, _, fun b => wr.heap.size ≤ b ∧ b < w1.heap.size, rfl, rfl, ?_, h5.own, ?_, ?_, h5.below, hw2, ?_⟩
          · refine ((((HS4.out.weaken (F' := fun b => wr.heap.size ≤ b ∧ b < w1.heap.size) (fun b h1 h2 => ⟨h1, h2⟩)).alloc _).alloc _).grown h5.grown ?_)
            intro g hg
            rintro ⟨hg1, _⟩
            obtain ⟨a, ha, hb⟩ := Option.map_eq_some_iff.1 hg
            have := (HO.out.lies (b := a.block) (by rw [ha]; rfl)).2.2
            omega
          · rintro b hb _ ⟨hb1, hb2⟩
            rcases h5.lies with h6 | h6
            · rw [hb] at h6
              obtain ⟨a, ha, hb3⟩ := Option.map_eq_some_iff.1 h6.symm
              have := (HO.out.lies (b := a.block) (by rw [ha]; rfl)).2.2
              simp at hb3
              omega
            · rw [hb] at h6
              simp at h6
              omega
          · rintro b ⟨hb1 | hb1, _⟩
            · exact HGG.out b hb1
            · omega
          · have := HLEN.out
            simp only [List.length_append, List.length_cons, List.length_nil]; omega
        case measure =>
          simp only [lenV]
          have := wone_len HT.out
          rw [HS4L.out, HR.out]; exact this
    · obtain rfl : n1 = 0 := by omega
      have hr0 : r = [] := List.length_eq_zero_iff.1 HR.out.symm
      have hN : wtake l = some L := by rw [HW.out, hr0, wtake_nil]; simp
      have HN := Lib.hid hN; clear hN
      have HO := Lib.hid hown; clear hown
      go_wp2
      go_ret2
      exact ⟨A2, m, c2, by rw [HN.out]; rfl, hb, by rw [HN.out]; exact HO.out.sl.weaken (fun b hb _ => by rcases hb with hb | hb; exact HGG.out b hb; exact hb.2)⟩
end Go.Proofs.YtojenpjafgfpaaaDoor
