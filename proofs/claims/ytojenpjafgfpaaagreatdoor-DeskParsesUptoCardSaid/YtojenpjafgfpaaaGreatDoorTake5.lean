/- The layer wire: Take. -/
import Derived.Test.YtojenpjafgfpaaaGreatDoorTake2
import Derived.Test.YtojenpjafgfpaaaGreatDoorDesk3
namespace Go.Proofs.YtojenpjafgfpaaaGreatDoor
open Go Go.RowKit

theorem wone_len {l : List UInt8} {f : Fld} {r : List UInt8} (h : wone l = some (f, r)) : r.length < l.length := by
  unfold wone at h
  split at h
  · cases h
  · rename_i key r1 h1
    have q1 := vtake_len h1
    split at h
    · cases h
    · rename_i n r2 h2
      have q2 := vtake_len h2
      split at h
      · cases h
      · split at h
        · injection h with h; injection h with _ h; subst h; omega
        · split at h
          · cases h
          · injection h with h; injection h with _ h; subst h; simp only [List.length_drop]; omega
theorem wone_flen {l : List UInt8} {f : Fld} {r : List UInt8} (h : wone l = some (f, r)) : f.b.length + r.length + 1 ≤ l.length := by
  unfold wone at h
  split at h
  · cases h
  · rename_i key r1 h1
    have q1 := vtake_len h1
    split at h
    · cases h
    · rename_i n r2 h2
      have q2 := vtake_len h2
      split at h
      · cases h
      · split at h
        · injection h with h; injection h with h0 h; subst h h0; simp only [List.length_nil]; omega
        · split at h
          · cases h
          · injection h with h; injection h with h0 h; subst h h0; simp only [List.length_drop, List.length_take]; omega
theorem wtakeF_fuel : ∀ (k : Nat) (l : List UInt8), l.length ≤ k → wtakeF k l = wtake l := by
  intro k
  induction k using Nat.strongRecOn with
  | ind k ih =>
    intro l hl
    unfold wtake
    match k, l with
    | _, [] => cases k <;> simp [wtakeF]
    | 0, c :: t => simp at hl
    | k + 1, c :: t =>
      show wtakeF (k + 1) (c :: t) = wtakeF (t.length + 1) (c :: t)
      simp only [wtakeF]
      cases h : wone (c :: t) with
      | none => rfl
      | some p =>
        obtain ⟨f, r⟩ := p
        have hr := wone_len h
        simp only [List.length_cons] at hr hl
        dsimp only
        rw [ih k (by omega) r (by omega)]
        by_cases hk : t.length < k + 1
        · rw [ih t.length hk r (by omega)]
        · have : t.length = k := by omega
          rw [this, ih k (by omega) r (by omega)]
theorem wtake_nil : wtake [] = some [] := rfl
theorem wtake_none {l : List UInt8} (h0 : l ≠ []) (h : wone l = none) : wtake l = none := by
  cases l with
  | nil => exact absurd rfl h0
  | cons c t => unfold wtake; simp only [List.length_cons, wtakeF, h]
theorem wtake_some {l : List UInt8} {f : Fld} {r : List UInt8} (h0 : l ≠ []) (h : wone l = some (f, r)) : wtake l = (wtake r).map (f :: ·) := by
  cases l with
  | nil => exact absurd rfl h0
  | cons c t =>
    have hr := wone_len h
    unfold wtake
    simp only [List.length_cons, wtakeF, h]
    rw [wtakeF_fuel t.length r (by simp only [List.length_cons] at hr; omega)]
    rfl
def bsum : List Fld → Nat
  | [] => 0
  | f :: r => f.b.length + bsum r
theorem bsum_mem : ∀ (L : List Fld) (f : Fld), f ∈ L → f.b.length ≤ bsum L
  | [], _, h => by cases h
  | g :: r, f, h => by
    rcases List.mem_cons.1 h with rfl | h
    · simp only [bsum]; omega
    · have := bsum_mem r f h; simp only [bsum]; omega
theorem wtake_count : ∀ (n : Nat) (l : List UInt8) (L : List Fld), l.length ≤ n → wtake l = some L → L.length + bsum L ≤ l.length := by
  intro n
  induction n with
  | zero =>
    intro l L hl h
    cases l with
    | nil => rw [wtake_nil] at h; injection h with h; subst h; simp [bsum]
    | cons c t => simp at hl
  | succ n ih =>
    intro l L hl h
    cases hl0 : l with
    | nil => rw [hl0, wtake_nil] at h; injection h with h; subst h; simp [bsum]
    | cons c t =>
      have hne : l ≠ [] := by rw [hl0]; simp
      rw [← hl0]
      cases ho : wone l with
      | none => rw [wtake_none hne ho] at h; cases h
      | some p =>
        obtain ⟨f, r⟩ := p
        rw [wtake_some hne ho] at h
        have hf := wone_flen ho
        cases hr : wtake r with
        | none => rw [hr] at h; cases h
        | some L' =>
          rw [hr] at h
          injection h with h
          subst h
          have := ih r L' (by omega) hr
          simp only [List.length_cons, bsum]; omega

def lenV : Value → Nat
  | .slice _ n _ => n
  | _ => 0
def TakePost (l : List UInt8) (w : World) (e : Ending) (w' : World) : Prop :=
  ∃ A n c, e = .returned (.tuple #[.slice A n c, .int .i64 (okc (wtake l).isSome 2)]) ∧ Below w.heap.size w w' ∧ Sl tFld (fun b => w.heap.size ≤ b) w' A n c ((wtake l).getD [])

set_option maxRecDepth 100000 in
set_option maxHeartbeats 3000000 in
theorem wtake_any (F : Nat → Prop) (A : Option Addr) (n c : Nat) (l : List UInt8) (w : World) (h : Bs F w A n c l) (hn : n ≤ 4294967296) :
    Calls Tryz.prog 51 #[.slice A n c] w (TakePost l w) := by
  have HL := Lib.hid h.len
  go_enter Tryz.func51, Tryz.ntmps51
  go_wp2
  go_loopw [0, 4] (fun s v wr => ∃ (r : List UInt8) (L : List Fld) (A1 : Option Addr) (n1 c1 : Nat) (A2 : Option Addr) (m c2 : Nat) (G H : Nat → Prop), s = .slice A1 n1 c1 ∧ v = .slice A2 m c2 ∧ Bs H wr A1 n1 c1 r ∧
      OwnF tFld 75 G wr w.heap.size A2 m c2 L ∧ (∀ b, A2 = some ⟨b, 0, none⟩ → w.heap.size ≤ b → ¬ H b) ∧ (∀ b, G b → w.heap.size ≤ b) ∧ Below w.heap.size w wr ∧ wtake l = (wtake r).map (L ++ ·) ∧ r.length + L.length ≤ l.length)
    (fun s _ _ => lenV s)
  case atStart => exact ⟨l, [], A, n, c, none, 0, 0, fun _ => False, F, rfl, rfl, h, OwnF.nil_ _ _ _ _ _, by simp, by simp, Below.refl _ _, by cases wtake l <;> simp, by simp⟩
  case round =>
    obtain ⟨r, L, A1, n1, c1, A2, m, c2, G, H, rfl, rfl, hs, hown, hH, hG, hb, hw, hlen⟩ := hrel
    have HR := Lib.hid hs.len
    have hn1 : n1 ≤ 4294967296 := by rw [HR.out]; have := HL.out; omega
    have hm : m ≤ 4294967296 := by rw [hown.len]; have := HL.out; omega
    have hsz := hb.size
    have HHH := Lib.hid hH; have HGG := Lib.hid hG; clear hH hG
    have HW := Lib.hid hw; have HLEN := Lib.hid hlen; clear hw hlen
    by_cases hlt : 0 < n1
    · have hne : r ≠ [] := by intro h0; rw [HR.out, h0] at hlt; simp at hlt
      have HO := Lib.hid hown; clear hown
      go_wp2_with (go_at_call 78; refine (wone_any H A1 n1 c1 r _ hs hn1).mono ?_)
      rintro e w1 ⟨tag, isb, x, A3, n3, c3, A4, n4, c4, rfl, hb1, ho1⟩
      obtain ⟨ec, hec⟩ : ∃ ec, ec = okc (wone r).isSome 2 := ⟨_, rfl⟩
      rw [← hec]
      have HB1 := Lib.hid hb1; clear hb1
      cases hT : wone r with
      | none =>
        obtain rfl : ec = 2 := by rw [hec, hT]; rfl
        have hN : wtake l = none := by rw [HW.out, wtake_none hne hT]; rfl
        have HN := Lib.hid hN; clear hN hT hec ho1
        go_wp2
        go_ret2
        exact ⟨none, 0, 0, by rw [HN.out]; rfl, (hb.trans (HB1.out.mono hsz)).alloc (Nat.le_trans hsz HB1.out.size) _, by rw [HN.out]; exact Sl.nil_ _ _ _⟩
      | some p =>
        obtain ⟨f, r'⟩ := p
        obtain rfl : ec = 0 := by rw [hec, hT]; rfl
        obtain ⟨hrep, hs4⟩ := ho1 f r' hT
        have HREP := Lib.hid hrep; have HS4 := Lib.hid hs4; have HT := Lib.hid hT
        have hs4l := hs4.len
        have HS4L := Lib.hid hs4l
        clear hT hec ho1 hrep hs4 hs4l
        go_wp2_with (at_builtin; go_loud (refine apl1 (T := tFld) elemFld (w1.alloc (.cells #[.int .i64 tag, .bool isb, .int .u64 (x : Int), .slice A3 n3 c3] 75)) w rfl (.tmp 19) (.tmp 21) rfl w.heap.size A2 m c2 L rfl G (fun b => wr.heap.size ≤ b) ((HO.out.keepB HB1.out).alloc _) ((hb.trans (HB1.out.mono hsz)).alloc (Nat.le_trans hsz HB1.out.size) _) (Nat.le_refl _) _ (by rw [World.size_alloc]; rfl) _ f (tFld.alloc HREP.out _) 75 rfl (fun b h1 _ _ h4 => by obtain ⟨e1, _, e3⟩ := HO.out.lies (b := b) (by simp [Value.ownBlock, h1]); omega) (by omega) ?_); intro A5 c5 w5 h5)
        go_roundw
        case rel =>
          have hw2 : wtake l = (wtake r').map (L ++ [f] ++ ·) := by
            rw [HW.out, wtake_some hne HT.out]
            cases wtake r' <;> simp
          have q1 := HB1.out.size
          have hl2 := wone_len HT.out
          refine ⟨r', L ++ [f], A4, n4, c4, A5, m + 1, c5, _, fun b => wr.heap.size ≤ b ∧ b < w1.heap.size, rfl, rfl, ?_, h5.own, ?_, ?_, h5.below, hw2, ?_⟩
          · refine ((((HS4.out.weaken (F' := fun b => wr.heap.size ≤ b ∧ b < w1.heap.size) (fun b h1 h2 => ⟨h1, h2⟩)).alloc _).alloc _).grown h5.grown ?_)
            intro g hg
            rintro ⟨hg1, _⟩
            obtain ⟨a, ha, hb⟩ := Option.map_eq_some_iff.1 hg
            have := (HO.out.lies (b := a.block) (by rw [ha]; rfl)).2.2
            omega
          · rintro b hb _ ⟨hb1, hb2⟩
            rcases h5.lies with h6 | h6
            · rw [hb] at h6
              obtain ⟨a, ha, hb3⟩ := Option.map_eq_some_iff.1 h6.symm
              have := (HO.out.lies (b := a.block) (by rw [ha]; rfl)).2.2
              simp at hb3
              omega
            · rw [hb] at h6
              simp at h6
              omega
          · rintro b ⟨hb1 | hb1, _⟩
            · exact HGG.out b hb1
            · omega
          · have := HLEN.out
            simp only [List.length_append, List.length_cons, List.length_nil]; omega
        case measure =>
          simp only [lenV]
          have := wone_len HT.out
          rw [HS4L.out, HR.out]; exact this
    · obtain rfl : n1 = 0 := by omega
      have hr0 : r = [] := List.length_eq_zero_iff.1 HR.out.symm
      have hN : wtake l = some L := by rw [HW.out, hr0, wtake_nil]; simp
      have HN := Lib.hid hN; clear hN
      have HO := Lib.hid hown; clear hown
      go_wp2
      go_ret2
      exact ⟨A2, m, c2, by rw [HN.out]; rfl, hb, by rw [HN.out]; exact HO.out.sl.weaken (fun b hb _ => by rcases hb with hb | hb; exact HGG.out b hb; exact hb.2)⟩
end Go.Proofs.YtojenpjafgfpaaaGreatDoor
/- The layer wire: shaped (at the pattern of a value), TakeValue. -/
namespace Go.Proofs.YtojenpjafgfpaaaGreatDoor
open Go Go.RowKit

def sOk (k : Nat) (f : Fld) : Bool := f.tag == (k : Int) + 1 && f.bytes == (k == 2)
def sh3 (L : List Fld) : Bool := L.length == 3 && (L[0]?.map (sOk 0)).getD true && (L[1]?.map (sOk 1)).getD true && (L[2]?.map (sOk 2)).getD true
def shp (b : List UInt8) : Option (List Fld) := (wtake b).bind fun L => if sh3 L then some L else none
def vOf (f1 f2 f3 : Fld) : VV := ⟨decide (f1.n = 1), zagI f2.n, ⟨f3.b.toArray⟩⟩

theorem len3 {L : List Fld} (h : L.length = 3) : ∃ a b c, L = [a, b, c] := by
  match L, h with
  | [a, b, c], _ => exact ⟨a, b, c, rfl⟩
theorem sh3_bad {L : List Fld} (h : L.length = 3) {k : Nat} (hk : k < L.length) (hb : sOk k (L[k]'hk) = false) : sh3 L = false := by
  obtain ⟨a, b, c, rfl⟩ := len3 h
  match k, hk, hb with
  | 0, _, hb => simp at hb; simp [sh3, hb]
  | 1, _, hb => simp at hb; simp [sh3, hb]
  | 2, _, hb => simp at hb; simp [sh3, hb]
theorem sh3_good {L : List Fld} (h : L.length = 3) (hb : ∀ j (hj : j < L.length), j < 3 → sOk j (L[j]'hj) = true) : sh3 L = true := by
  obtain ⟨a, b, c, rfl⟩ := len3 h
  have h0 := hb 0 (by simp) (by omega)
  have h1 := hb 1 (by simp) (by omega)
  have h2 := hb 2 (by simp) (by omega)
  simp at h0 h1 h2
  simp [sh3, h0, h1, h2]
theorem sh3_len {L : List Fld} (h : L.length ≠ 3) : sh3 L = false := by
  simp [sh3, h]

def ShPost (l : List UInt8) (w : World) (e : Ending) (w' : World) : Prop :=
  ∃ A n c, e = .returned (.tuple #[.slice A n c, .bool (shp l).isSome]) ∧ Below w.heap.size w w' ∧ Sl tFld (fun b => w.heap.size ≤ b) w' A n c ((shp l).getD [])

set_option maxRecDepth 100000 in
set_option maxHeartbeats 3000000 in
theorem shaped_any (F : Nat → Prop) (A : Option Addr) (n c : Nat) (l : List UInt8) (w : World) (h : Bs F w A n c l) (hn : n ≤ 4294967296) :
    Calls Tryz.prog 92 #[.slice A n c, .string ⟨#[110, 110, 98]⟩] w (ShPost l w) := by
  go_enter Tryz.func92, Tryz.ntmps92
  go_wp2_with (go_at_call 51; refine (wtake_any F A n c l _ h hn).mono ?_)
  rintro e w1 ⟨A1, n1, c1, rfl, hb1, hs1⟩
  obtain ⟨ec, hec⟩ : ∃ ec, ec = okc (wtake l).isSome 2 := ⟨_, rfl⟩
  rw [← hec]
  have HB1 := Lib.hid hb1; clear hb1
  cases hT : wtake l with
  | none =>
    obtain rfl : ec = 2 := by rw [hec, hT]; rfl
    have HN := Lib.hid (show shp l = none by simp [shp, hT])
    clear hs1 hT hec
    go_wp2
    go_ret2
    exact ⟨none, 0, 0, by rw [HN.out]; rfl, HB1.out, by rw [HN.out]; exact Sl.nil_ _ _ _⟩
  | some L =>
    obtain rfl : ec = 0 := by rw [hec, hT]; rfl
    rw [hT] at hs1
    have hS : Sl tFld (fun b => w.heap.size ≤ b) w1 A1 n1 c1 L := hs1
    have HL := Lib.hid hS.len
    have HSH := Lib.hid (show shp l = if sh3 L then some L else none by simp [shp, hT])
    clear hs1 hT hec
    by_cases h3 : n1 = 3
    · subst h3
      go_wp2_with fail
      go_loopw [26] (fun i wr => ∃ (k : Nat), k ≤ 3 ∧ i = .int .i64 k ∧ Below w1.heap.size w1 wr ∧ ∀ j (hj : j < L.length), j < k → sOk j (L[j]'hj) = true)
        (fun i _ => 3 - (intOf i).toNat)
      case atStart => exact ⟨0, by omega, rfl, Below.refl _ _, by intro j hj h; omega⟩
      case round =>
        obtain ⟨k, hk, rfl, hb, hok⟩ := hrel
        have HOK := Lib.hid hok; clear hok
        by_cases hlt : k < 3
        · have hkl : k < L.length := by rw [← HL.out]; exact hlt
          obtain ⟨b, o, cs, rfl, _, hbl, hrep, hc⟩ := (hS.below hb (Nat.le_refl _)).at_ hkl (by decide)
          obtain ⟨f, hf⟩ : ∃ f, f = L[k] := ⟨_, rfl⟩
          rw [← hf] at hrep
          have HF := Lib.hid hf; clear hf
          obtain ⟨A3, n3, c3, rfl, ht, hn3, hs3⟩ := hrep
          obtain ⟨g0, g1, g2, g3⟩ := cells4 hc
          clear hc hs3
          obtain ⟨tag, isb, fn, fb⟩ := f
          dsimp only at *
          obtain ⟨ht0, ht1⟩ := ht
          have hkc : k = 0 ∨ k = 1 ∨ k = 2 := by omega
          have hbx : Below w.heap.size w wr := HB1.out.trans (hb.mono HB1.out.size)
          have hszx := hbx.size
          have hszy := hb.size
          by_cases htag : tag = (k : Int) + 1
          · by_cases hib : isb = (k == 2)
            · have hkok : sOk k (L[k]'hkl) = true := by rw [← HF.out]; simp [sOk, htag, hib]
              have HK := Lib.hid hkok; clear hkok HF
              rcases hkc with rfl | rfl | rfl
              all_goals
                subst htag hib
                (try simp only [Nat.zero_mul, Nat.add_zero] at g0 g1 g2 g3)
                go_wp2_with fail
                go_quiet (fail)
                go_wp2_with fail
                go_roundw
                case rel =>
                  first
                  | refine ⟨1, by omega, by go_num, ((hb.alloc hszy _).trans ⟨rfl, rfl, rfl, Nat.le_refl _, fun _ _ => rfl⟩), fun j hj hjk => ?_⟩
                  | refine ⟨2, by omega, by go_num, ((hb.alloc hszy _).trans ⟨rfl, rfl, rfl, Nat.le_refl _, fun _ _ => rfl⟩), fun j hj hjk => ?_⟩
                  | refine ⟨3, by omega, by go_num, ((hb.alloc hszy _).trans ⟨rfl, rfl, rfl, Nat.le_refl _, fun _ _ => rfl⟩), fun j hj hjk => ?_⟩
                  rcases Nat.lt_or_eq_of_le (Nat.le_of_lt_succ hjk) with h | h
                  · exact HOK.out j hj h
                  · subst h; exact HK.out
                case measure => simp [intOf]
            · have hkok : sOk k (L[k]'hkl) = false := by rw [← HF.out]; simp [sOk, hib]
              have HN := Lib.hid (show shp l = none by rw [HSH.out, sh3_bad HL.out.symm hkl hkok]; rfl)
              clear hkok HF
              rcases hkc with rfl | rfl | rfl
              all_goals
                subst htag
                (try simp only [Nat.zero_mul, Nat.add_zero] at g0 g1 g2 g3)
                cases isb
                all_goals
                  first
                  | (exact absurd rfl hib)
                  | (clear hib
                     go_wp2_with fail
                     go_quiet (fail)
                     go_wp2_with fail
                     go_ret2
                     exact ⟨none, 0, 0, by rw [HN.out]; rfl, ((hbx.alloc hszx _).trans ⟨rfl, rfl, rfl, Nat.le_refl _, fun _ _ => rfl⟩), by rw [HN.out]; exact Sl.nil_ _ _ _⟩)
          · have hkok : sOk k (L[k]'hkl) = false := by rw [← HF.out]; simp [sOk, htag]
            have HN := Lib.hid (show shp l = none by rw [HSH.out, sh3_bad HL.out.symm hkl hkok]; rfl)
            clear hkok HF hkc
            have htag2 : (tag != (k : Int) + 1) = true := by simp [htag]
            go_wp2_with fail
            go_quiet (fail)
            go_wp2_with fail
            go_ret2
            exact ⟨none, 0, 0, by rw [HN.out]; rfl, ((hbx.alloc hszx _).trans ⟨rfl, rfl, rfl, Nat.le_refl _, fun _ _ => rfl⟩), by rw [HN.out]; exact Sl.nil_ _ _ _⟩
        · obtain rfl : k = 3 := by omega
          have HN := Lib.hid (show shp l = some L by rw [HSH.out, sh3_good HL.out.symm (fun j hj h => HOK.out j hj h)]; rfl)
          go_wp2
          go_ret2
          exact ⟨A1, 3, c1, by rw [HN.out]; rfl, HB1.out.trans (hb.mono HB1.out.size), by rw [HN.out]; exact hS.below hb (Nat.le_refl _)⟩
    · have HN := Lib.hid (show shp l = none by rw [HSH.out, sh3_len (by rw [← HL.out]; exact h3)]; rfl)
      have h3' : ((n1 : Int) != 3) = true := by simp; omega
      go_wp2
      go_ret2
      exact ⟨none, 0, 0, by rw [HN.out]; rfl, HB1.out, by rw [HN.out]; exact Sl.nil_ _ _ _⟩
end Go.Proofs.YtojenpjafgfpaaaGreatDoor
/- The layer wire: TakeValue. -/
namespace Go.Proofs.YtojenpjafgfpaaaGreatDoor
open Go Go.RowKit
attribute [local go_sem ↓] Go.wp_at_zero Go.wp_at_succ

theorem takeValue_shp (l : List UInt8) : takeValue l = (shp l).bind fun L => match L with | [f1, f2, f3] => if f1.n ≤ 1 then some (vOf f1 f2 f3) else none | _ => none := by
  unfold takeValue shp
  cases h : wtake l with
  | none => rfl
  | some L =>
    by_cases hl : L.length = 3
    · obtain ⟨a, b, c, rfl⟩ := len3 hl
      simp only [Option.bind_some]
      by_cases hs : sh3 [a, b, c] = true
      · rw [if_pos hs]
        simp [sh3, sOk] at hs
        simp [hs, vOf]
      · rw [if_neg hs]
        simp only [Option.bind_none]
        rw [if_neg]
        rintro ⟨h1, h2, h3, h4, h5, h6, h7⟩
        exact hs (by simp [sh3, sOk, h1, h2, h3, h4, h5, h6])
    · have : sh3 L = false := sh3_len hl
      simp only [Option.bind_some, this]
      match L, hl with
      | [], _ => rfl
      | [_], _ => rfl
      | [_, _], _ => rfl
      | _ :: _ :: _ :: _ :: _, _ => rfl
      | [a, b, c], hl => exact absurd rfl hl

theorem run_bs {F : Nat → Prop} {w : World} {A : Option Addr} {n c : Nat} {l : List UInt8} (h : Bs F w A n c l) : (convert 30 9 (.slice A n c)).run Tryz.prog w = .ok (.string ⟨l.toArray⟩) w := by
  obtain ⟨hn, _, _, css, hrd, hr⟩ := h
  subst hn
  have hcs := reps_u8_eq hr
  subst hcs
  rw [bvs_css] at hrd
  cases A with
  | none =>
    have : l = [] := by
      cases l with
      | nil => rfl
      | cons x t => obtain ⟨_, _, h, _⟩ := hrd (by simp [bvs]); cases h
    subst this
    rw [List.length_nil, run_convert_bytes_string w _ _ _ none 0 c undBytes undByte undString]
    simp [Conv.bytesToString]
    rfl
  | some a =>
    refine run_convert_bytes_back w _ _ _ a c l undBytes undByte undString (fun j hj => ?_)
    obtain ⟨b, o, e, _, _, hc⟩ := hrd (by intro h0; cases l with | nil => simp at hj | cons x t => simp [bvs] at h0)
    injection e with e; subst e
    rw [add_lit]
    exact hc j _ (by rw [bvs_get l j hj])

theorem shp_len {l : List UInt8} {L : List Fld} (h : shp l = some L) : L.length = 3 := by
  unfold shp at h
  cases hw : wtake l with
  | none => rw [hw] at h; cases h
  | some M =>
    rw [hw] at h
    simp only [Option.bind_some] at h
    split at h
    · rename_i hs
      injection h with h; subst h
      by_cases hl : M.length = 3
      · exact hl
      · rw [sh3_len hl] at hs; cases hs
    · cases h
theorem shp_b3 {l : List UInt8} {a b c : Fld} (hl : l.length ≤ 4294967296) (h : shp l = some [a, b, c]) : c.b.length ≤ 4294967296 := by
  unfold shp at h
  cases hw : wtake l with
  | none => rw [hw] at h; cases h
  | some M =>
    rw [hw] at h
    simp only [Option.bind_some] at h
    split at h
    · injection h with h; subst h
      have h1 := wtake_count _ l _ (Nat.le_refl _) hw
      have h2 := bsum_mem [a, b, c] c (by simp)
      omega
    · cases h
theorem rdValue_none {l : List UInt8} (h : takeValue l = none) : rdValue l = (true, VV.zero) := by simp [rdValue, h]
theorem rdValue_some {l : List UInt8} {v : VV} (h : takeValue l = some v) : rdValue l = (false, v) := by simp [rdValue, h]
/-- What TakeValue leaves. -/
def TvPost (l : List UInt8) (w : World) (e : Ending) (w' : World) : Prop :=
  e = .returned (.tuple #[.agg #[.bool (rdValue l).2.null, .int .i64 (rdValue l).2.n, .string (rdValue l).2.s], .int .i64 (okc (takeValue l).isSome 2)]) ∧ Below w.heap.size w w' ∧ (rdValue l).2.ok ∧ (rdValue l).2.s.size ≤ 4294967296

set_option maxRecDepth 100000 in
set_option maxHeartbeats 3000000 in
theorem takeValue_any (F : Nat → Prop) (A : Option Addr) (n c : Nat) (l : List UInt8) (w : World) (h : Bs F w A n c l) (hn : n ≤ 4294967296) :
    Calls Tryz.prog 77 #[.slice A n c] w (TvPost l w) := by
  have HL := Lib.hid h.len
  go_enter Tryz.func77, Tryz.ntmps77
  go_wp2_with (go_at_call 92; refine (shaped_any F A n c l _ (h.alloc _) hn).mono ?_)
  rintro e w1 ⟨A1, n1, c1, rfl, hb1, hs1⟩
  have hbk : w1.heap[w.heap.size]? = some (.cells #[.bool false, .int .i64 0, .string ⟨#[]⟩] 53 (0, 0)) := (hb1.block _ (by simp)).trans (heap_alloc_new w _)
  have hlt : w.heap.size < w1.heap.size := by
    rcases Nat.lt_or_ge w.heap.size w1.heap.size with h' | h'
    · exact h'
    · rw [Array.getElem?_eq_none h'] at hbk; cases hbk
  have q0 : w1.cell? ⟨w.heap.size, 0, none⟩ = some (.bool false) := by rw [Lib.cell_of_heap hbk]; rfl
  have q1 : w1.cell? ⟨w.heap.size, 1, none⟩ = some (.int .i64 0) := by rw [Lib.cell_of_heap hbk]; rfl
  have q2 : w1.cell? ⟨w.heap.size, 2, none⟩ = some (.string ⟨#[]⟩) := by rw [Lib.cell_of_heap hbk]; rfl
  have f0 := Lib.frozen_of_heap hbk 0
  have f1 := Lib.frozen_of_heap hbk 1
  have f2 := Lib.frozen_of_heap hbk 2
  have HB1 : Hid (Below w.heap.size w w1) := Lib.hid (((Below.refl _ w).alloc (Nat.le_refl _) _).trans (hb1.mono (by simp)))
  have HBK := Lib.hid hbk
  have hs1 : Sl tFld (fun b => w.heap.size < b) w1 A1 n1 c1 ((shp l).getD []) := hs1.weaken fun b hb _ => by simp at hb; omega
  clear hbk hb1
  obtain ⟨ok, hok⟩ : ∃ ok, ok = (shp l).isSome := ⟨_, rfl⟩
  rw [← hok]
  cases hT : shp l with
  | none =>
    obtain rfl : ok = false := by rw [hok, hT]; rfl
    have HN := Lib.hid (show takeValue l = none by rw [takeValue_shp, hT]; rfl)
    clear hs1 hT hok
    go_wp2_with fail
    refine bodyPost_ret (results_row2 rfl _ _ w.heap.size 53 #[.bool false, .int .i64 0, .string ⟨#[]⟩] (0, 0) _ rfl (by have hk := HBK.out; (repeat (first | with_reducible exact hk | with_reducible apply heap_drew | with_reducible apply heap_set)); all_goals rfl) Tryz.underlying53 rfl (by kernel_rfl)) rfl
      ⟨by rw [rdValue_none HN.out, HN.out]; rfl, ?_, by rw [rdValue_none HN.out]; exact ⟨by decide, by decide, by decide⟩, by rw [rdValue_none HN.out]; decide⟩
    have hb := HB1.out
    repeat (first | with_reducible exact hb | with_reducible refine bdrewB ?_ | with_reducible refine bsetc ?_ (Nat.le_refl _) _)
  | some L =>
    obtain rfl : ok = true := by rw [hok, hT]; rfl
    rw [hT] at hs1
    have hS : Sl tFld (fun b => w.heap.size < b) w1 A1 n1 c1 L := hs1
    clear hs1
    obtain ⟨g1, g2, g3, rfl⟩ := len3 (shp_len hT)
    have hn1 : n1 = 3 := hS.len
    subst hn1
    obtain ⟨b, o, cs1, rfl, hb, hbl, hr1, hc1⟩ := hS.at_ (k := 0) (by simp) (by decide)
    obtain ⟨b', o', cs2, e2, _, _, hr2, hc2⟩ := hS.at_ (k := 1) (by simp) (by decide)
    injection e2 with e2; injection e2 with e2 e2'; subst e2 e2'
    obtain ⟨b', o', cs3, e3, _, _, hr3, hc3⟩ := hS.at_ (k := 2) (by simp) (by decide)
    injection e3 with e3; injection e3 with e3 e3'; subst e3 e3'
    obtain ⟨A2, n2, c2, rfl, _, hx1, _⟩ := hr1
    obtain ⟨A3, n3, c3, rfl, _, hx2, _⟩ := hr2
    obtain ⟨A4, n4, c4, rfl, _, _, hs4⟩ := hr3
    simp only [List.getElem_cons_zero, List.getElem_cons_succ] at hc1 hc2 hc3 hx1 hx2 hs4
    have k1 := (cells4 hc1).2.2.1
    have k2 := (cells4 hc2).2.2.1
    have k3 := (cells4 hc3).2.2.2
    simp only [Nat.zero_mul, Nat.add_zero, Nat.reduceMul] at k1 k2 k3
    clear hc1 hc2 hc3
    have hT2 := takeValue_shp l
    rw [hT] at hT2
    simp only [Option.bind_some] at hT2
    have HS4 := Lib.hid hs4
    have hsz4 : g3.b.length ≤ 4294967296 := shp_b3 (by have := HL.out; omega) hT
    by_cases hle : g1.n ≤ 1
    · rw [if_pos hle] at hT2
      have HT2 := Lib.hid hT2
      have hle' : ¬ (1 : Int) < (g1.n : Int) := by omega
      have hz := zagI_bd g2.n hx2
      clear hT hT2 hok hS hs4
      have hne : w.heap.size ≠ b := by omega
      go_wp2_with fail
      go_region_held3 (fun w' => w'.cell? ⟨b, o + 2, none⟩ = some (.int .u64 (g1.n : Int)) ∧ w'.cell? ⟨b, o + 4 + 2, none⟩ = some (.int .u64 (g2.n : Int)) ∧ w'.cell? ⟨b, o + 8 + 3, none⟩ = some (.slice A4 n4 c4) ∧ (convert 30 9 (.slice A4 n4 c4)).run Tryz.prog w' = .ok (.string ⟨g3.b.toArray⟩) w')
        (first
          | exact ⟨k1, k2, k3, run_bs HS4.out.drew⟩
          | assumption
          | (refine ⟨?_, ?_, ?_, ?_⟩; rotate_left 3; (· have hs := HS4.out; refine run_bs (F := fun b => w.heap.size < b) ?_; repeat (first | with_reducible exact hs | with_reducible refine Sl.drew ?_ | with_reducible refine slsetc ?_ (Nat.lt_irrefl _) _)); all_goals (simp [World.cell?_setCell_far, hne]; assumption)))
        (first
          | (go_at_call 47; refine (zag_any g2.n _ hx2).mono ?_; rintro e w' ⟨rfl, rfl⟩))
      go_wp2_with fail
      have hb1 : ((g1.n : Int) == 1) = decide (g1.n = 1) := by
        by_cases h1 : g1.n = 1
        · simp [h1]
        · simp [h1]; omega
      refine bodyPost_ret (results_row2 rfl _ _ w.heap.size 53 #[.bool ((g1.n : Int) == 1), .int .i64 (zagI g2.n), .string ⟨g3.b.toArray⟩] (0, 0) _ rfl (by have hk := HBK.out; (repeat (first | with_reducible exact hk | with_reducible apply heap_drew | with_reducible apply heap_set)); all_goals rfl) Tryz.underlying53 rfl (by kernel_rfl)) rfl
        ⟨by rw [rdValue_some HT2.out, HT2.out, hb1]; rfl, ?_, by rw [rdValue_some HT2.out]; exact ⟨hz.1, hz.2, by show g3.b.toArray.size ≤ maxLen; simp only [List.size_toArray, maxLen]; omega⟩, by rw [rdValue_some HT2.out]; show g3.b.toArray.size ≤ _; simp only [List.size_toArray]; exact hsz4⟩
      have hb := HB1.out
      repeat (first | with_reducible exact hb | with_reducible refine bdrewB ?_ | with_reducible refine bsetc ?_ (Nat.le_refl _) _)
    · rw [if_neg hle] at hT2
      have HN := Lib.hid hT2
      have hle' : (1 : Int) < (g1.n : Int) := by omega
      clear hT hT2 hok hS hs4
      go_wp2_with fail
      refine bodyPost_ret (results_row2 rfl _ _ w.heap.size 53 #[.bool false, .int .i64 0, .string ⟨#[]⟩] (0, 0) _ rfl (by have hk := HBK.out; (repeat (first | with_reducible exact hk | with_reducible apply heap_drew | with_reducible apply heap_set)); all_goals rfl) Tryz.underlying53 rfl (by kernel_rfl)) rfl
        ⟨by rw [rdValue_none HN.out, HN.out]; rfl, ?_, by rw [rdValue_none HN.out]; exact ⟨by decide, by decide, by decide⟩, by rw [rdValue_none HN.out]; decide⟩
      have hb := HB1.out
      repeat (first | with_reducible exact hb | with_reducible refine bdrewB ?_ | with_reducible refine bsetc ?_ (Nat.le_refl _) _)
end Go.Proofs.YtojenpjafgfpaaaGreatDoor
