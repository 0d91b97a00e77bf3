/- The layer varint: its functions compute the plain functions of the specification, whatever the arguments (bytes of at most 2^32). Widths and their codes; how many bits. Plain Lean; no program in sight. Runs of numbers: what each kind lays down; the shortest; where a run ends. Plain Lean; no program in sight. A row of one-celled elements that the call owns: read at a place, stored into. No program in sight. The pairs of a patched run, number by number. Plain Lean; no program in sight. Two laws that more than one road asks for. -/
import Derived.Test.YticfmphbhdkhoaaGreatDoorPk1
import Derived.Lib.ItoaNum
namespace Go.Proofs.YticfmphbhdkhoaaGreatDoor
open Go Go.RowKit
set_option maxRecDepth 100000 in
set_option maxHeartbeats 400000 in
theorem zig_any (x : Int) (w : World) (h0 : -9223372036854775808 ≤ x) (h1 : x ≤ 9223372036854775807) :
    Calls Tryz.prog 151 #[.int .i64 x] w fun e w' => e = .returned (.int .u64 (zigN x : Nat)) ∧ w = w' := by
  have H := Lib.hid (zig_bits x h0 h1)
  go_enter Tryz.func151, Tryz.ntmps151
  go_wp2
  go_ret
  exact ⟨ret_int H.out, rfl⟩

theorem byte_more (x : Nat) : bits BinOp.or IntKind.u8 ((x : Int) % 256) 128 = ((UInt8.ofNat (x % 128 + 128)).toNat : Int) := by
  rw [show (x : Int) % 256 = ((x % 256 : Nat) : Int) by omega, u8_or128 _ (by omega), UInt8.toNat_ofNat']
  congr 1
  omega
theorem byte_last (x : Nat) : IntKind.u8.wrap (x : Int) = ((UInt8.ofNat x).toNat : Int) := by
  rw [IntKind.wrap_u8, UInt8.toNat_ofNat']
  omega

set_option maxRecDepth 100000 in
set_option maxHeartbeats 1000000 in
theorem vput_any (F : Nat → Prop) (A : Option Addr) (n c : Nat) (bs : List UInt8) (x : Nat) (w : World) (h : Bs F w A n c bs) (hn : n ≤ 4294967200) (hx : x < 18446744073709551616) :
    Calls Tryz.prog 159 #[.slice A n c, .int .u64 (x : Int)] w (Own1 w (bs ++ vput x)) := by
  go_enter Tryz.func159, Tryz.ntmps159
  go_wp2
  go_loopw [5, 1] (fun v xv wr => ∃ (f x' : Nat) (L : List UInt8) (A2 : Option Addr) (m c2 : Nat), m + f ≤ 9 ∧ xv = .int .u64 (x' : Int) ∧ v = .slice A2 m c2 ∧ OwnB wr w.heap.size A2 m c2 L ∧ L ++ vputF f x' = vput x ∧ x' < 128 ^ (f + 1) ∧ x' < 18446744073709551616 ∧ Below w.heap.size w wr)
    (fun _ xv _ => (intOf xv).toNat)
  case atStart => exact ⟨9, x, [], none, 0, 0, by omega, rfl, rfl, OwnB.nil_ _ _, rfl, by omega, hx, Below.refl _ _⟩
  case round =>
    obtain ⟨f, x', L, A2, m, c2, hm, rfl, rfl, hown, heq, hlt, hlt2, hb⟩ := hrel
    have HE := Lib.hid heq; have HO := Lib.hid hown; have HL := Lib.hid hlt
    clear heq hown hlt
    have hsz := hb.size
    by_cases hx' : x' < 128
    · have hlast := byte_last x'
      rw [IntKind.wrap_u8, show (x' : Int) % 256 = (x' : Int) by omega] at hlast
      have s1 := (HO.out.bs.any).alloc (.cells #[.int .u8 (x' : Int)] 5)
      have s2 := ((h.any).below hb (Nat.le_refl _)).alloc (.cells #[.int .u8 (x' : Int)] 5)
      have s3 : Sl tU8 (fun _ => True) (wr.alloc (.cells #[.int .u8 (x' : Int)] 5)) (some ⟨wr.heap.size, 0, none⟩) 1 1 [UInt8.ofNat x'] :=
        (Sl.new (T := tU8) (F := fun _ => True) (cs := [.int .u8 (x' : Int)]) (by rw [hlast]; rfl) 5 _ rfl).any
      have hs := sl3 s2 s1 s3 37
      rw [World.size_alloc] at hs
      have HS := Lib.hid hs; clear hs
      have HB := Lib.hid ((hb.alloc hsz (.cells #[.int .u8 (x' : Int)] 5)).alloc (by simp; omega) (.cells #[.slice A n c, .slice A2 m c2, .slice (some ⟨wr.heap.size, 0, none⟩) 1 1] 37))
      have hnl := h.len
      have hml := HO.out.len
      have HN := Lib.hid (show [bs, L, [UInt8.ofNat x']].flatten.length ≤ 4294967296 by simp; omega)
      clear s1 s2 s3 hlast hnl hml
      go_wp2_with (go_at_call 125; refine (concatB_any (T := tU8) elemBytes (fun _ => True) _ _ _ [bs, L, [UInt8.ofNat x']] _ HS.out (by omega) HN.out).mono ?_; rintro e w1 ⟨A1, n1, c1, rfl, hown1, hb1⟩)
      go_ret
      refine ⟨A1, n1, c1, rfl, ?_, HB.out.trans (hb1.mono (by simp; omega))⟩
      have hfin : [bs, L, [UInt8.ofNat x']].flatten = bs ++ vput x := by
        rw [← HE.out]
        cases f <;> simp [vputF, hx']
      rw [hfin] at hown1
      exact own_u8 (hown1.down (by simp; omega))
    · have HM := Lib.hid (byte_more x')
      go_wp2_with (at_builtin; refine apb1 wr w rfl (.tmp 10) (.tmp 14) rfl w.heap.size A2 m c2 L rfl HO.out hb (Nat.le_refl _) _ rfl (UInt8.ofNat (x' % 128 + 128)) (by rw [← HM.out]) (by omega) ?_; intro A3 c3 w3 h3 hb3 _)
      go_roundw
      case rel =>
        obtain ⟨f, rfl⟩ : ∃ f', f = f' + 1 := by
          cases f with
          | zero => have := HL.out; omega
          | succ f => exact ⟨f, rfl⟩
        have hlt := HL.out
        refine ⟨f, x' / 128, L ++ [UInt8.ofNat (x' % 128 + 128)], A3, m + 1, c3, by omega, by go_num, rfl, h3, ?_, ?_, by omega, hb3⟩
        · rw [← HE.out]
          simp [vputF, hx']
        · rw [Nat.pow_succ] at hlt; exact Nat.div_lt_of_lt_mul (by omega)
      case measure => simp [intOf]; omega
theorem vput_int (F : Nat → Prop) (A : Option Addr) (n c : Nat) (bs : List UInt8) (x : Int) (w : World) (h : Bs F w A n c bs) (hn : n ≤ 4294967200) (h0 : 0 ≤ x) (hx : x < 18446744073709551616) :
    Calls Tryz.prog 159 #[.slice A n c, .int .u64 x] w (Own1 w (bs ++ vput x.toNat)) := by
  obtain ⟨k, rfl⟩ := Int.eq_ofNat_of_zero_le h0
  rw [Int.toNat_natCast]
  exact vput_any F A n c bs k w h hn (by omega)
end Go.Proofs.YticfmphbhdkhoaaGreatDoor
namespace Go.Proofs.YticfmphbhdkhoaaGreatDoor

abbrev U64 (x : Nat) : Prop := x < 18446744073709551616

/-! widths -/
def wOf (c : Int) : Int := if c < 0 ∨ 31 < c then 0 else if c < 24 then c + 1 else if c < 28 then 24 + 2 * (c - 23) else 32 + 8 * (c - 27)
def wCode (w : Int) : Int := if 1 ≤ w ∧ w ≤ 24 then w - 1 else if w = 26 then 24 else if w = 28 then 25 else if w = 30 then 26 else if w = 32 then 27 else if w = 40 then 28 else if w = 48 then 29 else if w = 56 then 30 else if w = 64 then 31 else -1
def wClose (b : Int) : Int := if b ≤ 24 then max 1 b else if b ≤ 26 then 26 else if b ≤ 28 then 28 else if b ≤ 30 then 30 else if b ≤ 32 then 32 else if b ≤ 40 then 40 else if b ≤ 48 then 48 else if b ≤ 56 then 56 else if b ≤ 64 then 64 else 0
theorem wOf_range (c : Int) : 0 ≤ wOf c ∧ wOf c ≤ 64 := by unfold wOf; (repeat' split) <;> omega
theorem wCode_range (w : Int) : -1 ≤ wCode w ∧ wCode w ≤ 31 := by unfold wCode; (repeat' split) <;> omega
theorem wClose_range (b : Int) : 0 ≤ wClose b ∧ wClose b ≤ 64 := by unfold wClose; (repeat' split) <;> omega
theorem wClose_ge {b : Int} (h : b ≤ 64) : b ≤ wClose b ∧ 1 ≤ wClose b := by unfold wClose; (repeat' split) <;> omega
theorem wClose_code {b : Int} (h : b ≤ 64) : 0 ≤ wCode (wClose b) ∧ wOf (wCode (wClose b)) = wClose b := by
  unfold wClose
  (repeat' split) <;> first
    | omega
    | decide
    | (have h1 : wCode (max 1 b) = max 1 b - 1 := by unfold wCode; rw [if_pos (by omega)]
       rw [h1]; constructor
       · omega
       · unfold wOf; rw [if_neg (by omega), if_pos (by omega)]; omega)
theorem wOf_code {c : Int} (h0 : 0 ≤ c) (h1 : c ≤ 31) : wCode (wOf c) = c := by
  have e : ∀ k : Fin 32, wCode (wOf (k.val : Nat)) = (k.val : Nat) := by decide
  have := e ⟨c.toNat, by omega⟩
  rwa [show ((c.toNat : Nat) : Int) = c by omega] at this
/-- The code of a width is the least one that has it. -/
theorem wCode_iff {w c : Int} (h0 : 0 ≤ c) (h1 : c ≤ 31) : wOf c = w → wCode w = c := by rintro rfl; exact wOf_code h0 h1
theorem wCode_none {w : Int} (h : ∀ c : Int, 0 ≤ c → c ≤ 31 → wOf c ≠ w) : wCode w = -1 := by
  unfold wCode
  split
  · exact absurd (by unfold wOf; rw [if_neg (by omega), if_pos (by omega)]; omega) (h (w - 1) (by omega) (by omega))
  · (repeat' split) <;> first | rfl | (subst_vars; first | exact absurd (by decide) (h 24 (by decide) (by decide)) | exact absurd (by decide) (h 25 (by decide) (by decide)) | exact absurd (by decide) (h 26 (by decide) (by decide)) | exact absurd (by decide) (h 27 (by decide) (by decide)) | exact absurd (by decide) (h 28 (by decide) (by decide)) | exact absurd (by decide) (h 29 (by decide) (by decide)) | exact absurd (by decide) (h 30 (by decide) (by decide)) | exact absurd (by decide) (h 31 (by decide) (by decide)))
theorem wOf_mono {c d : Int} (h0 : 0 ≤ c) (h : c < d) (h1 : d ≤ 31) : wOf c < wOf d := by unfold wOf; (repeat' split) <;> omega
/-- The reference's way: the first one that is wide enough. -/
theorem wClose_first {b c : Int} (h0 : 0 ≤ c) (h1 : c ≤ 31) (hc : b ≤ wOf c) (hb : ∀ d : Int, 0 ≤ d → d < c → wOf d < b) : wClose b = wOf c := by
  have hp : c = 0 ∨ wOf (c - 1) < b := by
    by_cases h : c = 0
    · exact .inl h
    · exact .inr (hb (c - 1) (by omega) (by omega))
  by_cases h24 : c < 24
  · have e1 : wOf c = c + 1 := by unfold wOf; rw [if_neg (by omega), if_pos h24]
    have e2 : c = 0 ∨ c < b := by
      by_cases h0' : c = 0
      · exact .inl h0'
      · have := hp.resolve_left h0'
        have e3 : wOf (c - 1) = c := by unfold wOf; rw [if_neg (by omega), if_pos (by omega)]; omega
        omega
    rw [e1] at hc ⊢
    unfold wClose
    rw [if_pos (by omega)]
    omega
  · have e : ∀ k : Int, c = k → wOf (c - 1) = wOf (k - 1) ∧ wOf c = wOf k := by rintro k rfl; exact ⟨rfl, rfl⟩
    have hp2 : wOf (c - 1) < b := hp.resolve_left (by omega)
    have key : ∀ (k p v : Int), wOf (k - 1) = p → wOf k = v → c = k → (p < b → b ≤ v → wClose b = v) → wClose b = wOf c := by
      intro k p v hp' hv hk hf
      obtain ⟨h3, h4⟩ := e k hk
      rw [h4, hv] at hc ⊢
      rw [h3, hp'] at hp2
      exact hf hp2 hc
    obtain h | h | h | h | h | h | h | h : c = 24 ∨ c = 25 ∨ c = 26 ∨ c = 27 ∨ c = 28 ∨ c = 29 ∨ c = 30 ∨ c = 31 := by omega
    · exact key 24 24 26 (by decide) (by decide) h fun _ _ => by unfold wClose; (repeat' split) <;> omega
    · exact key 25 26 28 (by decide) (by decide) h fun _ _ => by unfold wClose; (repeat' split) <;> omega
    · exact key 26 28 30 (by decide) (by decide) h fun _ _ => by unfold wClose; (repeat' split) <;> omega
    · exact key 27 30 32 (by decide) (by decide) h fun _ _ => by unfold wClose; (repeat' split) <;> omega
    · exact key 28 32 40 (by decide) (by decide) h fun _ _ => by unfold wClose; (repeat' split) <;> omega
    · exact key 29 40 48 (by decide) (by decide) h fun _ _ => by unfold wClose; (repeat' split) <;> omega
    · exact key 30 48 56 (by decide) (by decide) h fun _ _ => by unfold wClose; (repeat' split) <;> omega
    · exact key 31 56 64 (by decide) (by decide) h fun _ _ => by unfold wClose; (repeat' split) <;> omega
theorem wClose_none {b : Int} (h : ∀ c : Int, 0 ≤ c → c ≤ 31 → wOf c < b) : wClose b = 0 := by
  have := h 31 (by decide) (by decide)
  have e : wOf 31 = 64 := by decide
  unfold wClose
  (repeat' split) <;> omega

/-! bits -/
abbrev bl (x : Nat) : Nat := Lib.bitLen x
theorem bl_zero : bl 0 = 0 := by decide
theorem bl_lt {x : Nat} (h : U64 x) : x < 2 ^ bl x := by
  by_cases h0 : x = 0
  · subst h0; decide
  · exact (Lib.bitLenAux_bounds 64 x h h0).2.2
theorem bl_ge {x : Nat} (h : U64 x) (h0 : x ≠ 0) : 1 ≤ bl x ∧ 2 ^ (bl x - 1) ≤ x := ⟨(Lib.bitLenAux_bounds 64 x h h0).1, (Lib.bitLenAux_bounds 64 x h h0).2.1⟩
theorem bl_le {x k : Nat} (hk : k ≤ 64) (h : x < 2 ^ k) : bl x ≤ k := Lib.bitLen_le x k hk h
theorem bl_le64 {x : Nat} (h : U64 x) : bl x ≤ 64 := bl_le (Nat.le_refl _) h
theorem bl_half {x : Nat} (h : U64 x) (h0 : x ≠ 0) : bl x = 1 + bl (x / 2) := Lib.bitLen_half x h0 h
theorem bl_le_iff {x k : Nat} (h : U64 x) (hk : k ≤ 64) : bl x ≤ k ↔ x < 2 ^ k :=
  ⟨fun hb => Nat.lt_of_lt_of_le (bl_lt h) (Nat.pow_le_pow_right (by decide) hb), bl_le hk⟩
theorem u64_or {a b : Nat} (ha : U64 a) (hb : U64 b) : U64 (a ||| b) := Nat.or_lt_two_pow (n := 64) ha hb
theorem bl_or {a b : Nat} (ha : U64 a) (hb : U64 b) : bl (a ||| b) = max (bl a) (bl b) := by
  have ho := u64_or ha hb
  have h1 := bl_le64 ha
  have h2 := bl_le64 hb
  have h3 := bl_le64 ho
  have le1 : bl (a ||| b) ≤ max (bl a) (bl b) := by
    rw [bl_le_iff ho (by omega)]
    exact Nat.or_lt_two_pow (Nat.lt_of_lt_of_le (bl_lt ha) (Nat.pow_le_pow_right (by decide) (by omega))) (Nat.lt_of_lt_of_le (bl_lt hb) (Nat.pow_le_pow_right (by decide) (by omega)))
  have le2 : bl a ≤ bl (a ||| b) := by
    rw [bl_le_iff ha h3]
    exact Nat.lt_of_le_of_lt Nat.left_le_or (bl_lt ho)
  have le3 : bl b ≤ bl (a ||| b) := by
    rw [bl_le_iff hb h3]
    exact Nat.lt_of_le_of_lt Nat.right_le_or (bl_lt ho)
  omega
/-- How many bits several need. -/
def most (l : List Nat) : Nat := l.foldl (fun n x => max n (bl x)) 0
theorem most_snoc (l : List Nat) (x : Nat) : most (l ++ [x]) = max (most l) (bl x) := by simp [most]
theorem most_le64 (l : List Nat) (h : ∀ x ∈ l, U64 x) : most l ≤ 64 := by
  have : ∀ (l : List Nat) (n : Nat), n ≤ 64 → (∀ x ∈ l, U64 x) → l.foldl (fun n x => max n (bl x)) n ≤ 64 := by
    intro l
    induction l with
    | nil => intro n hn _; exact hn
    | cons a r ih =>
      intro n hn h
      rw [List.foldl_cons]
      have := bl_le64 (h a (by simp))
      exact ih _ (by omega) fun x hx => h x (by simp [hx])
  exact this l 0 (by omega) h
theorem most_mem {l : List Nat} {x : Nat} (h : x ∈ l) : bl x ≤ most l := by
  have key : ∀ (l : List Nat) (n : Nat), n ≤ l.foldl (fun n x => max n (bl x)) n := by
    intro l
    induction l with
    | nil => intro n; exact Nat.le_refl _
    | cons a r ih => intro n; rw [List.foldl_cons]; exact Nat.le_trans (by omega) (ih _)
  have : ∀ (l : List Nat) (n : Nat), x ∈ l → bl x ≤ l.foldl (fun n x => max n (bl x)) n := by
    intro l
    induction l with
    | nil => intro n h; simp at h
    | cons a r ih =>
      intro n h
      rw [List.foldl_cons]
      rcases List.mem_cons.1 h with rfl | h
      · exact Nat.le_trans (by omega) (key r _)
      · exact ih _ h
  exact this l 0 h
/-- The program's way: all bits at once. -/
theorem most_or (l : List Nat) (h : ∀ x ∈ l, U64 x) : U64 (l.foldl (· ||| ·) 0) ∧ bl (l.foldl (· ||| ·) 0) = most l := by
  have : ∀ (l : List Nat) (a n : Nat), U64 a → bl a = n → (∀ x ∈ l, U64 x) → U64 (l.foldl (· ||| ·) a) ∧ bl (l.foldl (· ||| ·) a) = l.foldl (fun n x => max n (bl x)) n := by
    intro l
    induction l with
    | nil => intro a n ha hn _; exact ⟨ha, hn⟩
    | cons b r ih =>
      intro a n ha hn h
      rw [List.foldl_cons, List.foldl_cons]
      have hb := h b (by simp)
      exact ih _ _ (u64_or ha hb) (by rw [bl_or ha hb, hn]) fun x hx => h x (by simp [hx])
  exact this l 0 0 (by decide) (by decide) h
end Go.Proofs.YticfmphbhdkhoaaGreatDoor
namespace Go.Proofs.YticfmphbhdkhoaaGreatDoor

/-- A number as it stands. -/
def uOf (sg : Bool) (x : Int) : Nat := if sg then zigN x else x.toNat
/-- Numbers that may stand in a run: of an int; of a run without signs none below 0. -/
def NumOk (sg : Bool) (l : List Int) : Prop := ∀ x ∈ l, -9223372036854775808 ≤ x ∧ x ≤ 9223372036854775807 ∧ (sg = true ∨ 0 ≤ x)
theorem uOf_lt {sg : Bool} {x : Int} (h0 : -9223372036854775808 ≤ x) (h1 : x ≤ 9223372036854775807) : U64 (uOf sg x) := by
  unfold uOf
  split
  · exact zigN_lt x h0 h1
  · show x.toNat < 18446744073709551616; omega
theorem NumOk.u {sg : Bool} {l : List Int} (h : NumOk sg l) : ∀ u ∈ l.map (uOf sg), U64 u := fun u hu => by
  obtain ⟨x, hx, rfl⟩ := List.mem_map.1 hu
  exact uOf_lt (h x hx).1 (h x hx).2.1
theorem NumOk.take {sg : Bool} {l : List Int} (h : NumOk sg l) (n : Nat) : NumOk sg (l.take n) := fun x hx => h x (List.mem_of_mem_take hx)
theorem NumOk.drop {sg : Bool} {l : List Int} (h : NumOk sg l) (n : Nat) : NumOk sg (l.drop n) := fun x hx => h x (List.mem_of_mem_drop hx)

/-! repeat -/
def long (u : Nat) : Nat := max 1 ((bl u + 7) / 8)
theorem long_le {u : Nat} (h : U64 u) : 1 ≤ long u ∧ long u ≤ 8 := by have := bl_le64 h; unfold long; omega
def repB (u times : Nat) : List UInt8 := UInt8.ofNat (8 * (long u - 1) + times - 3) :: be (long u) u
theorem repB_len (u times : Nat) : (repB u times).length = long u + 1 := by rw [repB, List.length_cons, be_len]

/-! heads; direct -/
def headB (kind code many : Nat) : List UInt8 := [UInt8.ofNat ((16384 * kind + 512 * code + many - 1) / 256), UInt8.ofNat (16384 * kind + 512 * code + many - 1)]
/-- A width's code, as a number. -/
def codeN (w : Nat) : Nat := (wCode w).toNat
def closeN (b : Nat) : Nat := (wClose b).toNat
theorem closeN_le (b : Nat) : closeN b ≤ 64 := by unfold closeN; have := wClose_range b; omega
theorem closeN_eq (b : Nat) : ((closeN b : Nat) : Int) = wClose b := by unfold closeN; have := wClose_range b; omega
theorem closeN_ge {b : Nat} (h : b ≤ 64) : b ≤ closeN b ∧ 1 ≤ closeN b := by have := wClose_ge (b := (b : Int)) (by omega); unfold closeN; omega
theorem codeN_eq {b : Nat} (h : b ≤ 64) : wCode (closeN b : Nat) = ((codeN (closeN b) : Nat) : Int) ∧ codeN (closeN b) ≤ 31 := by
  have h1 := wClose_code (b := (b : Int)) (by omega)
  have h2 := wCode_range (wClose b)
  unfold codeN
  rw [closeN_eq]
  omega
def dirB (sg : Bool) (l : List Int) : List UInt8 := headB 1 (codeN (closeN (most (l.map (uOf sg))))) l.length ++ pack (closeN (most (l.map (uOf sg)))) (l.map (uOf sg))
theorem packSize_le (n w : Nat) (h : w ≤ 64) : packSize n w ≤ 8 * n := by
  unfold packSize
  have : n * w ≤ n * 64 := Nat.mul_le_mul_left n h
  omega
theorem dirB_len (sg : Bool) (l : List Int) : (dirB sg l).length ≤ 2 + 8 * l.length := by
  unfold dirB
  rw [List.length_append, pack_len, List.length_map]
  have := packSize_le l.length _ (closeN_le (most (l.map (uOf sg))))
  simp [headB]; omega

/-! delta -/
def gapN (a b : Int) : Nat := (b - a).natAbs
/-- By how much each is the one before it. -/
def sizesN : List Int → List Nat
  | a :: b :: r => gapN a b :: sizesN (b :: r)
  | _ => []
theorem sizesN_len : ∀ l : List Int, (sizesN l).length = l.length - 1
  | [] => rfl
  | [_] => rfl
  | a :: b :: r => by rw [sizesN, List.length_cons, sizesN_len (b :: r)]; simp
/-- They go one way; none too far. -/
def oneWay (falls : Bool) : List Int → Bool
  | a :: b :: r => decide (gapN a b < 9223372036854775808) && (decide (a = b) || decide (b < a) == falls) && oneWay falls (b :: r)
  | _ => true
def fallsB (l : List Int) : Bool := match l with | a :: b :: _ => decide (b < a) | _ => false
def evenB (s : List Nat) : Bool := s.all (· == s.headD 0)
def stepI (l : List Int) : Int := if fallsB l then -((sizesN l).headD 0 : Nat) else ((sizesN l).headD 0 : Nat)
def delW (l : List Int) : Nat := closeN (max 2 (most (sizesN l).tail))
def delB (sg : Bool) (l : List Int) : Option (List UInt8) :=
  if l.length < 2 ∨ oneWay (fallsB l) l = false then none else
  some (headB 3 (if evenB (sizesN l) then 0 else codeN (delW l)) l.length ++ vput (uOf sg (l.headD 0)) ++ vput (zigN (stepI l)) ++ (if evenB (sizesN l) then [] else pack (delW l) (sizesN l).tail))

/-! patched -/
def leastI (l : List Int) : Int := l.foldl min (l.headD 0)
def upN (l : List Int) : List Nat := l.map fun x => (x - leastI l).toNat
/-- Gaps and patches: i the place of the next number, last that of the last patch. -/
def pairsN (w : Nat) : Nat → Nat → List Nat → List (Nat × Nat)
  | _, _, [] => []
  | i, last, x :: r => if x / 2 ^ w = 0 then pairsN w (i + 1) last r else List.replicate ((i - last - 1) / 255) (255, 0) ++ (i - last - 255 * ((i - last - 1) / 255), x / 2 ^ w) :: pairsN w (i + 1) i r
def gapW (p : List (Nat × Nat)) : Nat := max 1 (most (p.map (·.1)))
def patW (p : List (Nat × Nat)) : Nat := closeN (max 1 (most (p.map (·.2))))
def baseB (b : Int) : List UInt8 := be (bl b.natAbs / 8 + 1) (b.natAbs + if b < 0 then 128 * 256 ^ (bl b.natAbs / 8) else 0)
def patFits (w : Nat) (l : List Int) : Bool :=
  (upN l).all (· < 9223372036854775808) && leastI l != -9223372036854775808 && decide ((pairsN w 0 0 (upN l)).length ≤ 31) && decide (gapW (pairsN w 0 0 (upN l)) + patW (pairsN w 0 0 (upN l)) ≤ 64) && decide (w + patW (pairsN w 0 0 (upN l)) ≤ 64)
def patB (w : Nat) (l : List Int) : Option (List UInt8) :=
  let p := pairsN w 0 0 (upN l)
  if patFits w l then
    some (headB 2 (codeN w) l.length ++ [UInt8.ofNat (32 * ((baseB (leastI l)).length - 1) + codeN (patW p)), UInt8.ofNat (32 * (gapW p - 1) + p.length)] ++ baseB (leastI l) ++ pack w ((upN l).map (· % 2 ^ w)) ++ pack (closeN (gapW p + patW p)) (p.map fun x => x.1 * 2 ^ patW p + x.2))
  else none

/-! the shortest -/
def shorter (a : List UInt8) (b : Option (List UInt8)) : List UInt8 := match b with | none => a | some b => if a = [] ∨ b.length < a.length then b else a
def sameN (l : List Int) : Nat := (l.takeWhile (· == l.headD 0)).length
def timesB (sg : Bool) (l : List Int) : Option (List UInt8) := if sameN l = l.length ∧ 3 ≤ l.length ∧ l.length ≤ 10 then some (repB (uOf sg (l.headD 0)) l.length) else none
def wN (c : Nat) : Nat := (wOf c).toNat
def runTo (sg : Bool) (l : List Int) (c : Nat) : List UInt8 := (List.range c).foldl (fun a c => shorter a (patB (wN c) l)) (shorter (shorter (shorter [] (timesB sg l)) (some (dirB sg l))) (delB sg l))
def runB (sg : Bool) (l : List Int) : List UInt8 := runTo sg l 31
theorem runTo_succ (sg : Bool) (l : List Int) (c : Nat) : runTo sg l (c + 1) = shorter (runTo sg l c) (patB (wN c) l) := by unfold runTo; rw [List.range_succ, List.foldl_append]; rfl
theorem shorter_le (a : List UInt8) (b : Option (List UInt8)) (h : a ≠ []) : (shorter a b).length ≤ a.length := by
  unfold shorter
  split
  · exact Nat.le_refl _
  · split
    · rename_i h2; rcases h2 with h2 | h2
      · exact absurd h2 h
      · omega
    · exact Nat.le_refl _
theorem shorter_ne (a : List UInt8) (b : Option (List UInt8)) (h : a ≠ []) (hb : ∀ x, b = some x → x ≠ []) : shorter a b ≠ [] := by
  unfold shorter
  split
  · exact h
  · split
    · exact hb _ rfl
    · exact h
theorem dirB_ne (sg : Bool) (l : List Int) : dirB sg l ≠ [] := by simp [dirB, headB]
theorem delB_ne (sg : Bool) (l : List Int) : ∀ x, delB sg l = some x → x ≠ [] := by
  unfold delB
  split
  · intro x h; cases h
  · intro x h; cases h; simp [headB]
theorem patB_ne (w : Nat) (l : List Int) : ∀ x, patB w l = some x → x ≠ [] := by
  unfold patB
  dsimp only
  split
  · intro x h; cases h; simp [headB]
  · intro x h; cases h
theorem timesB_ne (sg : Bool) (l : List Int) : ∀ x, timesB sg l = some x → x ≠ [] := by
  unfold timesB
  split
  · intro x h; cases h; simp [repB]
  · intro x h; cases h
theorem shorter2 (sg : Bool) (l : List Int) : shorter (shorter [] (timesB sg l)) (some (dirB sg l)) ≠ [] ∧ (shorter (shorter [] (timesB sg l)) (some (dirB sg l))).length ≤ (dirB sg l).length := by
  have hs : shorter [] (timesB sg l) = (timesB sg l).getD [] := by
    unfold shorter
    split
    · next h => rw [h]; rfl
    · next h => rw [h, if_pos (.inl rfl)]; rfl
  rw [hs]
  cases ht : timesB sg l with
  | none => simp only [Option.getD_none, shorter, true_or, if_true]; exact ⟨dirB_ne sg l, Nat.le_refl _⟩
  | some t =>
    have := timesB_ne sg l t ht
    simp only [Option.getD_some, shorter, this, false_or]
    split
    · exact ⟨dirB_ne sg l, Nat.le_refl _⟩
    · exact ⟨this, by omega⟩
theorem runTo_ne (sg : Bool) (l : List Int) (c : Nat) : runTo sg l c ≠ [] ∧ (runTo sg l c).length ≤ (dirB sg l).length := by
  induction c with
  | zero =>
    show shorter _ _ ≠ [] ∧ _
    obtain ⟨h1, h2⟩ := shorter2 sg l
    exact ⟨shorter_ne _ _ h1 (delB_ne sg l), Nat.le_trans (shorter_le _ _ h1) h2⟩
  | succ c ih =>
    rw [runTo_succ]
    exact ⟨shorter_ne _ _ ih.1 (patB_ne _ l), Nat.le_trans (shorter_le _ _ ih.1) ih.2⟩
theorem runB_len (sg : Bool) (l : List Int) : (runB sg l).length ≤ 2 + 8 * l.length := Nat.le_trans (runTo_ne sg l 31).2 (dirB_len sg l)

/-! where a run ends -/
/-- The first place behind the first at which five numbers are the same; at most e. -/
def cutAt (l : List Int) : Nat → Nat → Nat
  | 0, n => n
  | f + 1, n => if 5 ≤ sameN (l.drop n) then n else cutAt l f (n + 1)
def cutN (l : List Int) : Nat := if 3 ≤ sameN l then min (sameN l) 512 else if l.length ≤ 1 then l.length else cutAt l (min l.length 512 - 1) 1
theorem sameN_le (l : List Int) : sameN l ≤ l.length := by unfold sameN; exact (List.takeWhile_prefix _).length_le
theorem cutAt_le (l : List Int) : ∀ f n, n ≤ cutAt l f n ∧ cutAt l f n ≤ n + f
  | 0, n => ⟨Nat.le_refl _, Nat.le_refl _⟩
  | f + 1, n => by
    unfold cutAt
    split
    · omega
    · have := cutAt_le l f (n + 1); omega
theorem cutN_le (l : List Int) (h : l ≠ []) : 1 ≤ cutN l ∧ cutN l ≤ l.length ∧ cutN l ≤ 512 := by
  have hl := List.length_pos_iff.2 h
  have hs := sameN_le l
  unfold cutN
  split
  · omega
  · split
    · omega
    · have := cutAt_le l (min l.length 512 - 1) 1; omega
def rleF (sg : Bool) : Nat → List Int → List UInt8
  | 0, _ => []
  | f + 1, l => if l = [] then [] else runB sg (l.take (cutN l)) ++ rleF sg f (l.drop (cutN l))
def rleB (sg : Bool) (l : List Int) : List UInt8 := rleF sg l.length l
theorem rleF_fuel (sg : Bool) : ∀ (f g : Nat) (l : List Int), l.length ≤ f → l.length ≤ g → rleF sg f l = rleF sg g l
  | 0, 0, _, _, _ => rfl
  | 0, g + 1, l, h, _ => by
    obtain rfl : l = [] := List.length_eq_zero_iff.1 (by omega)
    rfl
  | f + 1, 0, l, _, h => by
    obtain rfl : l = [] := List.length_eq_zero_iff.1 (by omega)
    rfl
  | f + 1, g + 1, l, h1, h2 => by
    rw [rleF, rleF]
    by_cases hl : l = []
    · rw [if_pos hl, if_pos hl]
    · rw [if_neg hl, if_neg hl]
      have := cutN_le l hl
      rw [rleF_fuel sg f g _ (by rw [List.length_drop]; omega) (by rw [List.length_drop]; omega)]
theorem rleB_nil (sg : Bool) : rleB sg [] = [] := rfl
theorem rleB_step (sg : Bool) (l : List Int) (h : l ≠ []) : rleB sg l = runB sg (l.take (cutN l)) ++ rleB sg (l.drop (cutN l)) := by
  have := cutN_le l h
  have hl := List.length_pos_iff.2 h
  unfold rleB
  obtain ⟨k, hk⟩ : ∃ k, l.length = k + 1 := ⟨l.length - 1, by omega⟩
  rw [hk, rleF, if_neg h, rleF_fuel sg k _ (l.drop (cutN l)) (by rw [List.length_drop]; omega) (Nat.le_refl _)]
theorem rleF_len (sg : Bool) : ∀ (f : Nat) (l : List Int), (rleF sg f l).length ≤ 10 * l.length
  | 0, _ => Nat.zero_le _
  | f + 1, l => by
    rw [rleF]
    by_cases h : l = []
    · rw [if_pos h]; exact Nat.zero_le _
    · rw [if_neg h, List.length_append]
      have h1 := cutN_le l h
      have h2 := runB_len sg (l.take (cutN l))
      have h3 := rleF_len sg f (l.drop (cutN l))
      rw [List.length_take] at h2
      rw [List.length_drop] at h3
      omega
theorem rleB_len (sg : Bool) (l : List Int) : (rleB sg l).length ≤ 10 * l.length := rleF_len sg _ l
end Go.Proofs.YticfmphbhdkhoaaGreatDoor
namespace Go.Proofs.YticfmphbhdkhoaaGreatDoor
open Go Go.RowKit

/-- An α lies as one cell. -/
structure OneT {α : Type} (T : Ty α) (enc : α → Value) (ok : α → Prop) : Prop where
  size : T.size = 1
  rep : ∀ (F : Nat → Prop) (w : World) (cs : List Value) (x : α), T.rep F w cs x ↔ cs = [enc x] ∧ ok x
section
variable {α : Type} {T : Ty α} {enc : α → Value} {ok : α → Prop} (O : OneT T enc ok)
include O
theorem one_reps (F : Nat → Prop) (w : World) (l : List α) (h : ∀ d ∈ l, ok d) : Reps T F w (l.map fun x => [enc x]) l := by
  refine ⟨by simp, fun i cs x h1 h2 => ?_⟩
  rw [List.getElem?_map, h2] at h1
  simp at h1
  subst h1
  exact (O.rep F w _ x).2 ⟨rfl, h x (List.mem_of_getElem? h2)⟩
theorem one_reps_eq {F : Nat → Prop} {w : World} {css : List (List Value)} {l : List α} (h : Reps T F w css l) : css = (l.map fun x => [enc x]) ∧ ∀ d ∈ l, ok d := by
  have hk : ∀ i (hi : i < l.length), css[i]? = some [enc l[i]] ∧ ok l[i] := fun i hi => by
    have hc : i < css.length := by rw [h.1]; exact hi
    have := (O.rep F w _ _).1 (h.2 i _ _ (List.getElem?_eq_getElem hc) (List.getElem?_eq_getElem hi))
    exact ⟨by rw [List.getElem?_eq_getElem hc, this.1], this.2⟩
  refine ⟨List.ext_getElem? fun i => ?_, fun d hd => ?_⟩
  · rcases Nat.lt_or_ge i l.length with hi | hi
    · rw [(hk i hi).1, List.getElem?_map, List.getElem?_eq_getElem hi]; rfl
    · rw [List.getElem?_eq_none (by rw [h.1]; exact hi), List.getElem?_eq_none (by simpa using hi)]
  · obtain ⟨i, hi, rfl⟩ := List.getElem_of_mem hd
    exact (hk i hi).2
omit O in
theorem map_one (enc : α → Value) (l : List α) : (l.map fun x => [enc x]).flatten = l.map enc := by
  induction l with
  | nil => rfl
  | cons a r ih => rw [List.map_cons, List.flatten_cons, ih]; rfl
theorem OwnF.row1 {e : TypeId} {F : Nat → Prop} {w : World} {B n c : Nat} {A : Option Addr} {l : List α} (h : OwnF T e F w B A n c l) : w.ownsRow B e 1 (.slice A n c) n (l.map enc) ∧ ∀ x ∈ l, ok x := by
  obtain ⟨⟨css, h1, h2⟩, _, _⟩ := h
  obtain ⟨rfl, h3⟩ := one_reps_eq O h2
  rw [map_one, O.size] at h1
  exact ⟨h1, h3⟩
theorem own_row1 {e : TypeId} {w : World} {B n c : Nat} {A : Option Addr} {l : List α} (h : w.ownsRow B e 1 (.slice A n c) n (l.map enc)) (hk : ∀ x ∈ l, ok x) : OwnF T e (fun _ => False) w B A n c l :=
  ⟨⟨l.map fun x => [enc x], by rw [map_one, O.size]; exact h, one_reps O _ w l hk⟩, by simp, by have := h.1; simpa using this.symm⟩
variable {e : TypeId} {F : Nat → Prop} {w : World} {B n c g : Nat} {l : List α}
theorem OwnF.cell1 (h : OwnF T e F w B (some ⟨g, 0, none⟩) n c l) {i : Nat} (hi : i < l.length) : w.cell? ⟨g, i, none⟩ = some (enc l[i]) := by
  have hn := h.len
  rw [(h.row1 O).1.cellAt i (by omega)]
  simp [hi]
theorem OwnF.free1 (h : OwnF T e F w B (some ⟨g, 0, none⟩) n c l) (j : Nat) : w.frozen? ⟨g, j, none⟩ = false := (h.row1 O).1.frozenAt j
theorem OwnF.base1 (h : OwnF T e F w B (some ⟨g, 0, none⟩) n c l) : B ≤ g ∧ g < w.heap.size := (h.row1 O).1.lt g rfl
/-- s[i] = x. -/
theorem OwnF.set1 (h : OwnF T e F w B (some ⟨g, 0, none⟩) n c l) (i : Nat) (x : α) (hx : ok x) : OwnF T e (fun _ => False) (w.setCell ⟨g, i, none⟩ (enc x)) B (some ⟨g, 0, none⟩) n c (l.set i x) := by
  obtain ⟨h1, h2⟩ := h.row1 O
  have h3 := (h1.stored i (enc x)).1
  rw [← List.map_set] at h3
  refine own_row1 O h3 fun d hd => ?_
  rcases List.mem_or_eq_of_mem_set hd with hd | rfl
  · exact h2 d hd
  · exact hx
/-- A row that is not empty has a block. -/
theorem OwnF.some1 {A : Option Addr} (h : OwnF T e F w B A n c l) (hl : l ≠ []) : ∃ g, A = some ⟨g, 0, none⟩ := by
  rcases (h.row1 O).1.2 with ⟨_, hn⟩ | ⟨g, _, _, h1, _⟩
  · have := h.len
    exact absurd (List.length_eq_zero_iff.1 (by omega)) hl
  · injection h1 with e1 e2 e3
    exact ⟨g, e1⟩
end
theorem oneI64 : OneT tI64 (fun x => .int .i64 x) (fun x => -9223372036854775808 ≤ x ∧ x ≤ 9223372036854775807) := ⟨rfl, fun _ _ _ _ => Iff.rfl⟩
theorem oneU64 : OneT tU64 (fun x => .int .u64 (x : Int)) (fun x => x < 18446744073709551616) := ⟨rfl, fun _ _ _ _ => Iff.rfl⟩
theorem oneU8 : OneT tU8 (fun x => .int .u8 (x.toNat : Int)) (fun _ => True) := ⟨rfl, fun _ _ _ _ => ⟨fun h => ⟨h, trivial⟩, fun h => h.1⟩⟩
theorem oneBool : OneT tBool (fun x => .bool x) (fun _ => True) := ⟨rfl, fun _ _ _ _ => ⟨fun h => ⟨h, trivial⟩, fun h => h.1⟩⟩
end Go.Proofs.YticfmphbhdkhoaaGreatDoor
namespace Go.Proofs.YticfmphbhdkhoaaGreatDoor

def lastN (w : Nat) : Nat → Nat → List Nat → Nat
  | _, la, [] => la
  | i, la, x :: r => lastN w (i + 1) (if x / 2 ^ w = 0 then la else i) r
def pairs1 (w i la x : Nat) : List (Nat × Nat) := if x / 2 ^ w = 0 then [] else List.replicate ((i - la - 1) / 255) (255, 0) ++ [(i - la - 255 * ((i - la - 1) / 255), x / 2 ^ w)]
theorem pairsN_cons (w i la x : Nat) (r : List Nat) : pairsN w i la (x :: r) = pairs1 w i la x ++ pairsN w (i + 1) (if x / 2 ^ w = 0 then la else i) r := by
  unfold pairs1
  rw [pairsN]
  by_cases h : x / 2 ^ w = 0
  · rw [if_pos h, if_pos h, if_pos h, List.nil_append]
  · rw [if_neg h, if_neg h, if_neg h, List.append_assoc, List.singleton_append]
theorem pairsN_snoc (w : Nat) : ∀ (a : List Nat) (i la x : Nat), pairsN w i la (a ++ [x]) = pairsN w i la a ++ pairs1 w (i + a.length) (lastN w i la a) x
  | [], i, la, x => by
    rw [List.nil_append, pairsN_cons]
    simp [pairsN, lastN]
  | y :: r, i, la, x => by
    rw [List.cons_append, pairsN_cons, pairsN_snoc w r, pairsN_cons, List.append_assoc, lastN, List.length_cons, show i + 1 + r.length = i + (r.length + 1) by omega]
theorem lastN_snoc (w : Nat) : ∀ (a : List Nat) (i la x : Nat), lastN w i la (a ++ [x]) = if x / 2 ^ w = 0 then lastN w i la a else i + a.length
  | [], i, la, x => by simp [lastN]
  | y :: r, i, la, x => by
    rw [List.cons_append, lastN, lastN_snoc w r, lastN, List.length_cons, show i + 1 + r.length = i + (r.length + 1) by omega]
theorem lastN_le (w : Nat) : ∀ (a : List Nat) (i la : Nat), la ≤ i → lastN w i la a ≤ i + a.length
  | [], i, la, h => by simpa [lastN] using h
  | y :: r, i, la, h => by
    rw [lastN, List.length_cons]
    have := lastN_le w r (i + 1) (if y / 2 ^ w = 0 then la else i) (by split <;> omega)
    omega
/-- The last lies before the next, but at the start. -/
theorem lastN_lt (w : Nat) (a : List Nat) (i la : Nat) (h : la ≤ i) (ha : a ≠ []) : lastN w i la a < i + a.length := by
  match a, ha with
  | y :: r, _ =>
    rw [lastN, List.length_cons]
    have := lastN_le w r (i + 1) (if y / 2 ^ w = 0 then la else i) (by split <;> omega)
    have h2 : ∀ (r : List Nat) (i la : Nat), la < i → lastN w i la r < i + r.length := by
      intro r
      induction r with
      | nil => intro i la h; simpa [lastN] using h
      | cons z r ih =>
        intro i la h
        rw [lastN, List.length_cons]
        have := ih (i + 1) (if z / 2 ^ w = 0 then la else i) (by split <;> omega)
        omega
    have := h2 r (i + 1) (if y / 2 ^ w = 0 then la else i) (by split <;> omega)
    omega
def patM (p : List (Nat × Nat)) : Nat := max 1 (most (p.map (·.2)))
theorem patW_eq (p : List (Nat × Nat)) : patW p = closeN (patM p) := rfl
theorem gapW_snoc (p : List (Nat × Nat)) (x : Nat × Nat) : gapW (p ++ [x]) = max (gapW p) (bl x.1) := by
  unfold gapW
  rw [List.map_append, List.map_singleton, most_snoc]; omega
theorem patM_snoc (p : List (Nat × Nat)) (x : Nat × Nat) : patM (p ++ [x]) = max (patM p) (bl x.2) := by
  unfold patM
  rw [List.map_append, List.map_singleton, most_snoc]; omega
theorem gapW_le (p : List (Nat × Nat)) (h : ∀ x ∈ p, U64 x.1) : 1 ≤ gapW p ∧ gapW p ≤ 64 := by
  have := most_le64 (p.map (·.1)) (fun y hy => by obtain ⟨x, hx, rfl⟩ := List.mem_map.1 hy; exact h x hx)
  unfold gapW; omega
theorem patM_le (p : List (Nat × Nat)) (h : ∀ x ∈ p, U64 x.2) : 1 ≤ patM p ∧ patM p ≤ 64 := by
  have := most_le64 (p.map (·.2)) (fun y hy => by obtain ⟨x, hx, rfl⟩ := List.mem_map.1 hy; exact h x hx)
  unfold patM; omega
theorem upN_len (l : List Int) : (upN l).length = l.length := by simp [upN]
end Go.Proofs.YticfmphbhdkhoaaGreatDoor
namespace Go.Proofs.YticfmphbhdkhoaaGreatDoor
open Go Go.RowKit

theorem bdrewN {B : Nat} {a w : World} (h : Below B a w) (n : Nat) : Below B a (w.drewN n) := ⟨h.os, h.tape, h.output, h.size, h.block⟩
theorem OwnF.newL {α : Type} {T : Ty α} {F : Nat → Prop} {w : World} {css : List (List Value)} {xs : List α} {e : TypeId} {B n : Nat} (h : Reps T F w css xs) (hB : B ≤ w.heap.size) (hn : n = xs.length) (hm : n ≤ 4294967296) (o : Obj) (ho : o = .cells css.flatten.toArray e) :
    OwnF T e (fun b => F b ∧ b < w.heap.size) (w.alloc o) B (some ⟨w.heap.size, 0, none⟩) n n xs := by
  subst ho
  have hr := h.weaken (F' := fun b => F b ∧ b < w.heap.size) (fun b hb hl => ⟨hb, hl⟩)
  refine ⟨⟨css, ?_, hr.keep (by simp) fun b _ hl => Below.heap_alloc w _ b hl⟩, ?_, hn⟩
  · have := World.ownsRow_lit (base := B) (e := e) (size := T.size) w css.flatten.toArray n hB (by simp only [maxLen]; omega) (by simp only [List.size_toArray]; rw [hr.flat, hn])
    simpa using this
  · rintro b o h ⟨_, hl⟩
    injection h with h; injection h with h; omega
theorem OwnF.empty {α : Type} (T : Ty α) (e : TypeId) (F : Nat → Prop) (w : World) (B : Nat) (hB : B ≤ w.heap.size) (hF : ∀ b, F b → b < B) : OwnF T e F (w.alloc (.cells #[] e)) B (some ⟨w.heap.size, 0, none⟩) 0 0 [] :=
  (OwnF.newL (T := T) (F := fun _ => False) (w := w) (n := 0) (css := []) (xs := []) Reps.nil_ hB rfl (by omega) _ rfl).weaken (fun b hb _ => hb.1.elim) (fun b _ hB' _ hh => by have := hF b hh; omega)
end Go.Proofs.YticfmphbhdkhoaaGreatDoor
