/- The reference 32: digits, Print. -/
import Derived.Test.YtojenpjafgfpaaaDoorRef4
import Derived.Test.YtojenpjafgfpaaaDoorShow2
import Derived.Test.YtojenpjafgfpaaaDoorTake5
import Derived.Test.YtojenpjafgfpaaaDoorShow3
namespace Go.Proofs.YtojenpjafgfpaaaDoor
open Go Go.RowKit
attribute [local go_sem ↓] Go.wp_at_zero Go.wp_at_succ

theorem run_hexix (i : Nat) (hi : i < 16) (v : Int) (hv : v = (i : Int)) (w : World) : (Instr.index 9 (.string ⟨#[48, 49, 50, 51, 52, 53, 54, 55, 56, 57, 97, 98, 99, 100, 101, 102]⟩) (.int .u8 v)).run Tryd.prog w = .ok (.int .u8 ((hexD i).toNat : Int)) w := by
  subst hv
  rw [run_index_string w 9 ⟨#[48, 49, 50, 51, 52, 53, 54, 55, 56, 57, 97, 98, 99, 100, 101, 102]⟩ .u8 i (by kernel_rfl)]
  have h : 0 ≤ (i : Int) ∧ (i : Int) < ((⟨#[48, 49, 50, 51, 52, 53, 54, 55, 56, 57, 97, 98, 99, 100, 101, 102]⟩ : ByteArray).size : Nat) := ⟨by omega, by show (i : Int) < 16; omega⟩
  rw [dif_pos h]
  have e := dig_get i (by show i < 16; exact hi)
  have e2 : (⟨#[48, 49, 50, 51, 52, 53, 54, 55, 56, 57, 97, 98, 99, 100, 101, 102]⟩ : ByteArray)[(i : Int).toNat]'(by rw [Int.toNat_natCast]; show i < 16; exact hi) = hexD i := by simpa using e
  rw [e2]
/-- append(b, x, y) at bytes: the two laid into a block of their own. -/
theorem bs_two (w : World) (x y : UInt8) (p : Nat) (hp : p = w.heap.size) : Bs (fun _ => True) (w.alloc (.cells #[.int .u8 (x.toNat : Int), .int .u8 (y.toNat : Int)] 5)) (some ⟨p, 0, none⟩) 2 2 [x, y] := by
  subst hp
  exact (Sl.new2 (T := tU8) (c1 := [.int .u8 (x.toNat : Int)]) (c2 := [.int .u8 (y.toNat : Int)]) rfl rfl 5 _ rfl)

theorem step_apb (w a0 : World) {ops : Array Oper} {o : Oper} {a : Act} {Q : Exit → Act → World → Prop} {K : Act → World → Prop} {E' : Prop} (hgd : o.guard = none) (s x : Operand) (ho : o.op = .call { callee := .builtin .append, args := #[s, x], argTypes := #[35, 35] }) (B : Nat) (A : Option Addr) (n c : Nat) (xs : List UInt8) (hs : a.eval s = .slice A n c)
    (hown : OwnB w B A n c xs) (hb : Below B a0 w) (hB : B ≤ a0.heap.size) (F : Nat → Prop) (A2 : Option Addr) (m c2 : Nat) (ys : List UInt8) (hx : a.eval x = .slice A2 m c2) (hsl : Bs F w A2 m c2 ys) (hlim : n + m ≤ 68719476736)
    (h : ∀ A' c' w', OwnB w' B A' (n + m) c' (xs ++ ys) → Below B a0 w' → w.grownBy w' (A.map (·.block)) → K (a.put o.dst (.slice A' (n + m) c')) w') :
    if Region.wanted o (yielded ops a.tmps) = true then Oper.wp Tryd.prog o a w K Q else E' := by
  have hw : Region.wanted o (yielded ops a.tmps) = true := by simp [Region.wanted, hgd]
  rw [if_pos hw]
  exact wp_apb w a0 s x ho B A n c xs hs hown hb hB F A2 m c2 ys hx hsl hlim h

set_option maxRecDepth 100000 in
set_option maxHeartbeats 2000000 in
theorem rdigits_any (F : Nat → Prop) (A : Option Addr) (n c : Nat) (l : List UInt8) (w : World) (h : Bs F w A n c l) (hn : n ≤ 8589934592) :
    Calls Tryd.prog 19 #[.slice A n c] w fun e w' => e = .returned (.string ⟨(hexOf l).toArray⟩) ∧ Below w.heap.size w w' := by
  have HL := Lib.hid h.len
  have HNEW := Lib.hid (OwnB.new0 w w.heap.size (Nat.le_refl _))
  have HB0 := Lib.hid (show Below w.heap.size w (w.alloc (.cells #[] 5)) from (Below.refl _ _).alloc (Nat.le_refl _) _)
  go_enter Tryd.func19, Tryd.ntmps19
  go_wp2
  go_loopw [3, 4] (fun v i wr => ∃ (k : Nat) (A2 : Option Addr) (m c2 : Nat), k ≤ n ∧ i = .int .i64 k ∧ v = .slice A2 m c2 ∧ OwnB wr w.heap.size A2 m c2 (hexOf (l.take k)) ∧ Below w.heap.size w wr)
    (fun _ i _ => n - (intOf i).toNat)
  case atStart => exact ⟨0, _, 0, 0, Nat.zero_le _, rfl, rfl, HNEW.out, HB0.out⟩
  case round =>
    obtain ⟨k, A2, m, c2, hk, rfl, rfl, hown, hb⟩ := hrel
    clear HNEW HB0
    by_cases hlt : k < n
    · have hkl : k < l.length := by rw [← HL.out]; exact hlt
      obtain ⟨b, o, u, rfl, _, hbl, hrep, hc0⟩ := h.at1 hkl (by decide)
      have hc := kcell hb hc0
      obtain ⟨x, hf⟩ : ∃ v, v = l[k] := ⟨_, rfl⟩
      rw [← hf] at hrep
      obtain rfl : u = .int .u8 (x.toNat : Int) := by simpa [tU8] using hrep
      clear hrep
      have HF := Lib.hid hf; have HO := Lib.hid hown; have HBR := Lib.hid hb; clear hf
      have hsz := hb.size
      have hm : m = (hexOf (l.take k)).length := hown.len
      have hm2 : m ≤ 17179869184 := by rw [hm, hexOf_len, List.length_take]; omega
      clear hm hown hb
      have hx : x.toNat < 256 := x.toNat_lt
      have hq : 0 ≤ (x.toNat : Int) / 16 ∧ (x.toNat : Int) / 16 < 16 := by omega
      have hq2 : 0 ≤ (x.toNat : Int) % 16 ∧ (x.toNat : Int) % 16 < 16 := by omega
      have hi1 : (0 : Int) ≤ (k : Int) := by omega
      have hi2 : (k : Int) < (n : Int) := by omega
      have hix1 := run_hexix (x.toNat / 16) (by omega) (IntKind.u8.wrap ((x.toNat : Int) / 16)) (by rw [IntKind.wrap_u8]; omega)
      have hix2 := run_hexix (x.toNat % 16) (by omega) ((x.toNat : Int) % 16) (by omega)
      have hix3 := run_hexix (x.toNat % 16) (by omega) ((x.toNat : Int).tmod 16) (by rw [Int.tmod_eq_emod_of_nonneg (by omega)]; omega)
      go_wp2_with fail
      have HC0 := Lib.hid hc0; clear hc0
      go_region_held3 (fun w' => w'.cell? ⟨b, o + k, none⟩ = some (.int .u8 (x.toNat : Int)))
        (first | go_keep | exact kcell hb6 HC0.out)
        (first
          | ((with_reducible refine at_app (.tmp 12) (.tmp 25) _ rfl ?_); refine step_apb (wr.drew.alloc (.cells #[.int .u8 ((hexD (x.toNat / 16)).toNat : Int), .int .u8 ((hexD (x.toNat % 16)).toNat : Int)] 5)) w rfl (.tmp 12) (.tmp 25) rfl w.heap.size A2 m c2 _ rfl (HO.out.keepB ((Below.refl wr.heap.size wr).drew.alloc (Nat.le_refl _) _)) ((HBR.out.drew).alloc hsz _) (Nat.le_refl _) _ _ 2 2 [hexD (x.toNat / 16), hexD (x.toNat % 16)] rfl (bs_two wr.drew _ _ _ rfl) (by omega) ?_; intro A6 c6 w6 h6 hb6 _)
          | fail)
      all_goals
        go_wp2_with fail
        go_roundw
        case rel =>
          have e1 : hexOf (l.take (k + 1)) = hexOf (l.take k) ++ [hexD (x.toNat / 16), hexD (x.toNat % 16)] := by
            rw [List.take_succ_eq_append_getElem hkl, hexOf_append, ← HF.out]; simp [hexOf]
          exact ⟨k + 1, A6, m + 2, c6, by omega, by go_num, rfl, by rw [e1]; exact h6, hb6⟩
        case measure => simp [intOf]; omega
    · obtain rfl : k = n := by omega
      rw [show l.take k = l from List.take_of_length_le (by rw [← HL.out]; exact Nat.le_refl _)] at hown
      have hcv := run_bs hown.bs
      go_wp2_with fail
      go_ret
      exact ⟨rfl, hb⟩

set_option maxRecDepth 100000 in
set_option maxHeartbeats 2000000 in
theorem rprint_any (F : Nat → Prop) (A : Option Addr) (n c : Nat) (l : List EE) (w : World) (h : Sl tEE F w A n c l) (hn : n ≤ 2048) (hl : evsLen l ≤ 2147483000) :
    Calls Tryd.prog 9 #[.slice A n c] w fun e w' => e = .returned (.tuple #[.string ⟨(printOf l).toArray⟩, .int .i64 0]) ∧ Below w.heap.size w w' := by
  have HL := Lib.hid h.len
  go_enter Tryd.func9, Tryd.ntmps9
  go_wp2
  go_loopw [4, 5] (fun v i wr => ∃ (k : Nat), k ≤ n ∧ i = .int .i64 k ∧ v = .string ⟨(printOf (l.take k)).toArray⟩ ∧ Below w.heap.size w wr)
    (fun _ i _ => n - (intOf i).toNat)
  case atStart => exact ⟨0, Nat.zero_le _, rfl, rfl, Below.refl _ _⟩
  case round =>
    obtain ⟨k, hk, rfl, rfl, hb⟩ := hrel
    have HBR := Lib.hid hb
    have hsz := hb.size
    by_cases hlt : k < n
    · have hkl : k < l.length := by rw [← HL.out]; exact hlt
      obtain ⟨b, o, cs, rfl, _, hbl, hrep, hc⟩ := (h.below hb (Nat.le_refl _)).at_ hkl (by decide)
      obtain ⟨x, hf⟩ : ∃ v, v = l[k] := ⟨_, rfl⟩
      rw [← hf] at hrep
      have hxl := evsLen_get l k hkl
      rw [← hf] at hxl
      have HF := Lib.hid hf; clear hf hb
      have HREP := Lib.hid hrep
      obtain ⟨A1, n1, c1, A2, n2, c2, A3, n3, c3, A4, n4, c4, A5, n5, c5, rfl, _⟩ := hrep
      obtain ⟨g0, g1, g2, g3, g4, g5, g6, g7, g8, g9⟩ := cells10 hc
      clear hc
      have hlen : (printOf (l.take k)).length ≤ 4294967000 := by have := printOf_take l k; have := printOf_len l; omega
      have hput := putEvent_len x
      have hhl := hexOf_len (putEvent x)
      obtain ⟨L, hL⟩ : ∃ L, L = printOf (l.take k) := ⟨_, rfl⟩
      obtain ⟨D, hD⟩ : ∃ D, D = hexOf (putEvent x) := ⟨_, rfl⟩
      rw [← hL] at hlen
      rw [← hL]
      rw [← hD] at hhl
      have hDl : D.length ≤ 8589934592 := by omega
      have hn1 : ¬ 9223372036854775807 < L.length + D.length := by omega
      have hn2 : ¬ 9223372036854775807 < L.length + D.length + 1 := by omega
      have HLL := Lib.hid hL; have HD := Lib.hid hD
      clear hhl hL hD
      go_wp2_with (first
        | (go_at_call 20; refine (rputEvent_any x _ _ _ HREP.out (by omega)).mono ?_; rintro e w1 ⟨A6, n6, c6, rfl, h1, hb1⟩; have H1 := Lib.hid h1; have HB1 := Lib.hid hb1; clear h1 hb1)
        | (go_at_call 19; refine (rdigits_any _ A6 n6 c6 (putEvent x) _ H1.out.bs (by rw [H1.out.len]; omega)).mono ?_; rintro e w2 ⟨rfl, hb2⟩; have HB2 := Lib.hid (HB1.out.trans (hb2.mono HB1.out.size)); clear hb2; rw [← HD.out])
        | fail)
      go_roundw
      case rel =>
        refine ⟨k + 1, by omega, by go_num, ?_, HBR.out.trans (HB2.out.mono hsz)⟩
        rw [List.take_succ_eq_append_getElem hkl, printOf_snoc, ← HF.out, ← HLL.out, lineP, ← HD.out]
        rw [show (⟨#[10]⟩ : ByteArray) = ⟨([10] : List UInt8).toArray⟩ from rfl, ba_append, ba_append, List.append_assoc]
      case measure => simp [intOf]; omega
    · obtain rfl : k = n := by omega
      rw [show l.take k = l from List.take_of_length_le (by rw [← HL.out]; exact Nat.le_refl _)]
      go_wp2_with fail
      go_ret2
      exact ⟨rfl, HBR.out⟩
end Go.Proofs.YtojenpjafgfpaaaDoor
/- The reference 32: Show. -/
namespace Go.Proofs.YtojenpjafgfpaaaDoor
open Go Go.RowKit
attribute [local go_sem ↓] Go.wp_at_zero Go.wp_at_succ

def exs (l : List Int) : List UInt8 := (l.map fun x => 32 :: Lib.itoa x).flatten
theorem exs_snoc (l : List Int) (x : Int) : exs (l ++ [x]) = exs l ++ [32] ++ Lib.itoa x := by simp [exs]
theorem joinTail_map {α : Type} (sep : List UInt8) (f : α → List UInt8) : ∀ l : List α, Lib.joinTail sep (l.map f) = (l.map fun x => sep ++ f x).flatten
  | [] => rfl
  | x :: r => by have := joinTail_map sep f r; simp [Lib.joinTail] at this ⊢; exact this
theorem jn_exs (h : Int) (t : List Int) : jn [32] (h :: t) = Lib.itoa h ++ exs t := by
  unfold jn exs
  rw [List.map_cons, Lib.join_cons, joinTail_map]; rfl
def hdA (a : AA) : List UInt8 := Lib.itoa a.code ++ [32] ++ Lib.itoa a.n ++ [124] ++ Lib.itoa a.list.high
def rws (l : List KD) : List UInt8 := Lib.join (l.map toldOf) [32]
theorem join3 (a b c s : List UInt8) : Lib.join [a, b, c] s = a ++ s ++ b ++ s ++ c := by simp [Lib.join_cons, Lib.joinTail]
theorem join2 (a b s : List UInt8) : Lib.join [a, b] s = a ++ s ++ b := by simp [Lib.join_cons, Lib.joinTail]
theorem showA_eq (a : AA) : showA a = hdA a ++ exs a.list.except ++ [124] ++ rws a.rows ++ [10] := by
  unfold showA partsA hdA rws
  rw [join3, jn_exs, jn_exs]
  simp [exs]
theorem rws_snoc (l : List KD) (x : KD) : rws (l ++ [x]) = (if l = [] then [] else rws l ++ [32]) ++ toldOf x := by
  unfold rws
  cases l with
  | nil => simp [Lib.join_one]
  | cons y r => rw [if_neg (by simp), List.map_append, List.map_cons, List.cons_append, Lib.join_cons, Lib.join_cons, List.map_singleton]; simp [Lib.joinTail]
def keyT (k : KK) : List UInt8 := Lib.itoa k.id ++ [46] ++ Lib.itoa k.bucket ++ [46] ++ Lib.itoa k.row
theorem told_eq (x : KD) : toldOf x = keyT x.key ++ cellsOf x.row := by
  unfold toldOf keyT jn cellsOf
  rw [List.map_cons, List.map_cons, List.map_cons, List.map_nil, join3]
theorem itoa_p (n : Int) (h : i64 n) (p : List UInt8) (hp : p = Lib.itoa n) (w : World) (ht : Tab w) :
    Calls Tryd.prog 24 #[.int .i64 n] w fun e w' => e = .returned (.string ⟨p.toArray⟩) ∧ Below w.heap.size w w' := by
  subst hp; exact itoa_any n h.1 h.2 w ht
theorem ba1 (c : UInt8) : (⟨#[c]⟩ : ByteArray) = ⟨([c] : List UInt8).toArray⟩ := rfl
theorem exs_len : ∀ l : List Int, (∀ x ∈ l, i64 x) → (exs l).length ≤ 22 * l.length
  | [], _ => by simp [exs]
  | x :: r, h => by
    have ih := exs_len r (fun y hy => h y (by simp [hy]))
    have h1 := Lib.itoa_length_le x (h x (by simp)).1 (h x (by simp)).2
    have e : exs (x :: r) = 32 :: Lib.itoa x ++ exs r := by simp [exs]
    rw [e, List.length_append, List.length_cons, List.length_cons]; omega
theorem keyedsW_take (l : List KD) (k : Nat) : keyedsW (l.take k) ≤ keyedsW l := by
  induction l generalizing k with
  | nil => simp
  | cons v r ih => cases k with
    | zero => simp [keyedsW]
    | succ k => simp only [List.take_succ_cons, keyedsW]; have := ih k; omega
theorem rws_len (l : List KD) (h : ∀ x ∈ l, x.key.ok) : (rws l).length ≤ keyedsW l := Nat.le_trans (join_sum [32] _) (tolds_len _ h)

set_option maxRecDepth 100000 in
set_option maxHeartbeats 8000000 in
theorem rshow_any (F : Nat → Prop) (A : Option Addr) (n c : Nat) (l : List AA) (w : World) (h : Sl tAA F w A n c l) (hn : n ≤ 1048576) (hl : answersW l ≤ 268435456) (ht : Tab w) :
    Calls Tryd.prog 11 #[.slice A n c] w fun e w' => e = .returned (.string ⟨(showOf l).toArray⟩) ∧ Below w.heap.size w w' := by
  have HL := Lib.hid h.len
  have HT := Lib.hid ht; clear ht
  have HOKS : Hid (∀ a ∈ l, a.oks) := Lib.hid fun a ha => by obtain ⟨cs, hr⟩ := sl_mem h (by decide) ha; exact aa_oks hr
  go_enter Tryd.func11, Tryd.ntmps11
  go_wp2
  go_loopw [3, 4] (fun v i wr => ∃ (k : Nat), k ≤ n ∧ i = .int .i64 k ∧ v = .string ⟨(showOf (l.take k)).toArray⟩ ∧ Below w.heap.size w wr)
    (fun _ i _ => n - (intOf i).toNat)
  case atStart => exact ⟨0, Nat.zero_le _, rfl, rfl, Below.refl _ _⟩
  case round =>
    obtain ⟨k, hk, rfl, rfl, hb⟩ := hrel
    obtain ⟨wo, rfl⟩ : ∃ wo : World, wo = wr := ⟨_, rfl⟩
    have HBO := Lib.hid hb
    have hsz := hb.size
    by_cases hlt : k < n
    · have hkl : k < l.length := by rw [← HL.out]; exact hlt
      obtain ⟨b, o, cs, rfl, _, hbl, hrep, hc⟩ := (h.below hb (Nat.le_refl _)).at_ hkl (by decide)
      obtain ⟨a, hf⟩ : ∃ v, v = l[k] := ⟨_, rfl⟩
      rw [← hf] at hrep
      have haw : ansW a ≤ 268435456 := by rw [hf]; exact Nat.le_trans (answersW_get l k hkl) hl
      have haok : a.oks := by rw [hf]; exact HOKS.out _ (List.getElem_mem hkl)
      have hshl : (showOf (l.take k)).length ≤ 268435456 := Nat.le_trans (showOf_len _ (fun y hy => HOKS.out y (List.mem_of_mem_take hy))) (Nat.le_trans (answersW_take l k) hl)
      have hrw : keyedsW a.rows ≤ 268435456 ∧ a.list.except.length ≤ 268435456 := by unfold ansW at haw; omega
      have HRW := Lib.hid hrw
      have HF := Lib.hid hf
      obtain ⟨A1, n1, c1, A2, n2, c2, rfl, hc0, hc1, hc2, hs1, hs2⟩ := hrep
      obtain ⟨g0, g1, g2, g3, g4⟩ := cells5 hc
      obtain ⟨wb, hwb, hBb, hCb, hSb, hKb⟩ := boxed wo [.int .i64 a.code, .int .i64 a.n, .slice A1 n1 c1, .int .i64 a.list.high, .slice A2 n2 c2] 47
      have HC := Lib.hid hCb; have HBB := Lib.hid hBb; have H1 := Lib.hid (hKb hs1); have H2 := Lib.hid (hKb hs2)
      have HN1 := Lib.hid hs1.len; have HN2 := Lib.hid hs2.len
      have HTB := Lib.hid ((HT.out.below hb).below hBb)
      have HAOK := Lib.hid haok
      have hn2 : n2 ≤ 268435456 := by rw [hs2.len]; exact hrw.2
      have hn1 : n1 ≤ 268435456 := by rw [hs1.len]; exact Nat.le_trans (keyedsW_count _) hrw.1
      have k0 := hCb 0 _ rfl
      have k1 := hCb 1 _ rfl
      have k3 := hCb 3 _ rfl
      clear hc hf hCb hBb hKb hSb hs1 hs2 hb haok hrw haw
      obtain ⟨S, hS⟩ : ∃ S, S = showOf (l.take k) := ⟨_, rfl⟩
      rw [← hS] at hshl
      rw [← hS]
      obtain ⟨p1, hp1⟩ : ∃ p, p = Lib.itoa a.code := ⟨_, rfl⟩
      obtain ⟨p2, hp2⟩ : ∃ p, p = Lib.itoa a.n := ⟨_, rfl⟩
      obtain ⟨p3, hp3⟩ : ∃ p, p = Lib.itoa a.list.high := ⟨_, rfl⟩
      have hl1 : p1.length ≤ 21 := by rw [hp1]; exact Lib.itoa_length_le _ hc0.1 hc0.2
      have hl2 : p2.length ≤ 21 := by rw [hp2]; exact Lib.itoa_length_le _ hc1.1 hc1.2
      have hl3 : p3.length ≤ 21 := by rw [hp3]; exact Lib.itoa_length_le _ hc2.1 hc2.2
      have m1 : ¬ 9223372036854775807 < S.length + p1.length := by omega
      have m2 : ¬ 9223372036854775807 < S.length + p1.length + 1 := by omega
      have m3 : ¬ 9223372036854775807 < S.length + p1.length + 1 + p2.length := by omega
      have m4 : ¬ 9223372036854775807 < S.length + p1.length + 1 + p2.length + 1 := by omega
      have m5 : ¬ 9223372036854775807 < S.length + p1.length + 1 + p2.length + 1 + p3.length := by omega
      have HS := Lib.hid hS; have HP1 := Lib.hid hp1; have HP2 := Lib.hid hp2; have HP3 := Lib.hid hp3
      have HC0 := Lib.hid hc0; have HC1 := Lib.hid hc1; have HC2 := Lib.hid hc2
      clear hS hp1 hp2 hp3 hc0 hc1 hc2
      go_upto_region 6 with fail
      rw [← hwb]
      clear hwb
      go_region_held3 (fun w' => w'.cell? ⟨wo.heap.size, 0, none⟩ = some (.int .i64 a.code) ∧ w'.cell? ⟨wo.heap.size, 1, none⟩ = some (.int .i64 a.n) ∧ w'.cell? ⟨wo.heap.size, 3, none⟩ = some (.int .i64 a.list.high))
        (first | go_keep | (go_split_ands; refine ⟨?_, ?_, ?_⟩ <;> exact kcell (by assumption) (by assumption)))
        (first
          | (go_at_call_of 24 (Value.int .i64 a.code); refine (itoa_p a.code HC0.out p1 HP1.out _ (HTB.out.below (by (repeat (first | exact Below.refl _ _ | assumption | refine bthen ?_ (by assumption) | refine balloc ?_ _ | refine bdrew ?_))))).mono ?_; rintro e w1 ⟨rfl, hb1⟩)
          | (go_at_call_of 24 (Value.int .i64 a.n); refine (itoa_p a.n HC1.out p2 HP2.out _ (HTB.out.below (by (repeat (first | exact Below.refl _ _ | assumption | refine bthen ?_ (by assumption) | refine balloc ?_ _ | refine bdrew ?_))))).mono ?_; rintro e w2 ⟨rfl, hb2⟩)
          | (go_at_call_of 24 (Value.int .i64 a.list.high); refine (itoa_p a.list.high HC2.out p3 HP3.out _ (HTB.out.below (by (repeat (first | exact Below.refl _ _ | assumption | refine bthen ?_ (by assumption) | refine balloc ?_ _ | refine bdrew ?_))))).mono ?_; rintro e w3 ⟨rfl, hb3⟩)
          | fail)
      have HB3 := Lib.hid (show Below wb.heap.size wb w3 by (repeat (first | exact Below.refl _ _ | assumption | refine bthen ?_ (by assumption) | refine balloc ?_ _ | refine bdrew ?_)))
      obtain ⟨S1, hS1⟩ : ∃ S1, S1 = S ++ hdA a := ⟨_, rfl⟩
      have hS1v : (⟨S.toArray⟩ : ByteArray) ++ ⟨p1.toArray⟩ ++ ⟨#[32]⟩ ++ ⟨p2.toArray⟩ ++ ⟨#[124]⟩ ++ ⟨p3.toArray⟩ = ⟨S1.toArray⟩ := by
        rw [ba1 32, ba1 124, hS1, hdA, ← HP1.out, ← HP2.out, ← HP3.out]; simp only [ba_append, List.append_assoc]
      have hS1l : S1.length ≤ 268435600 := by
        rw [hS1, hdA, ← HP1.out, ← HP2.out, ← HP3.out]; simp only [List.length_append, List.length_cons, List.length_nil]; omega
      have HS1 := Lib.hid hS1
      rw [hS1v]
      have q4 := kcell HB3.out (HC.out 4 _ rfl)
      clear hS1 hS1v hb1 hb2 hb3 m1 m2 m3 m4 m5 k0 k1 k3 g0 g1 g2 g3 g4
      go_wp2_with fail
      clear q4
      go_loopw [3, 6] (fun v i wr => ∃ (j : Nat), j ≤ n2 ∧ i = .int .i64 j ∧ v = .string ⟨(S1 ++ exs (a.list.except.take j)).toArray⟩ ∧ Below wb.heap.size wb wr)
        (fun _ i _ => n2 - (intOf i).toNat)
      case atStart => exact ⟨0, Nat.zero_le _, rfl, by simp [exs], HB3.out⟩
      case round =>
        obtain ⟨j, hj, rfl, rfl, hb⟩ := hrel
        have HBJ := Lib.hid hb
        have hsj := hb.size
        have q4 := kcell hb (HC.out 4 _ rfl)
        have hTl : (S1 ++ exs (a.list.except.take j)).length ≤ 6442450944 := by
          have h1 := exs_len (a.list.except.take j) (fun x hx => HAOK.out.2.2.2.1 x (List.mem_of_mem_take hx))
          have h2 := List.length_take_le j a.list.except
          have h3 := HRW.out.2
          rw [List.length_append]; omega
        obtain ⟨T, hT⟩ : ∃ T, T = S1 ++ exs (a.list.except.take j) := ⟨_, rfl⟩
        rw [← hT] at hTl
        rw [← hT]
        have HTT := Lib.hid hT; clear hT
        by_cases hlt2 : j < n2
        · have hkl2 : j < a.list.except.length := by rw [← HN2.out]; exact hlt2
          obtain ⟨b2, o2, u, rfl, _, hbl2, hrep, hc⟩ := (H2.out.below hb (Nat.le_refl _)).at1 hkl2 rfl
          obtain ⟨x, hf⟩ : ∃ v, v = a.list.except[j] := ⟨_, rfl⟩
          rw [← hf] at hrep
          have HFX := Lib.hid hf; clear hf
          obtain ⟨hu, hx0, hx1⟩ := hrep
          injection hu with hu; subst hu
          obtain ⟨p, hp⟩ : ∃ p, p = Lib.itoa x := ⟨_, rfl⟩
          have hpl : p.length ≤ 21 := by rw [hp]; exact Lib.itoa_length_le _ hx0 hx1
          have HP := Lib.hid hp; have HX := Lib.hid (show i64 x from ⟨hx0, hx1⟩)
          have hnj : ¬ 9223372036854775807 < T.length + 1 := by omega
          have hnk : ¬ 9223372036854775807 < T.length + 1 + p.length := by omega
          clear hp hb hx0 hx1
          go_wp2_with (first
            | (go_at_call 24; refine (itoa_p x HX.out p HP.out _ (HTB.out.below HBJ.out)).mono ?_; rintro e w4 ⟨rfl, hb4⟩; have HB4 := Lib.hid hb4; clear hb4)
            | fail)
          go_roundw
          case rel =>
            refine ⟨j + 1, by omega, by go_num, ?_, HBJ.out.trans (HB4.out.mono hsj)⟩
            rw [List.take_succ_eq_append_getElem hkl2, ← HFX.out, exs_snoc, ← HP.out, ba1 32, ← List.append_assoc, ← List.append_assoc, ← HTT.out]; simp only [ba_append]
          case measure => simp [intOf]; omega
        · obtain rfl : j = n2 := by omega
          have hTv : T = S1 ++ exs a.list.except := by
            rw [HTT.out, show a.list.except.take j = a.list.except from List.take_of_length_le (by rw [← HN2.out]; exact Nat.le_refl _)]
          have HTV := Lib.hid hTv; clear hTv HTT
          have hnj : ¬ 9223372036854775807 < T.length + 1 := by omega
          obtain ⟨w5, rfl⟩ : ∃ w5 : World, w5 = wr := ⟨_, rfl⟩
          have q2 := kcell hb (HC.out 2 _ rfl)
          clear hb
          go_wp2_with fail
          obtain ⟨T3, hT3⟩ : ∃ T3, T3 = T ++ [124] := ⟨_, rfl⟩
          have hT3l : T3.length ≤ 6442450945 := by rw [hT3, List.length_append]; simp; omega
          rw [show (⟨T.toArray⟩ : ByteArray) ++ ⟨#[124]⟩ = ⟨T3.toArray⟩ by rw [hT3, ba1, ba_append]]
          have HT3 := Lib.hid hT3
          clear hT3 q4 q2
          go_loopw [3, 7] (fun v i wr => ∃ (i0 : Nat), i0 ≤ n1 ∧ i = .int .i64 i0 ∧ v = .string ⟨(T3 ++ rws (a.rows.take i0)).toArray⟩ ∧ Below wb.heap.size wb wr)
            (fun _ i _ => n1 - (intOf i).toNat)
          case atStart => exact ⟨0, Nat.zero_le _, rfl, by simp [rws, Lib.join_nil], HBJ.out⟩
          case round =>
            obtain ⟨i, hi, rfl, rfl, hb⟩ := hrel
            have HBI := Lib.hid hb
            have hsi := hb.size
            have q2 := kcell hb (HC.out 2 _ rfl)
            have hUl : (T3 ++ rws (a.rows.take i)).length ≤ 6710886401 := by
              have h1 := rws_len (a.rows.take i) (fun x hx => HAOK.out.2.2.2.2 x (List.mem_of_mem_take hx))
              have h2 := keyedsW_take a.rows i
              have h3 := HRW.out.1
              rw [List.length_append]; omega
            obtain ⟨U, hU⟩ : ∃ U, U = T3 ++ rws (a.rows.take i) := ⟨_, rfl⟩
            rw [← hU] at hUl
            rw [← hU]
            have HU := Lib.hid hU; clear hU
            obtain ⟨wi, rfl⟩ : ∃ wi : World, wi = wr := ⟨_, rfl⟩
            by_cases hlt3 : i < n1
            · have hkl3 : i < a.rows.length := by rw [← HN1.out]; exact hlt3
              obtain ⟨b3, o3, u, rfl, _, hbl3, hrep, hc⟩ := (H1.out.below hb (Nat.le_refl _)).at_ hkl3 (by decide)
              obtain ⟨x, hf⟩ : ∃ v, v = a.rows[i] := ⟨_, rfl⟩
              rw [← hf] at hrep
              have hxw : keyedW x ≤ 268435456 := by rw [hf]; exact Nat.le_trans (keyedsW_get a.rows i hkl3) HRW.out.1
              have HFX := Lib.hid hf; clear hf
              obtain ⟨A7, n7, c7, rfl, hkok, hs7⟩ := hrep
              obtain ⟨g0, g1, g2, g3⟩ := cells4 hc
              obtain ⟨wk, hwk, hBk, hCk, hSk, hKk⟩ := boxed wi [.int .i64 x.key.id, .int .i64 x.key.bucket, .int .i64 x.key.row, .slice A7 n7 c7] 64
              have HCK := Lib.hid hCk; have HBK := Lib.hid hBk; have H7 := Lib.hid (hKk hs7)
              have HN7 := Lib.hid hs7.len
              have HTK := Lib.hid ((HTB.out.below hb).below hBk)
              have hn7 : n7 ≤ 268435456 := by rw [hs7.len]; have := rowLen_count x.row; unfold keyedW at hxw; omega
              have k0 := hCk 0 _ rfl
              have k1 := hCk 1 _ rfl
              have k2 := hCk 2 _ rfl
              have HXW := Lib.hid (show rowLen x.row ≤ 268435456 by unfold keyedW at hxw; omega)
              have HWK := Lib.hid hwk
              clear hc hBk hCk hSk hKk hs7 hb hxw hwk
              obtain ⟨r1, hr1⟩ : ∃ p, p = Lib.itoa x.key.id := ⟨_, rfl⟩
              obtain ⟨r2, hr2⟩ : ∃ p, p = Lib.itoa x.key.bucket := ⟨_, rfl⟩
              obtain ⟨r3, hr3⟩ : ∃ p, p = Lib.itoa x.key.row := ⟨_, rfl⟩
              obtain ⟨hx1, hx2, hx3⟩ := hkok
              have hl4 : r1.length ≤ 21 := by rw [hr1]; exact Lib.itoa_length_le _ hx1.1 hx1.2
              have hl5 : r2.length ≤ 21 := by rw [hr2]; exact Lib.itoa_length_le _ hx2.1 hx2.2
              have hl6 : r3.length ≤ 21 := by rw [hr3]; exact Lib.itoa_length_le _ hx3.1 hx3.2
              have HX1 := Lib.hid hx1; have HX2 := Lib.hid hx2; have HX3 := Lib.hid hx3
              have HR1 := Lib.hid hr1; have HR2 := Lib.hid hr2; have HR3 := Lib.hid hr3
              obtain ⟨V, hV⟩ : ∃ V, V = T3 ++ (if a.rows.take i = [] then [] else rws (a.rows.take i) ++ [32]) := ⟨_, rfl⟩
              have hVl : V.length ≤ 6710886402 := by
                rw [HU.out, List.length_append] at hUl
                rw [hV, List.length_append]; split <;> simp <;> omega
              have HV := Lib.hid hV
              have m1 : ¬ 9223372036854775807 < V.length + r1.length := by omega
              have m2 : ¬ 9223372036854775807 < V.length + r1.length + 1 := by omega
              have m3 : ¬ 9223372036854775807 < V.length + r1.length + 1 + r2.length := by omega
              have m4 : ¬ 9223372036854775807 < V.length + r1.length + 1 + r2.length + 1 := by omega
              have m5 : ¬ 9223372036854775807 < V.length + r1.length + 1 + r2.length + 1 + r3.length := by omega
              have m0 : ¬ 9223372036854775807 < U.length + 1 := by omega
              clear hx1 hx2 hx3 hr1 hr2 hr3 hV
              obtain ⟨cd, hcd⟩ : ∃ cd : Bool, cd = decide ((0 : Int) < (i : Int)) := ⟨_, rfl⟩
              have hsp : (i = 0 ∧ V = U) ∨ (0 < i ∧ (⟨U.toArray⟩ : ByteArray) ++ ⟨#[32]⟩ = ⟨V.toArray⟩) := by
                rcases Nat.eq_zero_or_pos i with h0 | h0
                · left
                  refine ⟨h0, ?_⟩
                  rw [HV.out, HU.out, h0]; simp [rws, Lib.join_nil]
                · right
                  refine ⟨h0, ?_⟩
                  rw [ba1, ba_append, HV.out, HU.out, if_neg, List.append_assoc]
                  intro e
                  have := congrArg List.length e
                  rw [List.length_take, Nat.min_eq_left (by omega), List.length_nil] at this
                  omega
              clear hcd cd
              rcases hsp with ⟨h0, hVU⟩ | ⟨h0, hVU⟩
              all_goals
                have HVU := Lib.hid hVU; clear hVU
                first
                  | (have hd : decide ((0 : Int) < (i : Int)) = false := (by simp; omega); have hd2 : ¬ (0 : Int) < (i : Int) := (by omega))
                  | (have hd : decide ((0 : Int) < (i : Int)) = true := by simp; omega)
                have HH0 := Lib.hid h0; clear h0
                go_upto_region 18 with fail
                first | rw [HVU.out] | (rw [← HVU.out])
                rw [← HWK.out]
                go_region_held3 (fun w' => w'.cell? ⟨wi.heap.size, 0, none⟩ = some (.int .i64 x.key.id) ∧ w'.cell? ⟨wi.heap.size, 1, none⟩ = some (.int .i64 x.key.bucket) ∧ w'.cell? ⟨wi.heap.size, 2, none⟩ = some (.int .i64 x.key.row))
                  (first | go_keep | (go_split_ands; refine ⟨?_, ?_, ?_⟩ <;> exact kcell (by assumption) (by assumption)))
                  (first
                    | (go_at_call_of 24 (Value.int .i64 x.key.id); refine (itoa_p x.key.id HX1.out r1 HR1.out _ (HTK.out.below (by (repeat (first | exact Below.refl _ _ | assumption | refine bthen ?_ (by assumption) | refine balloc ?_ _ | refine bdrew ?_))))).mono ?_; rintro e w1 ⟨rfl, hb1⟩)
                    | (go_at_call_of 24 (Value.int .i64 x.key.bucket); refine (itoa_p x.key.bucket HX2.out r2 HR2.out _ (HTK.out.below (by (repeat (first | exact Below.refl _ _ | assumption | refine bthen ?_ (by assumption) | refine balloc ?_ _ | refine bdrew ?_))))).mono ?_; rintro e w2 ⟨rfl, hb2⟩)
                    | (go_at_call_of 24 (Value.int .i64 x.key.row); refine (itoa_p x.key.row HX3.out r3 HR3.out _ (HTK.out.below (by (repeat (first | exact Below.refl _ _ | assumption | refine bthen ?_ (by assumption) | refine balloc ?_ _ | refine bdrew ?_))))).mono ?_; rintro e w3 ⟨rfl, hb3⟩)
                    | fail)
                have HBW := Lib.hid (show Below wk.heap.size wk w3 by (repeat (first | exact Below.refl _ _ | assumption | refine bthen ?_ (by assumption) | refine balloc ?_ _ | refine bdrew ?_)))
                obtain ⟨W, hW⟩ : ∃ W, W = V ++ keyT x.key := ⟨_, rfl⟩
                have hWv : (⟨V.toArray⟩ : ByteArray) ++ ⟨r1.toArray⟩ ++ ⟨#[46]⟩ ++ ⟨r2.toArray⟩ ++ ⟨#[46]⟩ ++ ⟨r3.toArray⟩ = ⟨W.toArray⟩ := by
                  rw [ba1 46, hW, keyT, ← HR1.out, ← HR2.out, ← HR3.out]; simp only [ba_append, List.append_assoc]
                have hWl : W.length ≤ 6710886500 := by
                  rw [hW, keyT, ← HR1.out, ← HR2.out, ← HR3.out]; simp only [List.length_append, List.length_cons, List.length_nil]; omega
                have HWW := Lib.hid hW
                rw [hWv]
                have q3 := kcell HBW.out (HCK.out 3 _ rfl)
                clear hW hWv hb1 hb2 hb3 m0 m1 m2 m3 m4 m5 k0 k1 k2 g0 g1 g2 g3
                go_wp2_with fail
                clear q3
                go_loopw [3, 9] (fun v i wr => ∃ (t : Nat), t ≤ n7 ∧ i = .int .i64 t ∧ v = .string ⟨(W ++ cellsOf (x.row.take t)).toArray⟩ ∧ Below wk.heap.size wk wr)
                  (fun _ i _ => n7 - (intOf i).toNat)
                case atStart => exact ⟨0, Nat.zero_le _, rfl, by simp [cellsOf], HBW.out⟩
                case round =>
                  obtain ⟨t, ht, rfl, rfl, hbt⟩ := hrel
                  have HBT := Lib.hid hbt
                  have hst := hbt.size
                  have q3 := kcell hbt (HCK.out 3 _ rfl)
                  have hYl : (W ++ cellsOf (x.row.take t)).length ≤ 7516192768 := by
                    have h1 := cellsOf_len (x.row.take t)
                    have h2 := rowLen_take x.row t
                    have h3 := HXW.out
                    rw [List.length_append]; omega
                  obtain ⟨Y, hY⟩ : ∃ Y, Y = W ++ cellsOf (x.row.take t) := ⟨_, rfl⟩
                  rw [← hY] at hYl
                  rw [← hY]
                  have HY := Lib.hid hY; clear hY
                  by_cases hlt4 : t < n7
                  · have hkl4 : t < x.row.length := by rw [← HN7.out]; exact hlt4
                    obtain ⟨b4, o4, u, rfl, _, hbl4, hrep, hc⟩ := (H7.out.below hbt (Nat.le_refl _)).at_ hkl4 (by decide)
                    obtain ⟨v, hf⟩ : ∃ v, v = x.row[t] := ⟨_, rfl⟩
                    rw [← hf] at hrep
                    have hvl : vlen v ≤ 268435456 := by rw [hf]; exact Nat.le_trans (rowLen_get x.row t hkl4) HXW.out
                    have HFV := Lib.hid hf; clear hf
                    obtain ⟨rfl, hvok⟩ := hrep
                    obtain ⟨g0, g1, g2⟩ := cells3 hc
                    have hvs : v.s.size ≤ 4294967000 := by unfold vlen at hvl; omega
                    have hpl : (putValue v).length ≤ 268435456 := by have := putValue_vlen v; omega
                    have hhl := hexOf_len (putValue v)
                    obtain ⟨D, hD⟩ : ∃ D, D = hexOf (putValue v) := ⟨_, rfl⟩
                    rw [← hD] at hhl
                    have hDl : D.length ≤ 536870912 := by omega
                    have e1 : ¬ 9223372036854775807 < Y.length + 1 := by omega
                    have e2 : ¬ 9223372036854775807 < Y.length + 1 + D.length := by omega
                    have HV2 := Lib.hid hvok; have HD := Lib.hid hD
                    clear hc hbt hvok hhl hD hvl
                    go_wp2_with (first
                      | (go_at_call 25; refine (rputValue_any v HV2.out hvs _).mono ?_; rintro e w6 ⟨A8, n8, c8, rfl, hown8, hb8⟩; have HO8 := Lib.hid hown8; have HB8 := Lib.hid hb8; clear hown8 hb8)
                      | (go_at_call 19; refine (rdigits_any _ A8 n8 c8 (putValue v) _ HO8.out.bs (by rw [HO8.out.len]; omega)).mono ?_; rintro e w7 ⟨rfl, hb9⟩; have HB9 := Lib.hid (HB8.out.trans (hb9.mono HB8.out.size)); clear hb9; rw [← HD.out])
                      | fail)
                    go_roundw
                    case rel =>
                      refine ⟨t + 1, by omega, by go_num, ?_, HBT.out.trans (HB9.out.mono hst)⟩
                      rw [List.take_succ_eq_append_getElem hkl4, ← HFV.out, cellsOf_snoc, ← List.append_assoc, ← HY.out, ← HD.out, ba1 61]; simp only [ba_append, List.append_assoc]; rfl
                    case measure => simp [intOf]; omega
                  · obtain rfl : t = n7 := by omega
                    have hYv : Y = T3 ++ rws (a.rows.take (i + 1)) := by
                      rw [HY.out, show x.row.take t = x.row from List.take_of_length_le (by rw [← HN7.out]; exact Nat.le_refl _), HWW.out, List.append_assoc, ← told_eq, HV.out, List.append_assoc, List.take_succ_eq_append_getElem hkl3, ← HFX.out, rws_snoc]
                    have HYV := Lib.hid hYv; clear hYv hbt
                    go_wp2_with fail
                    go_roundw
                    case rel => exact ⟨i + 1, by omega, by go_num, by rw [HYV.out], HBI.out.trans ((HBK.out.trans (HBT.out.mono HBK.out.size)).mono hsi)⟩
                    case measure => simp [intOf]; omega
            · obtain rfl : i = n1 := by omega
              have hUv : U = T3 ++ rws a.rows := by
                rw [HU.out, show a.rows.take i = a.rows from List.take_of_length_le (by rw [← HN1.out]; exact Nat.le_refl _)]
              have hni : ¬ 9223372036854775807 < U.length + 1 := by omega
              have HUV := Lib.hid hUv; clear hUv
              clear hb
              go_wp2_with fail
              go_roundw
              case rel =>
                refine ⟨k + 1, by omega, by go_num, ?_, HBO.out.trans ((HBB.out.trans (HBI.out.mono HBB.out.size)).mono hsz)⟩
                rw [List.take_succ_eq_append_getElem hkl, showOf_snoc, ← HF.out, showA_eq, ba1, ba_append, HUV.out, HT3.out, HTV.out, HS1.out, ← HS.out]
                simp only [List.append_assoc]
              case measure => simp [intOf]; omega
    · obtain rfl : k = n := by omega
      rw [show l.take k = l from List.take_of_length_le (by rw [← HL.out]; exact Nat.le_refl _)]
      go_wp2_with fail
      go_ret
      exact ⟨rfl, HBO.out⟩
end Go.Proofs.YtojenpjafgfpaaaDoor
