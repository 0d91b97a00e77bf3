/- What Print, Parse and Show say at the law's own example. No program in sight. -/
import Derived.Test.YtojenpjafgfpaaaGreatDoorShow3
import Derived.Test.YtojenpjafgfpaaaGreatDoorParse
namespace Go.Proofs.YtojenpjafgfpaaaGreatDoor
open Go Go.RowKit

def ex8 : EE := ⟨8, 0, 0, 0, [], [], ⟨0, []⟩, [], []⟩
def exS : List UInt8 := [48, 56, 49, 48, 49, 48, 48, 48, 49, 56, 48, 48, 50, 48, 48, 48, 51, 56, 48, 48, 10]
def exA : AA := ⟨0, 2, [], ⟨0, []⟩⟩
set_option maxRecDepth 100000 in
theorem print_ex : printOf [ex8] = exS := by decide +kernel
set_option maxRecDepth 100000 in
theorem parse_ex : parseOf exS = ([ex8], 0, 0) := by decide +kernel
set_option maxRecDepth 100000 in
theorem show_ex : showOf [exA] = [48, 32, 50, 124, 48, 124, 10] := by decide +kernel
end Go.Proofs.YtojenpjafgfpaaaGreatDoor
/- The law's own 'shown': Print, Parse and Show at one example. -/
namespace Go.Proofs.YtojenpjafgfpaaaGreatDoor
open Go Go.RowKit
attribute [local go_sem ↓] Go.wp_at_zero Go.wp_at_succ

theorem i64_0 : i64 0 := by unfold i64; omega
theorem i64_2 : i64 2 := by unfold i64; omega
theorem i64_8 : i64 8 := by unfold i64; omega
theorem ex8_sl (X : World) : Sl tEE (fun b => b = X.heap.size) (X.alloc (.cells #[.int .i64 8, .int .i64 0, .int .i64 0, .int .i64 0, .slice none 0 0, .slice none 0 0, .int .i64 0, .slice none 0 0, .slice none 0 0, .slice none 0 0] 29)) (some ⟨X.heap.size, 0, none⟩) 1 1 [ex8] :=
  (Sl.news (T := tEE) (F := fun _ => False) (w := X) (Reps.mk1 ⟨none, 0, 0, none, 0, 0, none, 0, 0, none, 0, 0, none, 0, 0, rfl, i64_8, i64_0, i64_0, i64_0, i64_0, Sl.nil_ _ _ _, Sl.nil_ _ _ _, Sl.nil_ _ _ _, Sl.nil_ _ _ _, Sl.nil_ _ _ _⟩) 29 1 rfl (by omega) (.cells #[.int .i64 8, .int .i64 0, .int .i64 0, .int .i64 0, .slice none 0 0, .slice none 0 0, .int .i64 0, .slice none 0 0, .slice none 0 0, .slice none 0 0] 29) rfl).weaken fun b hb _ => by
    rcases hb with hb | hb
    · exact hb.1.elim
    · exact hb
theorem exA_sl (X : World) : Sl tAA (fun b => b = X.heap.size) (X.alloc (.cells #[.int .i64 0, .int .i64 2, .slice none 0 0, .int .i64 0, .slice none 0 0] 48)) (some ⟨X.heap.size, 0, none⟩) 1 1 [exA] :=
  (Sl.news (T := tAA) (F := fun _ => False) (w := X) (Reps.mk1 ⟨none, 0, 0, none, 0, 0, rfl, i64_0, i64_2, i64_0, Sl.nil_ _ _ _, Sl.nil_ _ _ _⟩) 48 1 rfl (by omega) (.cells #[.int .i64 0, .int .i64 2, .slice none 0 0, .int .i64 0, .slice none 0 0] 48) rfl).weaken fun b hb _ => by
    rcases hb with hb | hb
    · exact hb.1.elim
    · exact hb
theorem print_ex_any (w : World) (A : Option Addr) (F : Nat → Prop) (h : Sl tEE F w A 1 1 [ex8]) : Calls Tryz.prog 14 #[.slice A 1 1] w fun e w' => e = .returned (.tuple #[.string ⟨#[48, 56, 49, 48, 49, 48, 48, 48, 49, 56, 48, 48, 50, 48, 48, 48, 51, 56, 48, 48, 10]⟩, .int .i64 0]) ∧ Below w.heap.size w w' := by
  refine (print_any F A 1 1 [ex8] w h (by omega) (by decide +kernel)).mono ?_
  rintro e w' ⟨rfl, hb⟩
  refine ⟨?_, hb⟩
  rw [print_ex]; rfl
theorem show_ex_any (w : World) (A : Option Addr) (F : Nat → Prop) (h : Sl tAA F w A 1 1 [exA]) (ht : Tab w) : Calls Tryz.prog 15 #[.slice A 1 1] w fun e w' => e = .returned (.string ⟨#[48, 32, 50, 124, 48, 124, 10]⟩) ∧ Below w.heap.size w w' := by
  refine (show_any F A 1 1 [exA] w h (by omega) (by decide +kernel) ht).mono ?_
  rintro e w' ⟨rfl, hb⟩
  refine ⟨?_, hb⟩
  rw [show_ex]
theorem parse_ex_any (mx : Int) (w : World) (hm : w.cell? ⟨0, 0, none⟩ = some (.int .i64 mx)) : Calls Tryz.prog 12 #[.string ⟨#[48, 56, 49, 48, 49, 48, 48, 48, 49, 56, 48, 48, 50, 48, 48, 48, 51, 56, 48, 48, 10]⟩] w fun e w' => ∃ b o c, e = .returned (.tuple #[.slice (some ⟨b, o, none⟩) 1 c, .int .i64 0, .int .i64 0]) ∧ Below w.heap.size w w' ∧ w'.cell? ⟨b, o, none⟩ = some (.int .i64 8) := by
  refine (parse_any exS mx w hm (by decide +kernel)).mono ?_
  rintro e w' ⟨A, n, c, rfl, hb, hs⟩
  rw [parse_ex] at hs ⊢
  have hn := hs.len
  obtain rfl : n = 1 := hn
  obtain ⟨b, o, cs, rfl, _, _, hr, hc⟩ := hs.at_ (k := 0) (by simp) (by decide)
  obtain ⟨A1, n1, c1, A2, n2, c2, A3, n3, c3, A4, n4, c4, A5, n5, c5, rfl, _⟩ := hr
  exact ⟨b, o, c, rfl, hb, by have := hc 0 _ rfl; simp at this; exact this⟩

set_option maxRecDepth 100000 in
set_option maxHeartbeats 4000000 in
theorem shown_any (mx : Int) (w : World) (hm : w.cell? ⟨0, 0, none⟩ = some (.int .i64 mx)) (ht : Tab w) :
    Calls Tryz.prog 5 #[] w fun e w' => e = .returned (.bool true) ∧ Below w.heap.size w w' := by
  have HT := Lib.hid ht; clear ht
  go_enter Tryz.func5, Tryz.ntmps5
  go_wp2_with (first
    | (go_at_call 14; refine (print_ex_any _ _ _ (ex8_sl w)).mono ?_; rintro e w1 ⟨rfl, hb1⟩; have HB1 : Hid (Below w.heap.size w w1) := Lib.hid (((Below.refl _ w).alloc (Nat.le_refl _) _).trans (hb1.mono (by simp))); have hm1 : w1.cell? ⟨0, 0, none⟩ = some (.int .i64 mx) := (HB1.out.cell (World.block_lt_of_cell? w _ hm)).trans hm; clear hb1)
    | (go_at_call 12; refine (parse_ex_any mx _ hm1).mono ?_; rintro e w2 ⟨b, o, c, rfl, hb2, g0⟩; have HB2 : Hid (Below w.heap.size w w2) := Lib.hid (HB1.out.trans (hb2.mono HB1.out.size)); clear hb2)
    | (go_at_call 15; refine (show_ex_any _ _ _ (exA_sl w2) (HT.out.below (HB2.out.alloc HB2.out.size _))).mono ?_; rintro e w3 ⟨rfl, hb3⟩; have HB3 : Hid (Below w.heap.size w w3) := Lib.hid ((HB2.out.alloc HB2.out.size _).trans (hb3.mono (by have := HB2.out.size; simp; omega))); clear hb3)
    | fail)
  go_ret
  exact ⟨rfl, HB3.out⟩
end Go.Proofs.YtojenpjafgfpaaaGreatDoor
