/- The law's own 'shown': Chosen of five directories, and one name. -/
import Derived.Test.YtollmolchcnpeaaGreatDoorNChosen
namespace Go.Proofs.YtollmolchcnpeaaGreatDoor
open Go Go.RowKit

def exL : List DD := [⟨1, 0, 5⟩, ⟨2, 4, 6⟩, ⟨2, 6, 6⟩, ⟨2, 6, 8⟩, ⟨2, 9, 9⟩]
def exR : List DD := [⟨1, 0, 5⟩, ⟨2, 6, 8⟩, ⟨2, 9, 9⟩]
theorem el_ex {k : Int} {x : DD} (h : El exL k 9 x) : x = ⟨1, 0, 5⟩ ∧ k = 1 ∨ k = 2 ∧ (x = ⟨2, 4, 6⟩ ∨ x = ⟨2, 6, 6⟩ ∨ x = ⟨2, 6, 8⟩ ∨ x = ⟨2, 9, 9⟩) := by
  obtain ⟨h1, h2, -, -⟩ := h
  simp only [exL, List.mem_cons, List.not_mem_nil, or_false] at h1
  rcases h1 with rfl | rfl | rfl | rfl | rfl
  · exact .inl ⟨rfl, h2.symm⟩
  · exact .inr ⟨h2.symm, .inl rfl⟩
  · exact .inr ⟨h2.symm, .inr (.inl rfl)⟩
  · exact .inr ⟨h2.symm, .inr (.inr (.inl rfl))⟩
  · exact .inr ⟨h2.symm, .inr (.inr (.inr rfl))⟩
theorem chosen_ex : Chosen exL 9 exR := by
  refine ⟨[⟨1, 0, 5⟩], [⟨2, 6, 8⟩, ⟨2, 9, 9⟩], rfl, ⟨⟨by decide, rfl, by decide, by decide⟩, fun x hx => ?_⟩, ⟨⟨by decide, rfl, by decide, by decide⟩, by decide, fun x hx hlt => ?_, ⟨⟨by decide, rfl, by decide, by decide⟩, by decide, fun x hx hlt => ?_, fun x hx => ?_⟩⟩⟩
  · rcases el_ex hx with ⟨rfl, _⟩ | ⟨h, _⟩
    · exact Int.le_refl _
    · omega
  all_goals
    rcases el_ex hx with ⟨_, h⟩ | ⟨_, rfl | rfl | rfl | rfl⟩
    · omega
    all_goals first | (exact absurd hlt (by decide)) | (unfold Fore; decide) | decide
theorem put_ex : nput ⟨2, 3, 12⟩ = [100, 101, 108, 116, 97, 95, 48, 48, 48, 48, 48, 48, 48, 48, 51, 95, 48, 48, 48, 48, 48, 48, 48, 49, 50] := by decide +kernel
theorem exL_ok : ∀ d ∈ exL, d.ok := by
  intro d hd
  refine may_ok ?_
  simp only [exL, List.mem_cons, List.not_mem_nil, or_false] at hd
  rcases hd with rfl | rfl | rfl | rfl | rfl <;> decide
theorem exL_sl (X : World) : Sl tDD (fun _ => True) (X.alloc (.cells #[.int .i64 1, .int .i64 0, .int .i64 5, .int .i64 2, .int .i64 4, .int .i64 6, .int .i64 2, .int .i64 6, .int .i64 6, .int .i64 2, .int .i64 6, .int .i64 8, .int .i64 2, .int .i64 9, .int .i64 9] 24)) (some ⟨X.heap.size, 0, none⟩) 5 5 exL :=
  (Sl.news (repsD (fun _ => False) X exL exL_ok) 24 5 rfl (by omega) _ rfl).any
theorem chosen_ex_any (w : World) (A : Option Addr) (F : Nat → Prop) (h : Sl tDD F w A 5 5 exL) : Calls Tryz.prog 9 #[.slice A 5 5, .int .i64 9] w fun e w' => ∃ b o c, e = .returned (.slice (some ⟨b, o, none⟩) 3 c) ∧ Below w.heap.size w w' ∧ w'.cell? ⟨b, o + 5, none⟩ = some (.int .i64 8) ∧ w'.cell? ⟨b, o + 7, none⟩ = some (.int .i64 9) := by
  refine (chosen_any F A 5 5 exL 9 w h (by omega)).mono ?_
  rintro e w' ⟨A', m, c', r, rfl, hc, hs, hb⟩
  obtain rfl := chosen_one hc chosen_ex
  have hn := hs.len
  obtain rfl : m = 3 := hn
  obtain ⟨b, o, cs, rfl, _, _, hr, hg⟩ := hs.at_ (k := 1) (by decide) (by decide)
  obtain ⟨b', o', cs', e2, _, _, hr', hg'⟩ := hs.at_ (k := 2) (by decide) (by decide)
  cases e2
  obtain ⟨rfl, _⟩ := hr
  obtain ⟨rfl, _⟩ := hr'
  exact ⟨b, o, c', rfl, hb, hg 2 _ rfl, hg' 1 _ rfl⟩
theorem put_ex_any (w : World) (ht : Tab w) : Calls Tryz.prog 10 #[.agg #[.int .i64 2, .int .i64 3, .int .i64 12]] w (StrPost [100, 101, 108, 116, 97, 95, 48, 48, 48, 48, 48, 48, 48, 48, 51, 95, 48, 48, 48, 48, 48, 48, 48, 49, 50] w) := nput_any ⟨2, 3, 12⟩ _ put_ex.symm w ht

set_option maxRecDepth 100000 in
set_option maxHeartbeats 4000000 in
theorem nshown_any (w : World) (ht : Tab w) :
    Calls Tryz.prog 4 #[] w fun e w' => e = .returned (.bool true) ∧ Below w.heap.size w w' := by
  have HT := Lib.hid ht; clear ht
  go_enter Tryz.func4, Tryz.ntmps4
  go_wp2_with (first
    | (go_at_call 9; refine (chosen_ex_any _ _ _ (exL_sl w)).mono ?_; rintro e w1 ⟨b, o, c, rfl, hb1, g1, g2⟩; have HB1 : Hid (Below w.heap.size w w1) := Lib.hid (((Below.refl _ w).alloc (Nat.le_refl _) _).trans (hb1.mono (by simp))); clear hb1)
    | (go_at_call 10; refine (put_ex_any _ (HT.out.below HB1.out)).mono ?_; rintro e w2 ⟨rfl, hb2⟩; have HB2 : Hid (Below w.heap.size w w2) := Lib.hid (HB1.out.trans (hb2.mono HB1.out.size)); have g3 := kcell hb2 g1; have g4 := kcell hb2 g2; clear hb2)
    | fail)
  go_ret
  exact ⟨rfl, HB2.out⟩
end Go.Proofs.YtollmolchcnpeaaGreatDoor
