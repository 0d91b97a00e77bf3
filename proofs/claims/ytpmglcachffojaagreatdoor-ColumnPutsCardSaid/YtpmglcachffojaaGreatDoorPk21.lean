/- The reference 15: places; all texts one behind the other. Texts inserted one by one are the texts that texts.Words tells. Plain Lean; no program in sight. The reference 15: the words, inserted one by one. Printed by gen_q1.py. The references 01 and 02: varints, widths. The references 07 and 08: repeated numbers, heads, plain numbers. -/
import Derived.Test.YtpmglcachffojaaGreatDoorPk20
import Derived.Test.YtpmglcachffojaaGreatDoorPk19
import Derived.Test.YtpmglcachffojaaGreatDoorPk7
import Derived.Test.YtpmglcachffojaaGreatDoorPk4
namespace Go.Proofs.YtpmglcachffojaaGreatDoor
open Go Go.RowKit

theorem str_no {a b : ByteArray} (h : ¬ a = b) : (a.toList == b.toList) = false ∧ ¬ a.toList = b.toList ∧ decide (a = b) = false := by
  have h1 : ¬ a.toList = b.toList := by
    rw [ByteArray.toList_eq, ByteArray.toList_eq]
    intro e; exact h (bytes_inj' e)
  exact ⟨by simpa using h1, h1, decide_eq_false h⟩
/-- Where a text stands first. -/
def Place (l : List ByteArray) (s : ByteArray) (r : Int) : Prop := (r = -1 ∧ ∀ j (h : j < l.length), l[j] ≠ s) ∨ ∃ i, ∃ h : i < l.length, r = (i : Int) ∧ l[i] = s
set_option maxRecDepth 100000 in
set_option maxHeartbeats 1000000 in
theorem rplace_any (F : Nat → Prop) (A : Option Addr) (n c : Nat) (l : List ByteArray) (w : World) (h : Sl tStr F w A n c l) (s : ByteArray) (hn : n ≤ 4096) :
    Calls Tryz.prog 109 #[.slice A n c, .string s] w fun e w' => (∃ r, e = .returned (.int .i64 r) ∧ Place l s r) ∧ w = w' := by
  have HH := Lib.hid h; have HL := Lib.hid h.len
  clear h
  go_enter Tryz.func109, Tryz.ntmps109
  go_wp2_with fail
  go_loopw [5] (fun iv wr => ∃ i : Nat, i ≤ n ∧ iv = .int .i64 (i : Int) ∧ Hid (∀ j (_ : j < l.length), j < i → l[j] ≠ s) ∧ w = wr) (fun iv _ => n - (intOf iv).toNat)
  case atStart => exact ⟨0, Nat.zero_le _, rfl, Lib.hid (fun j _ hj => by omega), rfl⟩
  case round =>
    obtain ⟨i, hi, rfl, HJ, rfl⟩ := hrel
    by_cases hlt : i < n
    · have hil : i < l.length := by rw [← HL.out]; exact hlt
      obtain ⟨b, o, u, rfl, _, _, hr, hc⟩ := HH.out.at1 hil rfl
      obtain ⟨x, hx⟩ : ∃ x, x = l[i] := ⟨_, rfl⟩
      obtain ⟨hr, hsz⟩ := hr
      injection hr with hr; subst hr
      rw [← hx] at hc
      have hi0 : (0 : Int) ≤ (i : Int) := by omega
      have hi1 : (i : Int) < (n : Int) := by omega
      have HX := Lib.hid hx
      clear hx hsz
      by_cases he : x = s
      · have HP := Lib.hid (show Place l s (i : Int) from .inr ⟨i, hil, rfl, by rw [← HX.out]; exact he⟩)
        subst he
        go_wp2_with fail
        go_ret
        exact ⟨⟨_, rfl, HP.out⟩, rfl⟩
      · obtain ⟨e1, e2, e3⟩ := str_no he
        have HJ2 : Hid (∀ j (_ : j < l.length), j < i + 1 → l[j] ≠ s) := Lib.hid (fun j hj hji => by
          by_cases hjp : j = i
          · subst hjp; rw [← HX.out]; exact he
          · exact HJ.out j hj (by omega))
        go_wp2_with fail
        go_roundw
        case rel => exact ⟨i + 1, by omega, by go_num, HJ2, trivial⟩
        case measure => simp [intOf]; omega
    · obtain rfl : i = n := by omega
      have HP := Lib.hid (show Place l s (-1) from .inl ⟨rfl, fun j hj => HJ.out j hj (by have := HL.out; omega)⟩)
      go_wp2_with fail
      go_ret
      exact ⟨⟨_, rfl, HP.out⟩, rfl⟩
end Go.Proofs.YtpmglcachffojaaGreatDoor
namespace Go.Proofs.YtpmglcachffojaaGreatDoor
open Go Go.RowKit

def sb (s : ByteArray) : List UInt8 := s.data.toList
/-- They rise. -/
def RiseS (ws : List ByteArray) : Prop := ws.Pairwise fun a b => sb a < sb b
theorem sb_inj {a b : ByteArray} (h : sb a = sb b) : a = b := bytes_inj' h
theorem lt_irr (a : List UInt8) : ¬ a < a := List.lt_irrefl a
theorem lt_tr {a b c : List UInt8} (h1 : a < b) (h2 : b < c) : a < c := List.lt_trans h1 h2
theorem lt_of {a b : List UInt8} (h : a ≤ b) (hne : a ≠ b) : a < b := Classical.byContradiction fun hn => hne (List.le_antisymm h hn)
theorem lt_tri (a b : List UInt8) (h : a ≠ b) : a < b ∨ b < a := by
  rcases List.le_total a b with h1 | h1
  · exact .inl (lt_of h1 h)
  · exact .inr (lt_of h1 (Ne.symm h))
theorem rise_one : ∀ {a b : List ByteArray}, RiseS a → RiseS b → (∀ x, x ∈ a ↔ x ∈ b) → a = b
  | [], [], _, _, _ => rfl
  | [], y :: b, _, _, h => by have := (h y).2 (by simp); simp at this
  | x :: a, [], _, _, h => by have := (h x).1 (by simp); simp at this
  | x :: a, y :: b, ha, hb, h => by
    obtain ⟨ha1, ha2⟩ := List.pairwise_cons.1 ha
    obtain ⟨hb1, hb2⟩ := List.pairwise_cons.1 hb
    have hxy : x = y := by
      rcases List.mem_cons.1 ((h x).1 (by simp)) with e | hx
      · exact e
      · rcases List.mem_cons.1 ((h y).2 (by simp)) with e | hy
        · exact e.symm
        · exact absurd (lt_tr (ha1 y hy) (hb1 x hx)) (lt_irr _)
    subst hxy
    rw [rise_one ha2 hb2 fun z => ?_]
    constructor
    · intro hz
      rcases List.mem_cons.1 ((h z).1 (by simp [hz])) with e | hz2
      · exact absurd (e ▸ ha1 z hz) (lt_irr _)
      · exact hz2
    · intro hz
      rcases List.mem_cons.1 ((h z).2 (by simp [hz])) with e | hz2
      · exact absurd (e ▸ hb1 z hz) (lt_irr _)
      · exact hz2
theorem mem_wordsS (l : List ByteArray) (x : ByteArray) : x ∈ wordsS l ↔ x ∈ l := by
  unfold wordsS
  constructor
  · intro h
    obtain ⟨b, hb, rfl⟩ := List.mem_map.1 h
    obtain ⟨t, ht, rfl⟩ := List.mem_map.1 ((mem_words l b).1 hb)
    exact ht
  · intro h
    exact List.mem_map.2 ⟨sb x, (mem_words l _).2 (List.mem_map.2 ⟨x, h, rfl⟩), rfl⟩
theorem rise_words (l : List ByteArray) : RiseS (wordsS l) := by
  unfold wordsS RiseS
  rw [List.pairwise_map]
  exact (words_pair l).imp fun {a b} h => by
    have e : ∀ c : List UInt8, sb (mkS c) = c := fun c => by simp [sb, mkS]
    rw [e, e]
    exact lt_of h.1 h.2
/-- A text among others, ahead of the k-th. -/
def insAt (ws : List ByteArray) (s : ByteArray) (k : Nat) : List ByteArray := ws.take k ++ s :: ws.drop k
theorem insAt_len {ws : List ByteArray} {s : ByteArray} {k : Nat} (h : k ≤ ws.length) : (insAt ws s k).length = ws.length + 1 := by
  unfold insAt; simp; omega
theorem insAt_end (ws : List ByteArray) (s : ByteArray) : insAt ws s ws.length = ws ++ [s] := by unfold insAt; simp
theorem insAt_lt {ws : List ByteArray} {s : ByteArray} {k p : Nat} (h : p < k) (hk : k ≤ ws.length) (hp : p < (insAt ws s k).length) : (insAt ws s k)[p] = ws[p]'(by omega) := by
  have h1 : p < (ws.take k).length := by rw [List.length_take]; omega
  exact (List.getElem_append_left (bs := s :: ws.drop k) h1).trans List.getElem_take
theorem set2 {α : Type} (x s : α) (d : List α) : ∀ a : List α, ((a ++ x :: s :: d).set (a.length + 1) x).set a.length s = a ++ s :: x :: d
  | [] => rfl
  | y :: a => by
    simp
theorem insAt_step {ws : List ByteArray} {s : ByteArray} {p : Nat} (h : p < ws.length) : ((insAt ws s (p + 1)).set (p + 1) ws[p]).set p s = insAt ws s p := by
  have e1 : insAt ws s (p + 1) = ws.take p ++ ws[p] :: s :: ws.drop (p + 1) := by
    unfold insAt
    rw [List.take_succ_eq_append_getElem h, List.append_assoc]; rfl
  have e2 : insAt ws s p = ws.take p ++ s :: ws[p] :: ws.drop (p + 1) := by
    unfold insAt
    rw [List.drop_eq_getElem_cons h]
  have := set2 ws[p] s (ws.drop (p + 1)) (ws.take p)
  rw [List.length_take, Nat.min_eq_left (by omega)] at this
  rw [e1, e2, this]
theorem mem_ins {ws : List ByteArray} {s : ByteArray} {k : Nat} (x : ByteArray) : x ∈ insAt ws s k ↔ x ∈ ws ∨ x = s := by
  unfold insAt
  rw [List.mem_append, List.mem_cons]
  conv => rhs; rw [← List.take_append_drop k ws]
  rw [List.mem_append]
  constructor
  · rintro (h | h | h)
    · exact .inl (.inl h)
    · exact .inr h
    · exact .inl (.inr h)
  · rintro ((h | h) | h)
    · exact .inl h
    · exact .inr (.inr h)
    · exact .inr (.inl h)
theorem rise_ins {ws : List ByteArray} {s : ByteArray} {k : Nat} (h : RiseS ws) (hk : k ≤ ws.length) (h1 : k = 0 ∨ ∃ p, ∃ hp : p < ws.length, k = p + 1 ∧ sb ws[p] < sb s) (h2 : ∀ j (hj : j < ws.length), k ≤ j → sb s < sb ws[j]) : RiseS (insAt ws s k) := by
  have hlo : ∀ x ∈ ws.take k, sb x < sb s := by
    intro x hx
    rcases h1 with h1 | ⟨p, hp, rfl, hlt⟩
    · subst h1; simp at hx
    · obtain ⟨j, hj, rfl⟩ := List.getElem_of_mem hx
      rw [List.length_take] at hj
      rw [List.getElem_take]
      by_cases hjp : j = p
      · subst hjp; exact hlt
      · exact lt_tr (List.pairwise_iff_getElem.1 h j p (by omega) hp (by omega)) hlt
  have hhi : ∀ x ∈ ws.drop k, sb s < sb x := by
    intro x hx
    obtain ⟨j, hj, rfl⟩ := List.getElem_of_mem hx
    rw [List.length_drop] at hj
    rw [List.getElem_drop]
    exact h2 _ (by omega) (by omega)
  unfold insAt RiseS
  rw [List.pairwise_append, List.pairwise_cons]
  refine ⟨List.Pairwise.take h, ⟨hhi, List.Pairwise.drop h⟩, fun a ha b hb => ?_⟩
  rcases List.mem_cons.1 hb with rfl | hb
  · exact hlo a ha
  · exact lt_tr (hlo a ha) (hhi b hb)
/-- Where a text stands among the words. -/
theorem place_words {l : List ByteArray} {s : ByteArray} {r : Int} (hs : s ∈ l) (h : Place (wordsS l) s r) : r = (placeN l s : Int) := by
  rcases h with ⟨_, h⟩ | ⟨i, hi, rfl, he⟩
  · obtain ⟨j, hj, e⟩ := List.getElem_of_mem ((mem_wordsS l s).2 hs)
    exact absurd e (h j hj)
  · have hi2 : i < (wordsL l).length := by unfold wordsS at hi; rw [List.length_map] at hi; exact hi
    have e1 : (wordsL l)[i] = sb s := by
      have h3 : (wordsS l)[i] = mkS ((wordsL l)[i]) := List.getElem_map mkS
      rw [← he, h3]; simp [sb, mkS]
    have e2 : (wordsL l)[placeN l s]'(place_lt l hs) = sb s := by
      have := place_get l hs
      rw [getD_at (place_lt l hs)] at this
      exact this
    rw [nodup_inj (words_nodup l) hi2 (place_lt l hs) (e1.trans e2.symm)]
theorem wordsS_len (l : List ByteArray) : (wordsS l).length = (wordsL l).length := by unfold wordsS; rw [List.length_map]
end Go.Proofs.YtpmglcachffojaaGreatDoor
namespace Go.Proofs.YtpmglcachffojaaGreatDoor
open Go Go.RowKit

theorem oneStr : OneT tStr (fun s => .string s) (fun s => s.size ≤ maxLen) := ⟨rfl, fun _ _ _ _ => Iff.rfl⟩
def OwnW (w : World) (B : Nat) (A : Option Addr) (n c : Nat) (l : List ByteArray) : Prop := OwnF tStr 9 (fun _ => False) w B A n c l
theorem str_gt {x s : ByteArray} (h : sb s < sb x) : Op.bytesLess x.toList s.toList = false ∧ (x.toList == s.toList) = false := by
  constructor
  · rw [bytesLess_eq, ByteArray.toList_eq, ByteArray.toList_eq]
    exact decide_eq_false fun h2 => lt_irr _ (lt_tr h h2)
  · exact (str_no (fun e => by rw [e] at h; exact lt_irr _ h)).1
theorem str_lt {x s : ByteArray} (h : sb x < sb s) : Op.bytesLess x.toList s.toList = true := by
  rw [bytesLess_eq, ByteArray.toList_eq, ByteArray.toList_eq]
  exact decide_eq_true h
set_option maxRecDepth 100000 in
set_option maxHeartbeats 4000000 in
theorem rwords_any (F : Nat → Prop) (A : Option Addr) (n c : Nat) (l : List ByteArray) (w : World) (h : Sl tStr F w A n c l) (hn : n ≤ 4096) :
    Calls Tryz.prog 107 #[.slice A n c] w fun e w' => ∃ A' c', e = .returned (.slice A' (wordsL l).length c') ∧ OwnW w' w.heap.size A' (wordsL l).length c' (wordsS l) ∧ Below w.heap.size w w' := by
  have HH := Lib.hid h; have HL := Lib.hid h.len
  have HO0 := Lib.hid (show OwnW (w.alloc (.cells #[] 9)) w.heap.size (some ⟨w.heap.size, 0, none⟩) 0 0 [] from OwnF.empty tStr _ _ w _ (Nat.le_refl _) (fun _ hb => hb.elim))
  have HB0 : Hid (Below w.heap.size w (w.alloc (.cells #[] 9))) := Lib.hid ((Below.refl _ _).alloc (Nat.le_refl _) _)
  clear h
  go_enter Tryz.func107, Tryz.ntmps107
  go_wp2_with fail
  go_loopw [3, 4] (fun ov iv wr => ∃ (i m : Nat) (A2 : Option Addr) (c2 : Nat) (ws : List ByteArray), i ≤ n ∧ m ≤ i ∧ iv = .int .i64 (i : Int) ∧ ov = .slice A2 m c2 ∧ OwnW wr w.heap.size A2 m c2 ws ∧ Below w.heap.size w wr ∧ Hid (RiseS ws ∧ ∀ x, x ∈ ws ↔ x ∈ l.take i)) (fun _ iv _ => n - (intOf iv).toNat)
  case atStart => exact ⟨0, 0, _, 0, [], Nat.zero_le _, Nat.zero_le _, rfl, rfl, HO0.out, HB0.out, Lib.hid ⟨List.Pairwise.nil, by simp⟩⟩
  case round =>
    obtain ⟨i, m, A2, c2, ws, hi, hmi, rfl, rfl, ho, hb, HW⟩ := hrel
    have HO := Lib.hid ho; have HB := Lib.hid hb; have HM := Lib.hid (OwnF.len ho)
    clear ho hb
    by_cases hlt : i < n
    · have hil : i < l.length := by rw [← HL.out]; exact hlt
      obtain ⟨b, o, u, rfl, _, hbl, hr, hc0⟩ := HH.out.at1 hil rfl
      obtain ⟨s, hs⟩ : ∃ s, s = l[i] := ⟨_, rfl⟩
      obtain ⟨hr, hsz⟩ := hr
      injection hr with hr; subst hr
      rw [← hs] at hc0 hsz
      have HC0 := Lib.hid hc0
      have cl := kcell HB.out hc0
      have HTK := Lib.hid (show l.take (i + 1) = l.take i ++ [s] by rw [List.take_succ_eq_append_getElem hil, hs])
      have hi0 : (0 : Int) ≤ (i : Int) := by omega
      have hi1 : (i : Int) < (n : Int) := by omega
      have HSZ := Lib.hid hsz
      have hm4 : m ≤ 4096 := by omega
      clear hs hc0 hsz
      by_cases hmem : s ∈ ws
      · have HMEM : Hid (∀ x, x ∈ ws ↔ x ∈ l.take (i + 1)) := Lib.hid (fun x => by
          rw [HTK.out, List.mem_append, List.mem_singleton, ← HW.out.2]
          exact ⟨.inl, fun h => h.elim id (fun e => e ▸ hmem)⟩)
        have HPL : Hid (∀ r, Place ws s r → (0 : Int) ≤ r) := Lib.hid (fun r hr => by
          rcases hr with ⟨_, hr⟩ | ⟨j, _, rfl, _⟩
          · obtain ⟨j, hj, e⟩ := List.getElem_of_mem hmem
            exact absurd e (hr j hj)
          · omega)
        clear hmem
        go_wp2_with (first
          | (go_at_call 109; refine (rplace_any _ A2 m c2 ws _ (OwnF.sl HO.out) s hm4).mono ?_; rintro e w1 ⟨⟨r, rfl, hpl⟩, rfl⟩; have hr0 := HPL.out r hpl; have hr1 : r ≥ 0 := hr0; clear hpl)
          | fail)
        go_roundw
        case rel => exact ⟨i + 1, m, A2, c2, ws, by omega, by omega, by go_num, rfl, HO.out, HB.out, Lib.hid ⟨HW.out.1, HMEM.out⟩⟩
        case measure => simp [intOf]; omega
      · have HPL : Hid (∀ r, Place ws s r → r = -1) := Lib.hid (fun r hr => by
          rcases hr with ⟨hr, _⟩ | ⟨j, hj, _, e⟩
          · exact hr
          · exact absurd (e ▸ List.getElem_mem hj) hmem)
        have HNE := Lib.hid hmem
        clear hmem
        go_upto_region 6 with (first
          | (go_at_call 109; refine (rplace_any _ A2 m c2 ws _ (OwnF.sl HO.out) s hm4).mono ?_; rintro e w1 ⟨⟨r, rfl, hpl⟩, rfl⟩; obtain rfl : r = -1 := HPL.out r hpl; clear hpl)
          | fail)
        go_upto_region 7 with (first
          | (at_builtin; refine apl1 (T := tStr) elemStr wr w rfl (.tmp 20) (.tmp 25) rfl w.heap.size A2 m c2 ws (by rfl) (fun _ => False) (fun _ => False) HO.out HB.out (Nat.le_refl _) _ (by rfl) [.string s] s ⟨rfl, HSZ.out⟩ 9 rfl (fun _ _ _ _ h4 => h4) (by omega) ?_; intro A3 c3 w3 h3)
          | fail)
        have ho3 : OwnW w3 w.heap.size A3 (m + 1) c3 (insAt ws s m) := by
          have h4 := h3.own.flat flatStr
          rw [HM.out, insAt_end, ← HM.out]; exact h4
        have HB3 := Lib.hid h3.below
        obtain ⟨g, rfl⟩ := OwnF.some1 oneStr ho3 (by intro e; have := congrArg List.length e; rw [insAt_len (by rw [HM.out]; exact Nat.le_refl _)] at this; simp at this)
        have HO3 := Lib.hid ho3
        clear h3 ho3 cl
        have zm : ((m : Int) + 1) - 1 = (m : Int) := by omega
        go_wp2_with fail
        go_loopw [5] (fun kv wq => ∃ (k : Nat), k ≤ m ∧ kv = .int .i64 (k : Int) ∧ OwnW wq w.heap.size (some ⟨g, 0, none⟩) (m + 1) c3 (insAt ws s k) ∧ Below w.heap.size w wq ∧ Hid (∀ j (_ : j < ws.length), k ≤ j → sb s < sb ws[j])) (fun kv _ => (intOf kv).toNat)
        case atStart => exact ⟨m, Nat.le_refl _, by go_num, HO3.out, HB3.out, Lib.hid (fun j hj hk => by have := HM.out; omega)⟩
        case round =>
          obtain ⟨k, hk, rfl, ho, hb, HJ⟩ := hrel
          have HQ := Lib.hid ho; have HBQ := Lib.hid hb
          have cl := kcell hb HC0.out
          clear ho hb
          have HEND : Hid ((k = 0 ∨ ∃ p, ∃ hp : p < ws.length, k = p + 1 ∧ sb ws[p] < sb s) → Hid (RiseS (insAt ws s k) ∧ ∀ x, x ∈ insAt ws s k ↔ x ∈ l.take (i + 1))) := Lib.hid (fun h => Lib.hid ⟨rise_ins HW.out.1 (by rw [← HM.out]; exact hk) h HJ.out, fun x => by
            rw [mem_ins, HTK.out, List.mem_append, List.mem_singleton, HW.out.2]⟩)
          by_cases hk0 : k = 0
          · have HE := HEND.out (.inl hk0)
            subst hk0
            clear HEND
            go_wp2_with fail
            go_quiet (fail)
            go_wp2_with fail
            go_roundw
            case rel => exact ⟨i + 1, m + 1, _, c3, insAt ws s 0, by omega, by omega, by go_num, rfl, OwnF.drewN HQ.out _, bdrewN HBQ.out _, HE.out⟩
            case measure => simp [intOf]; omega
          · obtain ⟨p, hp⟩ : ∃ p, k = p + 1 := ⟨k - 1, by omega⟩
            have HPK := Lib.hid hp
            have zk : (k : Int) - 1 = (p : Int) := by omega
            have k0 : (k : Int) > 0 := by omega
            have kn : 0 < k := by omega
            have k0' : (0 : Int) < (k : Int) := k0
            have k1 : (k : Int) < (m : Int) + 1 := by omega
            have k2 : (0 : Int) ≤ (k : Int) := by omega
            have p0 : (0 : Int) ≤ (p : Int) := by omega
            have p1 : (p : Int) < (m : Int) + 1 := by omega
            have hpw : p < ws.length := by rw [← HM.out]; omega
            have hkw : k ≤ ws.length := by rw [← HM.out]; exact hk
            obtain ⟨x, hx⟩ : ∃ x, x = ws[p] := ⟨_, rfl⟩
            have hpi : p < (insAt ws s k).length := by rw [insAt_len hkw]; omega
            have cx : wr.cell? ⟨g, p, none⟩ = some (.string x) := by rw [OwnF.cell1 oneStr HQ.out hpi, insAt_lt (by omega) hkw hpi, hx]
            have hxs : x.size ≤ maxLen := by
              have := (OwnF.row1 oneStr HQ.out).2 _ (List.getElem_mem hpi)
              rw [insAt_lt (by omega) hkw hpi, ← hx] at this; exact this
            have hxne : sb x ≠ sb s := fun e => HNE.out (by rw [← sb_inj e, hx]; exact List.getElem_mem _)
            by_cases hgt : sb s < sb x
            · obtain ⟨e1, e2⟩ := str_gt hgt
              have HJ2 : Hid (∀ j (_ : j < ws.length), p ≤ j → sb s < sb ws[j]) := Lib.hid (fun j hj hpj => by
                by_cases hjp : j = p
                · subst hjp; rw [← hx]; exact hgt
                · exact HJ.out j hj (by omega))
              have HST := Lib.hid (show ((insAt ws s k).set k x).set p s = insAt ws s p by rw [hp, hx]; exact insAt_step hpw)
              have HXS := Lib.hid hxs
              have HIL := Lib.hid (insAt_len (s := s) hkw)
              clear HEND hx hxne hgt hpi hpw hkw hxs hp
              go_wp2_with fail
              go_quiet (fail)
              obtain ⟨wd, hwd⟩ : ∃ wd, wd = wr.drewN nq := ⟨_, rfl⟩
              have cx1 : wd.cell? ⟨g, p, none⟩ = some (.string x) := by rw [hwd]; exact cx
              have cl1 : wd.cell? ⟨b, o + i, none⟩ = some (.string s) := by rw [hwd]; exact cl
              have hqd : OwnW wd w.heap.size (some ⟨g, 0, none⟩) (m + 1) c3 (insAt ws s k) := by rw [hwd]; exact OwnF.drewN HQ.out nq
              have hbd : Below w.heap.size w wd := by rw [hwd]; exact bdrewN HBQ.out nq
              rw [← hwd]
              clear hwd cx cl e1 e2
              have ho1 := OwnF.set1 oneStr hqd k x HXS.out
              have f0 : wd.frozen? ⟨g, k, none⟩ = false := OwnF.free1 oneStr hqd k
              have hgB := (OwnF.base1 oneStr hqd).1
              have hkl : k < (insAt ws s k).length := by rw [HIL.out, ← HM.out]; omega
              have hpl : p < ((insAt ws s k).set k x).length := by rw [List.length_set, HIL.out, ← HM.out]; omega
              obtain ⟨y0, hy0⟩ : ∃ y0, wd.cell? ⟨g, k, none⟩ = some y0 := ⟨_, OwnF.cell1 oneStr hqd hkl⟩
              obtain ⟨y1, hy1⟩ : ∃ y1, (wd.setCell ⟨g, k, none⟩ (.string x)).cell? ⟨g, p, none⟩ = some y1 := ⟨_, OwnF.cell1 oneStr ho1 hpl⟩
              have hb1 := bsetc hbd hgB (j := k) (.string x)
              have f1 : (wd.setCell ⟨g, k, none⟩ (.string x)).frozen? ⟨g, p, none⟩ = false := OwnF.free1 oneStr ho1 p
              have cl2 : (wd.setCell ⟨g, k, none⟩ (.string x)).cell? ⟨b, o + i, none⟩ = some (.string s) := kcell hb1 HC0.out
              have ho2 := OwnF.set1 oneStr ho1 p s HSZ.out
              rw [HST.out] at ho2
              have HO2 := Lib.hid ho2
              have HB2 := Lib.hid (bsetc hb1 hgB (j := p) (.string s))
              clear ho1 ho2 hqd hbd hb1 hgB hkl hpl
              go_upto_region 11 with fail
              obtain ⟨w1, hw1⟩ : ∃ w1, w1 = wd.setCell ⟨g, k, none⟩ (.string x) := ⟨_, rfl⟩
              rw [← hw1] at HO2 HB2 f1 cl2 hy1 ⊢
              clear hw1 cx1 cl1 f0 hy0
              go_wp2_with fail
              go_roundw
              case rel => exact ⟨p, by omega, by go_num, HO2.out, HB2.out, HJ2⟩
              case measure => simp [intOf]; omega
            · have hlt2 : sb x < sb s := (lt_tri _ _ hxne).resolve_right hgt
              have e1 := str_lt hlt2
              have HE := HEND.out (.inr ⟨p, hpw, hp, by rw [← hx]; exact hlt2⟩)
              clear HEND hx hxne hgt hlt2 hpi hpw hkw hxs hp
              go_wp2_with fail
              go_quiet (fail)
              go_wp2_with fail
              go_roundw
              case rel => exact ⟨i + 1, m + 1, _, c3, insAt ws s k, by omega, by omega, by go_num, rfl, OwnF.drewN HQ.out _, bdrewN HBQ.out _, HE.out⟩
              case measure => simp [intOf]; omega
    · obtain rfl : i = n := by omega
      have hw : ws = wordsS l := rise_one HW.out.1 (rise_words l) fun x => by
        rw [HW.out.2, mem_wordsS, HL.out, List.take_length]
      have hml : m = (wordsL l).length := by rw [HM.out, hw, wordsS_len]
      rw [hw, hml] at HO
      have HML := Lib.hid hml
      clear hw hml
      go_wp2_with fail
      go_ret
      exact ⟨A2, c2, by rw [HML.out]; rfl, HO.out, HB.out⟩
end Go.Proofs.YtpmglcachffojaaGreatDoor
namespace Go.Proofs.YtpmglcachffojaaGreatDoor
open Go Go.RowKit
attribute [local go_sem ↓] Go.wp_at_zero Go.wp_at_succ

theorem byte_moreR2 (x : Nat) : (x : Int) % 128 + 128 = ((UInt8.ofNat (x % 128 + 128)).toNat : Int) := by
  rw [UInt8.toNat_ofNat']; omega
/-- []byte{}: a row of its own, empty. -/
theorem OwnB.new0 (w : World) (B : Nat) (hB : B ≤ w.heap.size) : OwnB (w.alloc (.cells #[] 5)) B (some ⟨w.heap.size, 0, none⟩) 0 0 [] := by
  have := World.ownsRow_lit (base := B) (e := 5) (size := 1) w #[] 0 hB (by simp [maxLen]) (by simp)
  simpa [OwnB, bvs] using this

set_option maxRecDepth 100000 in
set_option maxHeartbeats 1000000 in
theorem rvput_any (F : Nat → Prop) (A : Option Addr) (n c : Nat) (bs : List UInt8) (x : Nat) (w : World) (h : Bs F w A n c bs) (hn : n ≤ 4294967200) (hx : x < 18446744073709551616) :
    Calls Tryz.prog 128 #[.slice A n c, .int .u64 (x : Int)] w (Own1 w (bs ++ vput x)) := by
  have HN := Lib.hid h.len
  have HNEW := Lib.hid (OwnB.new0 w w.heap.size (Nat.le_refl _))
  have HB0 := Lib.hid (show Below w.heap.size w (w.alloc (.cells #[] 5)) from (Below.refl _ _).alloc (Nat.le_refl _) _)
  have HSRC := Lib.hid (Sl.alloc h (.cells #[] 5))
  clear h
  go_enter Tryz.func128, Tryz.ntmps128
  go_wp2_with (at_builtin; refine apb (w.alloc (.cells #[] 5)) w rfl (.tmp 6) (.tmp 7) rfl w.heap.size (some ⟨w.heap.size, 0, none⟩) 0 0 [] rfl HNEW.out HB0.out (Nat.le_refl _) F A n c bs rfl HSRC.out (by omega) ?_; intro A1 c1 w1 h1 hb1 _)
  have H1 := Lib.hid h1; have HB1 := Lib.hid hb1
  clear h1 hb1 HNEW HB0 HSRC
  go_loopw [5, 1] (fun v xv wr => ∃ (f x' : Nat) (L : List UInt8) (A2 : Option Addr) (m c2 : Nat), m + f ≤ n + 9 ∧ xv = .int .u64 (x' : Int) ∧ v = .slice A2 m c2 ∧ OwnB wr w.heap.size A2 m c2 L ∧ L ++ vputF f x' = bs ++ vput x ∧ x' < 128 ^ (f + 1) ∧ x' < 18446744073709551616 ∧ Below w.heap.size w wr)
    (fun _ xv _ => (intOf xv).toNat)
  case atStart => exact ⟨9, x, bs, A1, n, c1, by omega, rfl, rfl, by have := H1.out; simpa using this, rfl, by omega, hx, HB1.out⟩
  case round =>
    obtain ⟨f, x', L, A2, m, c2, hm, rfl, rfl, hown, heq, hlt, hlt2, hb⟩ := hrel
    have HE := Lib.hid heq; have HO := Lib.hid hown; have HL := Lib.hid hlt
    clear heq hown hlt
    have hsz := hb.size
    by_cases hx' : x' < 128
    · have HLAST := Lib.hid (byte_last x')
      go_wp2_with (at_builtin; refine apb1 wr w rfl (.tmp 20) (.tmp 23) rfl w.heap.size A2 m c2 L rfl HO.out hb (Nat.le_refl _) _ rfl (UInt8.ofNat x') (by rw [← HLAST.out, IntKind.wrap_u8, show (x' : Int) % 256 = (x' : Int) by omega]) (by omega) ?_; intro A3 c3 w3 h3 hb3 _)
      go_ret
      refine ⟨A3, m + 1, c3, rfl, ?_, hb3⟩
      have hfin : L ++ [UInt8.ofNat x'] = bs ++ vput x := by
        rw [← HE.out]
        cases f <;> simp [vputF, hx']
      rw [← hfin]; exact h3
    · have HM := Lib.hid (byte_moreR2 x')
      go_wp2_with (at_builtin; refine apb1 wr w rfl (.tmp 11) (.tmp 16) rfl w.heap.size A2 m c2 L rfl HO.out hb (Nat.le_refl _) _ rfl (UInt8.ofNat (x' % 128 + 128)) (by rw [← HM.out]) (by omega) ?_; intro A3 c3 w3 h3 hb3 _)
      go_roundw
      case rel =>
        obtain ⟨f, rfl⟩ : ∃ f', f = f' + 1 := by
          cases f with
          | zero => have := HL.out; omega
          | succ f => exact ⟨f, rfl⟩
        have hlt := HL.out
        refine ⟨f, x' / 128, L ++ [UInt8.ofNat (x' % 128 + 128)], A3, m + 1, c3, by omega, by go_num, rfl, h3, ?_, ?_, by omega, hb3⟩
        · rw [← HE.out]
          simp [vputF, hx']
        · rw [Nat.pow_succ] at hlt; exact Nat.div_lt_of_lt_mul (by omega)
      case measure => simp [intOf]; omega

set_option maxRecDepth 100000 in
set_option maxHeartbeats 400000 in
theorem rzig_any (x : Int) (w : World) (h0 : -9223372036854775808 ≤ x) (h1 : x ≤ 9223372036854775807) :
    Calls Tryz.prog 127 #[.int .i64 x] w fun e w' => e = .returned (.int .u64 (zigN x : Nat)) ∧ w = w' := by
  by_cases hx : x < 0
  · go_enter Tryz.func127, Tryz.ntmps127
    go_wp2
    go_ret
    refine ⟨ret_int ?_, rfl⟩
    unfold zigN; split <;> omega
  · go_enter Tryz.func127, Tryz.ntmps127
    go_wp2
    go_ret
    refine ⟨ret_int ?_, rfl⟩
    unfold zigN; split <;> omega
theorem rvput_int (F : Nat → Prop) (A : Option Addr) (n c : Nat) (bs : List UInt8) (x : Int) (w : World) (h : Bs F w A n c bs) (hn : n ≤ 4294967200) (h0 : 0 ≤ x) (hx : x < 18446744073709551616) :
    Calls Tryz.prog 128 #[.slice A n c, .int .u64 x] w (Own1 w (bs ++ vput x.toNat)) := by
  obtain ⟨k, rfl⟩ := Int.eq_ofNat_of_zero_le h0
  rw [Int.toNat_natCast]
  exact rvput_any F A n c bs k w h hn (by omega)

theorem rpi_any (F : Nat → Prop) (A : Option Addr) (n c : Nat) (bs : List UInt8) (x : Int) (sg : Bool) (w : World) (h : Bs F w A n c bs) (hn : n ≤ 4294967200) (h0 : -9223372036854775808 ≤ x) (h1 : x ≤ 9223372036854775807) (hs : sg = true ∨ 0 ≤ x) :
    Calls Tryz.prog 263 #[.slice A n c, .int .i64 x, .bool sg] w (Own1 w (bs ++ vput (uOf sg x))) := by
  have HH := Lib.hid h
  have hu := uOf_lt (sg := sg) h0 h1
  have HU := Lib.hid hu
  clear h hu
  cases sg with
  | true =>
    have HZ := Lib.hid (show zigN x = uOf true x from rfl)
    obtain ⟨v, hv⟩ : ∃ v, v = uOf true x := ⟨_, rfl⟩
    rw [← hv] at HZ HU ⊢
    clear hv hs
    go_enter Tryz.func263, Tryz.ntmps263
    go_wp2_with (first
      | (go_at_call 127; refine (rzig_any x _ h0 h1).mono ?_; rintro e w1 ⟨rfl, rfl⟩; rw [HZ.out])
      | (go_at_call 128; refine (rvput_any F A n c bs v _ HH.out hn HU.out).mono ?_; rintro e w1 ⟨A1, n1, c1, rfl, ho1, hb1⟩; have HO1 := Lib.hid ho1; have HB1 := Lib.hid hb1; clear ho1 hb1)
      | fail)
    go_ret
    exact ⟨A1, n1, c1, rfl, HO1.out, HB1.out⟩
  | false =>
    have hx : 0 ≤ x := hs.resolve_left (by decide)
    obtain ⟨k, rfl⟩ := Int.eq_ofNat_of_zero_le hx
    have hk : uOf false (k : Int) = k := by unfold uOf; simp
    rw [hk] at HU ⊢
    clear hk hs
    go_enter Tryz.func263, Tryz.ntmps263
    go_wp2_with (first
      | (go_at_call 128; refine (rvput_any F A n c bs k _ HH.out hn HU.out).mono ?_; rintro e w1 ⟨A1, n1, c1, rfl, ho1, hb1⟩; have HO1 := Lib.hid ho1; have HB1 := Lib.hid hb1; clear ho1 hb1)
      | fail)
    go_ret
    exact ⟨A1, n1, c1, rfl, HO1.out, HB1.out⟩
theorem rof_any (c : Int) (h0 : 0 ≤ c) (h1 : c ≤ 31) (w : World) : Calls Tryz.prog 220 #[.int .i64 c] w fun e w' => e = .returned (.int .i64 (wOf c)) ∧ w = w' := by
  have k1 : ¬ c < 0 := by omega
  have k2 : ¬ c > 31 := by omega
  have k3 : ¬ 31 < c := by omega
  by_cases h : c < 24
  · have e1 := Lib.hid (show wOf c = c + 1 by unfold wOf; rw [if_neg (by omega), if_pos h])
    go_enter Tryz.func220, Tryz.ntmps220
    go_wp2_with fail
    go_ret
    exact ⟨by rw [e1.out]; rfl, rfl⟩
  · by_cases h2 : c < 28
    · have e1 := Lib.hid (show wOf c = 24 + 2 * (c - 23) by unfold wOf; rw [if_neg (by omega), if_neg h, if_pos h2])
      go_enter Tryz.func220, Tryz.ntmps220
      go_wp2_with fail
      go_ret
      exact ⟨by rw [e1.out]; rfl, rfl⟩
    · have e1 := Lib.hid (show wOf c = 32 + 8 * (c - 27) by unfold wOf; rw [if_neg (by omega), if_neg h, if_neg h2])
      go_enter Tryz.func220, Tryz.ntmps220
      go_wp2_with fail
      go_ret
      exact ⟨by rw [e1.out]; rfl, rfl⟩
set_option maxRecDepth 100000 in
set_option maxHeartbeats 1000000 in
theorem rcode_any (b : Int) (w : World) : Calls Tryz.prog 261 #[.int .i64 b] w fun e w' => e = .returned (.int .i64 (wCode b)) ∧ w = w' := by
  go_enter Tryz.func261, Tryz.ntmps261
  go_wp2_with fail
  go_loopw [3] (fun cv wr => ∃ c : Nat, c ≤ 32 ∧ cv = .int .i64 (c : Int) ∧ Hid (∀ d : Int, 0 ≤ d → d < c → wOf d ≠ b) ∧ w = wr) (fun cv _ => 32 - (intOf cv).toNat)
  case atStart => exact ⟨0, by omega, rfl, Lib.hid (fun d h0 h1 => by omega), rfl⟩
  case round =>
    obtain ⟨c, hc, rfl, HJ, rfl⟩ := hrel
    by_cases hlt : c < 32
    · have q1 : (c : Int) < 32 := by omega
      have q0 : (0 : Int) ≤ (c : Int) := by omega
      obtain ⟨v, hv⟩ : ∃ v, v = wOf (c : Int) := ⟨_, rfl⟩
      have HV := Lib.hid hv
      clear hv
      by_cases he : v = b
      · have HE := Lib.hid (show wCode b = (c : Int) from wCode_iff q0 (by omega) (by rw [← HV.out]; exact he))
        go_wp2_with (first
          | (go_at_call 220; refine (rof_any (c : Int) q0 (by omega) _).mono ?_; rintro e w1 ⟨rfl, rfl⟩; rw [← HV.out])
          | fail)
        go_ret
        exact ⟨by rw [HE.out]; rfl, rfl⟩
      · have HJ2 : Hid (∀ d : Int, 0 ≤ d → d < ((c + 1 : Nat) : Int) → wOf d ≠ b) := Lib.hid (fun d h0 h1 => by
          by_cases hd : d = c
          · subst hd; rw [← HV.out]; exact he
          · exact HJ.out d h0 (by omega))
        go_wp2_with (first
          | (go_at_call 220; refine (rof_any (c : Int) q0 (by omega) _).mono ?_; rintro e w1 ⟨rfl, rfl⟩; rw [← HV.out])
          | fail)
        go_roundw
        case rel => exact ⟨c + 1, by omega, by go_num, HJ2, trivial⟩
        case measure => simp [intOf]; omega
    · obtain rfl : c = 32 := by omega
      have HE := Lib.hid (show wCode b = -1 from wCode_none fun d h0 h1 => HJ.out d h0 (by omega))
      go_wp2_with fail
      go_ret
      exact ⟨by rw [HE.out]; rfl, rfl⟩
set_option maxRecDepth 100000 in
set_option maxHeartbeats 1000000 in
theorem rclose_any (b : Int) (hb : b ≤ 64) (w : World) : Calls Tryz.prog 257 #[.int .i64 b] w fun e w' => e = .returned (.int .i64 (wClose b)) ∧ w = w' := by
  go_enter Tryz.func257, Tryz.ntmps257
  go_wp2_with fail
  go_loopw [3] (fun cv wr => ∃ c : Nat, c ≤ 31 ∧ cv = .int .i64 (c : Int) ∧ Hid (∀ d : Int, 0 ≤ d → d < c → wOf d < b) ∧ w = wr) (fun cv _ => 32 - (intOf cv).toNat)
  case atStart => exact ⟨0, by omega, rfl, Lib.hid (fun d h0 h1 => by omega), rfl⟩
  case round =>
    obtain ⟨c, hc, rfl, HJ, rfl⟩ := hrel
    have q1 : (c : Int) < 32 := by omega
    have q0 : (0 : Int) ≤ (c : Int) := by omega
    obtain ⟨v, hv⟩ : ∃ v, v = wOf (c : Int) := ⟨_, rfl⟩
    have HV := Lib.hid hv
    clear hv
    by_cases he : v ≥ b
    · have he2 : b ≤ v := he
      have HE := Lib.hid (show wClose b = v from by rw [HV.out]; exact wClose_first q0 (by omega) (by rw [← HV.out]; exact he) HJ.out)
      go_wp2_with (first
        | (go_at_call 220; refine (rof_any (c : Int) q0 (by omega) _).mono ?_; rintro e w1 ⟨rfl, rfl⟩; rw [← HV.out])
        | fail)
      go_ret
      exact ⟨by rw [HE.out]; rfl, rfl⟩
    · have he2 : ¬ b ≤ v := he
      have hc31 : c < 31 := by
        rcases Nat.lt_or_ge c 31 with h | h
        · exact h
        · exfalso
          have : c = 31 := by omega
          subst this
          have h64 := HV.out
          rw [show wOf ((31 : Nat) : Int) = 64 by decide] at h64
          omega
      have HJ2 : Hid (∀ d : Int, 0 ≤ d → d < ((c + 1 : Nat) : Int) → wOf d < b) := Lib.hid (fun d h0 h1 => by
        by_cases hd : d = c
        · subst hd; rw [← HV.out]; omega
        · exact HJ.out d h0 (by omega))
      go_wp2_with (first
        | (go_at_call 220; refine (rof_any (c : Int) q0 (by omega) _).mono ?_; rintro e w1 ⟨rfl, rfl⟩; rw [← HV.out])
        | fail)
      go_roundw
      case rel => exact ⟨c + 1, by omega, by go_num, HJ2, trivial⟩
      case measure => simp [intOf]; omega
set_option maxRecDepth 100000 in
set_option maxHeartbeats 1000000 in
theorem rbits_any (x : Nat) (hx : U64 x) (w : World) : Calls Tryz.prog 256 #[.int .u64 (x : Int)] w fun e w' => e = .returned (.int .i64 ((bl x : Nat) : Int)) ∧ w = w' := by
  have HX := Lib.hid hx
  go_enter Tryz.func256, Tryz.ntmps256
  go_wp2_with fail
  go_loopw [0, 3] (fun xv nv wr => ∃ (y k : Nat), xv = .int .u64 (y : Int) ∧ nv = .int .i64 (k : Int) ∧ k + bl y = bl x ∧ y ≤ x ∧ w = wr) (fun xv _ _ => (intOf xv).toNat)
  case atStart => exact ⟨x, 0, rfl, rfl, by omega, Nat.le_refl _, rfl⟩
  case round =>
    obtain ⟨y, k, rfl, rfl, hk, hy, rfl⟩ := hrel
    have hxx := HX.out
    have h64 := bl_le64 hxx
    by_cases h0 : y = 0
    · subst h0
      have hk2 : k = bl x := by rw [bl_zero] at hk; omega
      have HK := Lib.hid hk2
      clear hk hk2 h64 hxx
      go_wp2_with fail
      go_ret
      exact ⟨by rw [HK.out]; rfl, rfl⟩
    · have hU : U64 y := Nat.lt_of_le_of_lt hy hxx
      have hh := bl_half hU h0
      have HK := Lib.hid (show (k + 1) + bl (y / 2) = bl x by omega)
      have q0 : (0 : Int) < (y : Int) := by omega
      have q1 : (y : Int) > 0 := by omega
      have q2 : (y : Int) ≤ 18446744073709551615 := by have : y < 18446744073709551616 := hU; omega
      have q3 : (k : Int) ≤ 64 := by omega
      clear hk hh h64 hxx
      go_wp2_with fail
      go_roundw
      case rel => exact ⟨y / 2, k + 1, by go_num, by go_num, HK.out, by omega, trivial⟩
      case measure => simp [intOf]; omega
set_option maxRecDepth 100000 in
set_option maxHeartbeats 1000000 in
theorem rmost_any (F : Nat → Prop) (A : Option Addr) (n c : Nat) (l : List Nat) (w : World) (h : Sl tU64 F w A n c l) : Calls Tryz.prog 258 #[.slice A n c] w fun e w' => e = .returned (.int .i64 ((most l : Nat) : Int)) ∧ w = w' := by
  have HH := Lib.hid h
  have hu : ∀ x ∈ l, U64 x := by
    intro x hx
    obtain ⟨k, hk, rfl⟩ := List.getElem_of_mem hx
    obtain ⟨_, _, _, _, _, _, hr, _⟩ := h.at1 hk rfl
    exact hr.2
  have HU := Lib.hid hu
  have hn := h.len
  have HL := Lib.hid hn
  have hmax : n ≤ 9223372036854775807 := by have h2 := h.2.1; have h3 := h.2.2.1; unfold maxLen at h3; omega
  clear h hu hn
  go_enter Tryz.func258, Tryz.ntmps258
  go_wp2_with fail
  go_loopw [3, 4] (fun av kv wr => ∃ k : Nat, k ≤ n ∧ kv = .int .i64 (k : Int) ∧ av = .int .i64 ((most (l.take k) : Nat) : Int) ∧ w = wr)
    (fun _ kv _ => n - (intOf kv).toNat)
  case atStart => exact ⟨0, Nat.zero_le _, rfl, rfl, rfl⟩
  case round =>
    obtain ⟨k, hk, rfl, rfl, rfl⟩ := hrel
    by_cases hlt : k < n
    · have hkl : k < l.length := by rw [← HL.out]; exact hlt
      obtain ⟨v, hv⟩ : ∃ v, v = l[k] := ⟨_, rfl⟩
      obtain ⟨b, o, u, rfl, _, hbl, hr, hc⟩ := HH.out.at1 hkl rfl
      have hvu := HU.out _ (List.getElem_mem hkl)
      rw [← hv] at hvu
      have hr : [u] = [Value.int .u64 ((l[k] : Nat) : Int)] := hr.1
      injection hr with hr; subst hr
      rw [← hv] at hc
      obtain ⟨m, hm⟩ : ∃ m, m = most (l.take k) := ⟨_, rfl⟩
      obtain ⟨m2, hm2⟩ : ∃ m2, m2 = bl v := ⟨_, rfl⟩
      have HE := Lib.hid (show most (l.take (k + 1)) = max m m2 by rw [List.take_succ_eq_append_getElem hkl, most_snoc, ← hv, hm, hm2])
      have HM2 := Lib.hid hm2; have HVU := Lib.hid hvu
      rw [← hm]
      have q0 : (0 : Int) ≤ (k : Int) := by omega
      have q1 : (k : Int) < (n : Int) := by omega
      clear hv hm hm2 hvu
      go_wp2_with (first
        | (go_at_call 256; refine (rbits_any v HVU.out _).mono ?_; rintro e w1 ⟨rfl, rfl⟩; rw [← HM2.out])
        | fail)
      go_roundw
      case rel => exact ⟨k + 1, by omega, by go_num, by rw [HE.out]; go_num, trivial⟩
      case measure => simp [intOf]; omega
    · obtain rfl : k = n := by omega
      have HE := Lib.hid (show l.take k = l from List.take_of_length_le (by rw [← HL.out]; exact Nat.le_refl _))
      go_wp2_with fail
      go_ret
      exact ⟨by rw [HE.out]; rfl, rfl⟩
end Go.Proofs.YtpmglcachffojaaGreatDoor
namespace Go.Proofs.YtpmglcachffojaaGreatDoor
open Go Go.RowKit

theorem r7plain_any (sg : Bool) (x : Int) (h0 : -9223372036854775808 ≤ x) (h1 : x ≤ 9223372036854775807) (hs : sg = true ∨ 0 ≤ x) (w : World) :
    Calls Tryz.prog 255 #[.int .i64 x, .bool sg] w fun e w' => e = .returned (.tuple #[.int .u64 ((uOf sg x : Nat) : Int), .bool true]) ∧ w = w' := by
  cases sg with
  | true =>
    have HZ := Lib.hid (show zigN x = uOf true x from rfl)
    go_enter Tryz.func255, Tryz.ntmps255
    go_wp2_with (first
      | (go_at_call 127; refine (rzig_any x _ h0 h1).mono ?_; rintro e w1 ⟨rfl, rfl⟩; rw [HZ.out])
      | fail)
    go_ret2
    exact ⟨rfl, rfl⟩
  | false =>
    have hx : 0 ≤ x := hs.resolve_left (by decide)
    obtain ⟨k, rfl⟩ := Int.eq_ofNat_of_zero_le hx
    have hk : uOf false (k : Int) = k := by unfold uOf; simp
    have HK := Lib.hid hk
    have hm : max (k : Int) 0 = (k : Int) := by omega
    have q : (k : Int) ≥ 0 := hx
    have q2 : (k : Int) < 18446744073709551616 := by omega
    clear hk hs
    go_enter Tryz.func255, Tryz.ntmps255
    go_wp2_with fail
    go_ret2
    exact ⟨by rw [HK.out]; rfl, rfl⟩
set_option maxRecDepth 100000 in
set_option maxHeartbeats 1000000 in
theorem r7put_any (sg : Bool) (x : Int) (h0 : -9223372036854775808 ≤ x) (h1 : x ≤ 9223372036854775807) (hs : sg = true ∨ 0 ≤ x) (t : Nat) (ht : t ≤ 512) (w : World) :
    Calls Tryz.prog 215 #[.int .i64 x, .int .i64 (t : Int), .bool sg] w (RunPost (if 3 ≤ t ∧ t ≤ 10 then some (repB (uOf sg x) t) else none) w) := by
  have hu := uOf_lt (sg := sg) h0 h1
  obtain ⟨u, hue⟩ : ∃ u, u = uOf sg x := ⟨_, rfl⟩
  have HPL := Lib.hid (r7plain_any sg x h0 h1 hs)
  rw [← hue] at hu HPL ⊢
  have HU := Lib.hid hu
  clear hue hs hu
  by_cases hc : 3 ≤ t ∧ t ≤ 10
  · rw [if_pos hc]
    have z1 : ¬ (t : Int) < 3 := by omega
    have z2 : ¬ (t : Int) > 10 := by omega
    have z3 : ¬ (10 : Int) < (t : Int) := by omega
    have hl := long_le HU.out
    obtain ⟨n, hn⟩ : ∃ n, n + 1 = long u := ⟨long u - 1, by omega⟩
    have HN := Lib.hid hn
    rw [← hn] at hl
    obtain ⟨b, hb⟩ : ∃ b, b = bl u := ⟨_, rfl⟩
    have hb64 := bl_le64 HU.out
    rw [← hb] at hb64
    have HB := Lib.hid hb
    have zm : max 1 (((b : Int) + 7) / 8) = (n : Int) + 1 := by
      unfold long at hn
      rw [← hb] at hn
      omega
    obtain ⟨y, hy⟩ : ∃ y : UInt8, y = UInt8.ofNat (8 * n + t - 3) := ⟨_, rfl⟩
    have HY := Lib.hid (show 8 * (n : Int) + (t : Int) - 3 = ((y.toNat : Nat) : Int) by
      rw [hy, UInt8.toNat_ofNat']; omega)
    have HYB := Lib.hid (show repB u t = [y] ++ be (n + 1) u by rw [repB, ← HN.out, hy]; simp)
    have HO1 : Hid (OwnB (w.alloc (.cells #[.int .u8 ((y.toNat : Nat) : Int)] 5)) w.heap.size (some ⟨w.heap.size, 0, none⟩) 1 1 [y]) := Lib.hid (World.ownsRow_lit w #[.int .u8 ((y.toNat : Nat) : Int)] 1 (Nat.le_refl _) (by simp [maxLen]) rfl)
    have HB1 : Hid (Below w.heap.size w (w.alloc (.cells #[.int .u8 ((y.toNat : Nat) : Int)] 5))) := Lib.hid ((Below.refl _ _).alloc (Nat.le_refl _) _)
    clear hn hy hb hc
    go_enter Tryz.func215, Tryz.ntmps215
    go_wp2_with (first
      | (go_at_call 255; refine (HPL.out _).mono ?_; rintro e w1 ⟨rfl, rfl⟩)
      | (go_at_call 256; refine (rbits_any u HU.out _).mono ?_; rintro e w1 ⟨rfl, rfl⟩; rw [← HB.out])
      | fail)
    rw [HY.out]
    go_loopw [11, 12] (fun av iv wr => ∃ (j : Nat) (z : Int) (A2 : Option Addr) (c2 : Nat), j ≤ n + 1 ∧ z = (j : Int) - 1 ∧ iv = .int .i64 z ∧ av = .slice A2 (1 + (n + 1 - j)) c2 ∧ OwnB wr w.heap.size A2 (1 + (n + 1 - j)) c2 ([y] ++ (be (n + 1) u).take (n + 1 - j)) ∧ Below w.heap.size w wr)
      (fun _ iv _ => (intOf iv + 1).toNat)
    case atStart => exact ⟨n + 1, (n : Int), some ⟨w.heap.size, 0, none⟩, 1, Nat.le_refl _, by omega, by first | rfl | go_num, by simp, by rw [Nat.sub_self, Nat.add_zero, List.take_zero, List.append_nil]; exact HO1.out, HB1.out⟩
    case round =>
      obtain ⟨j, z, A2, c2, hj, hz, rfl, rfl, ho, hbb⟩ := hrel
      have HO := Lib.hid ho; have HBB := Lib.hid hbb
      clear ho hbb
      cases j with
      | zero =>
        have z1 : ¬ 0 ≤ z := by omega
        have z4 : ¬ z ≥ 0 := z1
        clear hz
        go_wp2_with fail
        go_ret2
        exact ⟨HBB.out, A2, _, c2, rfl, by rw [HYB.out]; have := HO.out; rw [Nat.sub_zero, List.take_of_length_le (by rw [be_len]; exact Nat.le_refl _)] at this; exact this⟩
      | succ i =>
        obtain rfl : z = (i : Int) := by omega
        have z0 : (0 : Int) ≤ (i : Int) := by omega
        clear hz
        obtain ⟨p, hp⟩ : ∃ p, n + 1 - (i + 1) = p := ⟨_, rfl⟩
        obtain ⟨v, hy⟩ : ∃ v : UInt8, v = UInt8.ofNat (u / 256 ^ i) := ⟨_, rfl⟩
        have hyn : ((v.toNat : Nat) : Int) = ((u / 2 ^ (8 * i) % 256 : Nat) : Int) := by rw [hy, UInt8.toNat_ofNat', byte_pow]
        have f1 : IntKind.u8.wrap ((u : Int) / 2 ^ (8 * i)) = ((v.toNat : Nat) : Int) := by
          rw [hyn, IntKind.wrap_u8, show (u : Int) / 2 ^ (8 * i) = ((u / 2 ^ (8 * i) : Nat) : Int) by simp]
          omega
        have f2 : (u : Int) / 2 ^ (8 * i) % 256 = ((v.toNat : Nat) : Int) := by
          rw [hyn, show (u : Int) / 2 ^ (8 * i) = ((u / 2 ^ (8 * i) : Nat) : Int) by simp]
          omega
        have HT := Lib.hid (show (be (n + 1) u).take (p + 1) = (be (n + 1) u).take p ++ [v] by rw [be_take (n + 1) u p (by omega), hy, show n + 1 - 1 - p = i by omega])
        rw [hp] at HO
        have HP := Lib.hid hp
        rw [hp]
        have hp8 : p ≤ 8 := by omega
        clear hp hy hyn
        go_wp2_with (first
          | (at_builtin; refine apb1 wr w rfl (.tmp 48) (.tmp 54) rfl w.heap.size A2 (1 + p) c2 ([y] ++ (be (n + 1) u).take p) rfl HO.out HBB.out (Nat.le_refl _) _ rfl v rfl (by omega) ?_; intro A3 c3 w3 h3 hb3 _)
          | fail)
        go_roundw
        case rel => exact ⟨i, (i : Int) - 1, A3, c3, by omega, rfl, by first | rfl | go_num, by rw [show n + 1 - i = p + 1 by have := HP.out; omega]; rfl, by rw [show n + 1 - i = p + 1 by have := HP.out; omega, HT.out, ← List.append_assoc]; exact h3, hb3⟩
        case measure => simp [intOf]
  · rw [if_neg hc]
    by_cases z1 : (t : Int) < 3
    · clear hc
      go_enter Tryz.func215, Tryz.ntmps215
      go_wp2_with (first
        | (go_at_call 255; refine (HPL.out _).mono ?_; rintro e w1 ⟨rfl, rfl⟩)
        | fail)
      go_ret2
      exact ⟨Below.refl _ _, rfl⟩
    · have z2 : (t : Int) > 10 := by omega
      have z3 : (10 : Int) < (t : Int) := by omega
      clear hc
      go_enter Tryz.func215, Tryz.ntmps215
      go_wp2_with (first
        | (go_at_call 255; refine (HPL.out _).mono ?_; rintro e w1 ⟨rfl, rfl⟩)
        | fail)
      go_ret2
      exact ⟨Below.refl _ _, rfl⟩
theorem rhead_any (k c m : Nat) (hk : k ≤ 3) (hc : c ≤ 31) (hm : 1 ≤ m) (hm2 : m ≤ 512) (w : World) :
    Calls Tryz.prog 260 #[.int .i64 (k : Int), .int .i64 (c : Int), .int .i64 (m : Int)] w (Own1 w (headB k c m)) := by
  obtain ⟨x, hx⟩ : ∃ x, x = 16384 * k + 512 * c + m - 1 := ⟨_, rfl⟩
  have F := Lib.hid (show 16384 * (k : Int) + 512 * (c : Int) + (m : Int) - 1 = (x : Int) by omega)
  obtain ⟨y, hy⟩ : ∃ y : UInt8, y = UInt8.ofNat (x / 256) := ⟨_, rfl⟩
  obtain ⟨z, hz⟩ : ∃ z : UInt8, z = UInt8.ofNat x := ⟨_, rfl⟩
  have HY := Lib.hid (show (x : Int) / 256 = ((y.toNat : Nat) : Int) by rw [hy, UInt8.toNat_ofNat']; omega)
  have HZ := Lib.hid (show (x : Int) % 256 = ((z.toNat : Nat) : Int) by rw [hz, UInt8.toNat_ofNat']; omega)
  have HB := Lib.hid (show headB k c m = [y, z] by rw [headB, hy, hz, hx])
  have q1 : ¬ (k : Int) < 0 := by omega
  have q2 : ¬ (k : Int) > 3 := by omega
  have q2' : ¬ (3 : Int) < k := by omega
  have q3 : ¬ (c : Int) < 0 := by omega
  have q4 : ¬ (c : Int) > 31 := by omega
  have q4' : ¬ (31 : Int) < c := by omega
  have q5 : ¬ (m : Int) < 1 := by omega
  have q6 : ¬ (m : Int) > 512 := by omega
  have q6' : ¬ (512 : Int) < m := by omega
  clear hx hy hz
  go_enter Tryz.func260, Tryz.ntmps260
  go_wp2_with fail
  rw [F.out, HY.out, HZ.out]
  go_ret
  exact ⟨_, 2, 2, rfl, by rw [HB.out]; exact World.ownsRow_lit w #[.int .u8 ((y.toNat : Nat) : Int), .int .u8 ((z.toNat : Nat) : Int)] 2 (Nat.le_refl _) (by simp [maxLen]) rfl, (Below.refl _ _).alloc (Nat.le_refl _) _⟩
end Go.Proofs.YtpmglcachffojaaGreatDoor
