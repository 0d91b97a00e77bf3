/- Which directories are chosen: the greatest Base, then Deltas, each the first behind the one before. Plain Lean; no program in sight. -/
import Derived.Test.YtollmolchcnpeaaGreatDoorNP
namespace Go.Proofs.YtollmolchcnpeaaGreatDoor

/-- One of the directories, of a kind, that may be and ends in time. -/
def El (l : List DD) (k most : Int) (x : DD) : Prop := x ∈ l ∧ x.kind = k ∧ may x = true ∧ x.hi ≤ most
/-- x stands ahead of y, or beside it. -/
def Fore (x y : DD) : Prop := x.lo < y.lo ∨ x.lo = y.lo ∧ y.hi ≤ x.hi
/-- The Deltas that are chosen behind n. -/
def IsGrow (S : DD → Prop) : Int → List DD → Prop
  | n, [] => ∀ x, S x → x.lo ≤ n
  | n, d :: r => S d ∧ n < d.lo ∧ (∀ x, S x → n < x.lo → Fore d x) ∧ IsGrow S d.hi r
def IsBase (S : DD → Prop) : List DD → Prop
  | [] => ∀ x, ¬ S x
  | [b] => S b ∧ ∀ x, S x → x.hi ≤ b.hi
  | _ => False
def lastOf (b : List DD) : Int := match b with | [] => 0 | d :: _ => d.hi
/-- What is chosen: a Base, if there is one; Deltas. -/
def Chosen (l : List DD) (most : Int) (c : List DD) : Prop := ∃ b g, c = b ++ g ∧ IsBase (El l 1 most) b ∧ IsGrow (El l 2 most) (lastOf b) g

theorem fore_eq {x y : DD} (h1 : Fore x y) (h2 : Fore y x) (hk : x.kind = y.kind) : x = y := by
  obtain ⟨xk, xl, xh⟩ := x
  obtain ⟨yk, yl, yh⟩ := y
  unfold Fore at h1 h2
  simp only at h1 h2 hk
  obtain rfl := hk
  obtain rfl : xl = yl := by omega
  obtain rfl : xh = yh := by omega
  rfl
theorem grow_one {S : DD → Prop} {k : Int} (hk : ∀ x, S x → x.kind = k) : ∀ (g g' : List DD) (n : Int), IsGrow S n g → IsGrow S n g' → g = g'
  | [], [], _, _, _ => rfl
  | [], d :: r, n, h, h' => by
    have := h d h'.1
    have := h'.2.1
    omega
  | d :: r, [], n, h, h' => by
    have := h' d h.1
    have := h.2.1
    omega
  | d :: r, d' :: r', n, h, h' => by
    obtain rfl := fore_eq (h.2.2.1 d' h'.1 h'.2.1) (h'.2.2.1 d h.1 h.2.1) ((hk _ h.1).trans (hk _ h'.1).symm)
    rw [grow_one hk r r' d.hi h.2.2.2 h'.2.2.2]
theorem base_one {l : List DD} {most : Int} : ∀ (b b' : List DD), IsBase (El l 1 most) b → IsBase (El l 1 most) b' → b = b'
  | [], [], _, _ => rfl
  | [], [x], h, h' => absurd h'.1 (h x)
  | [x], [], h, h' => absurd h.1 (h' x)
  | [x], [y], h, h' => by
    have h1 := h.2 y h'.1
    have h2 := h'.2 x h.1
    have hx := (may_iff x).1 h.1.2.2.1
    have hy := (may_iff y).1 h'.1.2.2.1
    have hkx := h.1.2.1
    have hky := h'.1.2.1
    obtain ⟨xk, xl, xh⟩ := x
    obtain ⟨yk, yl, yh⟩ := y
    simp only at h1 h2 hx hy hkx hky
    obtain rfl : xk = yk := by omega
    obtain rfl : xl = yl := by omega
    obtain rfl : xh = yh := by omega
    rfl
  | _ :: _ :: _, _, h, _ => h.elim
  | _, _ :: _ :: _, _, h => by
    revert h; unfold IsBase; intro h; exact h.elim
theorem chosen_one {l : List DD} {most : Int} {c c' : List DD} (h : Chosen l most c) (h' : Chosen l most c') : c = c' := by
  obtain ⟨b, g, rfl, h1, h2⟩ := h
  obtain ⟨b', g', rfl, h3, h4⟩ := h'
  obtain rfl := base_one b b' h1 h3
  rw [grow_one (k := 2) (fun x hx => hx.2.1) g g' _ h2 h4]

/-! the program's way: the sorted Deltas gone through once -/
def pick : Int → List DD → List DD
  | _, [] => []
  | n, d :: r => if n < d.lo then d :: pick d.hi r else pick n r
theorem grow_more {S S' : DD → Prop} {d : DD} (hS : ∀ x, S' x → S x ∨ x = d) (hS' : ∀ x, S x → S' x) (hb : ∀ x, S x → x.lo ≤ x.hi) : ∀ (g : List DD) (n : Int), d.lo ≤ n → IsGrow S n g → IsGrow S' n g
  | [], n, hn, h => fun x hx => by
    rcases hS x hx with h1 | rfl
    · exact h x h1
    · exact hn
  | e :: r, n, hn, h => by
    refine ⟨hS' e h.1, h.2.1, fun x hx hlo => ?_, grow_more hS hS' hb r e.hi (by have := hb e h.1; have := h.2.1; omega) h.2.2.2⟩
    rcases hS x hx with h1 | rfl
    · exact h.2.2.1 x h1 hlo
    · omega
theorem pick_grow : ∀ (L : List DD) (n : Int), L.Pairwise Fore → (∀ x ∈ L, x.lo ≤ x.hi) → IsGrow (fun x => x ∈ L) n (pick n L)
  | [], n, _, _ => fun x hx => by simp at hx
  | d :: r, n, hs, hb => by
    rw [List.pairwise_cons] at hs
    have hbr : ∀ x ∈ r, x.lo ≤ x.hi := fun x hx => hb x (by simp [hx])
    rw [pick]
    by_cases h : n < d.lo
    · rw [if_pos h]
      refine ⟨by simp, h, fun x hx _ => ?_, ?_⟩
      · rcases List.mem_cons.1 hx with rfl | hx
        · exact .inr ⟨rfl, Int.le_refl _⟩
        · exact hs.1 x hx
      · exact grow_more (d := d) (fun x hx => by rcases List.mem_cons.1 hx with h | h; exact .inr h; exact .inl h) (fun x hx => by simp [hx]) hbr _ _ (hb d (by simp)) (pick_grow r d.hi hs.2 hbr)
    · rw [if_neg h]
      exact grow_more (d := d) (fun x hx => by rcases List.mem_cons.1 hx with h | h; exact .inr h; exact .inl h) (fun x hx => by simp [hx]) hbr _ _ (by omega) (pick_grow r n hs.2 hbr)
theorem grow_congr {S S' : DD → Prop} (h : ∀ x, S x ↔ S' x) : ∀ (g : List DD) (n : Int), IsGrow S n g → IsGrow S' n g
  | [], _, hg => fun x hx => hg x ((h x).2 hx)
  | d :: r, _, hg => ⟨(h d).1 hg.1, hg.2.1, fun x hx => hg.2.2.1 x ((h x).2 hx), grow_congr h r _ hg.2.2.2⟩
theorem pick_snoc (n : Int) : ∀ (A B : List DD), pick n (A ++ B) = pick n A ++ pick (match (pick n A).getLast? with | some d => d.hi | none => n) B
  | [], B => rfl
  | d :: r, B => by
    rw [List.cons_append, pick, pick]
    by_cases h : n < d.lo
    · rw [if_pos h, if_pos h, pick_snoc d.hi r B, List.cons_append]
      congr 2
      cases hl : (pick d.hi r).getLast? with
      | none => rw [List.getLast?_eq_none_iff] at hl; rw [hl]; rfl
      | some e =>
        have : (d :: pick d.hi r).getLast? = some e := by rw [List.getLast?_cons, hl]; rfl
        rw [this]
    · rw [if_neg h, if_neg h, pick_snoc n r B]

/-! the reference's way: the best one behind n, again and again -/
/-- The list chosen so far: whatever is chosen behind n makes it whole. -/
def Sofar (S : DD → Prop) (n0 : Int) (g : List DD) (n : Int) : Prop := ∀ r, IsGrow S n r → IsGrow S n0 (g ++ r)
theorem sofar_nil (S : DD → Prop) (n : Int) : Sofar S n [] n := fun _ h => h
theorem sofar_snoc {S : DD → Prop} {n0 n : Int} {g : List DD} {d : DD} (h : Sofar S n0 g n) (h1 : S d) (h2 : n < d.lo) (h3 : ∀ x, S x → n < x.lo → Fore d x) : Sofar S n0 (g ++ [d]) d.hi := fun r hr => by
  rw [List.append_assoc]
  exact h _ ⟨h1, h2, h3, hr⟩
theorem sofar_end {S : DD → Prop} {n0 n : Int} {g : List DD} (h : Sofar S n0 g n) (h1 : ∀ x, S x → x.lo ≤ n) : IsGrow S n0 g := by
  have := h [] h1
  rwa [List.append_nil] at this
/-- The best of the first ones. -/
def Best (l : List DD) (most n : Int) (j : Nat) (b : DD) : Prop :=
  (b = DD.zero ∧ ∀ x, El (l.take j) 2 most x → x.lo ≤ n) ∨ (El (l.take j) 2 most b ∧ n < b.lo ∧ ∀ x, El (l.take j) 2 most x → n < x.lo → Fore b x)
theorem el_take {l : List DD} {k most : Int} {j : Nat} (hj : j < l.length) {x : DD} : El (l.take (j + 1)) k most x ↔ El (l.take j) k most x ∨ (x = l[j] ∧ l[j].kind = k ∧ may l[j] = true ∧ l[j].hi ≤ most) := by
  unfold El
  rw [List.take_succ_eq_append_getElem hj, List.mem_append, List.mem_singleton]
  constructor
  · rintro ⟨h1 | rfl, h2⟩
    · exact .inl ⟨h1, h2⟩
    · exact .inr ⟨rfl, h2⟩
  · rintro (⟨h1, h2⟩ | ⟨rfl, h2⟩)
    · exact ⟨.inl h1, h2⟩
    · exact ⟨.inr rfl, h2⟩
theorem best_zero (l : List DD) (most n : Int) : Best l most n 0 DD.zero := .inl ⟨rfl, fun x hx => by simp [El] at hx⟩
theorem best_pass {l : List DD} {most n : Int} {j : Nat} {b : DD} (hj : j < l.length) (h : Best l most n j b) (hno : ¬ (l[j].kind = 2 ∧ may l[j] = true ∧ l[j].hi ≤ most ∧ n < l[j].lo)) : Best l most n (j + 1) b := by
  rcases h with ⟨h1, h2⟩ | ⟨h1, h2, h3⟩
  · refine .inl ⟨h1, fun x hx => ?_⟩
    rcases (el_take hj).1 hx with hx | ⟨rfl, hk, hm, hh⟩
    · exact h2 x hx
    · by_cases hlt : n < l[j].lo
      · exact absurd ⟨hk, hm, hh, hlt⟩ hno
      · omega
  · refine .inr ⟨(el_take hj).2 (.inl h1), h2, fun x hx hlt => ?_⟩
    rcases (el_take hj).1 hx with hx | ⟨rfl, hk, hm, hh⟩
    · exact h3 x hx hlt
    · exact absurd ⟨hk, hm, hh, hlt⟩ hno
theorem best_kind {l : List DD} {most n : Int} {j : Nat} {b : DD} (h : Best l most n j b) : b.kind = 0 ∧ b = DD.zero ∧ (∀ x, El (l.take j) 2 most x → x.lo ≤ n) ∨ b.kind = 2 ∧ El (l.take j) 2 most b ∧ n < b.lo ∧ ∀ x, El (l.take j) 2 most x → n < x.lo → Fore b x := by
  rcases h with ⟨rfl, h2⟩ | ⟨h1, h2, h3⟩
  · exact .inl ⟨rfl, rfl, h2⟩
  · exact .inr ⟨h1.2.1, h1, h2, h3⟩
theorem best_take {l : List DD} {most n : Int} {j : Nat} {b : DD} (hj : j < l.length) (h : Best l most n j b) (hk : l[j].kind = 2) (hm : may l[j] = true) (hh : l[j].hi ≤ most) (hn : n < l[j].lo)
    (hc : b.kind = 0 ∨ l[j].lo < b.lo ∨ l[j].lo = b.lo ∧ b.hi < l[j].hi) : Best l most n (j + 1) l[j] := by
  refine .inr ⟨(el_take hj).2 (.inr ⟨rfl, hk, hm, hh⟩), hn, fun x hx hlt => ?_⟩
  rcases (el_take hj).1 hx with hx | ⟨rfl, _⟩
  · rcases best_kind h with ⟨_, _, h2⟩ | ⟨h0, _, _, h3⟩
    · have := h2 x hx; omega
    · have := h3 x hx hlt
      unfold Fore at this ⊢
      rcases hc with hc | hc
      · omega
      · omega
  · exact .inr ⟨rfl, Int.le_refl _⟩
theorem best_keep {l : List DD} {most n : Int} {j : Nat} {b : DD} (hj : j < l.length) (h : Best l most n j b) (hc : ¬ (b.kind = 0 ∨ l[j].lo < b.lo ∨ l[j].lo = b.lo ∧ b.hi < l[j].hi)) : Best l most n (j + 1) b := by
  rcases best_kind h with ⟨h0, _, _⟩ | ⟨_, h1, h2, h3⟩
  · exact absurd (.inl h0) hc
  · refine .inr ⟨(el_take hj).2 (.inl h1), h2, fun x hx hlt => ?_⟩
    rcases (el_take hj).1 hx with hx | ⟨rfl, _⟩
    · exact h3 x hx hlt
    · unfold Fore; omega
/-- The base among the first ones. -/
def BaseTo (l : List DD) (most : Int) (j : Nat) (b : List DD) : Prop := IsBase (El (l.take j) 1 most) b
theorem base_zero (l : List DD) (most : Int) : BaseTo l most 0 [] := fun x hx => by simp [El] at hx
theorem base_pass {l : List DD} {most : Int} {j : Nat} {b : List DD} (hj : j < l.length) (h : BaseTo l most j b) (hno : ¬ (l[j].kind = 1 ∧ may l[j] = true ∧ l[j].hi ≤ most)) : BaseTo l most (j + 1) b := by
  have e : ∀ x, El (l.take (j + 1)) 1 most x → El (l.take j) 1 most x := fun x hx => by
    rcases (el_take hj).1 hx with hx | ⟨rfl, h2⟩
    · exact hx
    · exact absurd h2 hno
  unfold BaseTo at *
  match b, h with
  | [], h => exact fun x hx => h x (e x hx)
  | [d], h => exact ⟨(el_take hj).2 (.inl h.1), fun x hx => h.2 x (e x hx)⟩
theorem base_take {l : List DD} {most : Int} {j : Nat} {b : List DD} (hj : j < l.length) (h : BaseTo l most j b) (hk : l[j].kind = 1) (hm : may l[j] = true) (hh : l[j].hi ≤ most) (hc : b = [] ∨ ∃ d, b = [d] ∧ d.hi < l[j].hi) : BaseTo l most (j + 1) [l[j]] := by
  refine ⟨(el_take hj).2 (.inr ⟨rfl, hk, hm, hh⟩), fun x hx => ?_⟩
  rcases (el_take hj).1 hx with hx | ⟨rfl, _⟩
  · rcases hc with rfl | ⟨d, rfl, hd⟩
    · exact absurd hx (h x)
    · have := h.2 x hx; omega
  · exact Int.le_refl _
theorem base_keep {l : List DD} {most : Int} {j : Nat} {d : DD} (hj : j < l.length) (h : BaseTo l most j [d]) (hc : ¬ d.hi < l[j].hi) : BaseTo l most (j + 1) [d] := by
  refine ⟨(el_take hj).2 (.inl h.1), fun x hx => ?_⟩
  rcases (el_take hj).1 hx with hx | ⟨rfl, _⟩
  · exact h.2 x hx
  · omega
theorem base_short {l : List DD} {most : Int} {j : Nat} {b : List DD} (h : BaseTo l most j b) : b = [] ∨ ∃ d, b = [d] ∧ d.kind = 1 ∧ may d = true := by
  unfold BaseTo at h
  match b, h with
  | [], _ => exact .inl rfl
  | [d], h => exact .inr ⟨d, rfl, h.1.2.1, h.1.2.2.1⟩

/-! what the law asks of the chosen -/
theorem grow_mem {S : DD → Prop} : ∀ (g : List DD) (n : Int), IsGrow S n g → ∀ x ∈ g, S x
  | [], _, _ => by simp
  | d :: r, _, h => fun x hx => by
    rcases List.mem_cons.1 hx with rfl | hx
    · exact h.1
    · exact grow_mem r _ h.2.2.2 x hx
end Go.Proofs.YtollmolchcnpeaaGreatDoor
