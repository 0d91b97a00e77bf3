/- Taking by definition (digits, then put again and held against the bytes) takes what the program takes. Plain Lean; no program in sight. -/
import Derived.Test.YtojenpjafgfpaaaGreatDoorBackP
namespace Go.Proofs.YtojenpjafgfpaaaGreatDoor
open Go Go.RowKit

theorem vtk_some : ∀ (f i x0 : Nat) (b : List UInt8) (v : Nat) (r : List UInt8), i + f = 9 → vtk (f + 1) i x0 b = some (v, r) → ∃ y, b = vputF f y ++ r ∧ v = x0 + y * 128 ^ i ∧ y < 2 * 128 ^ f ∧ (0 < i → 1 ≤ y)
  | _, _, _, [], _, _, _, h => by simp [vtk] at h
  | f, i, x0, c :: t, v, r, hi, h => by
    have hc := c.toNat_lt
    unfold vtk at h
    by_cases h1 : 128 ≤ c.toNat
    · rw [if_pos h1] at h
      cases f with
      | zero => simp [vtk] at h
      | succ f =>
        obtain ⟨y, e1, e2, e3, e4⟩ := vtk_some f (i + 1) _ t v r (by omega) h
        have hy := e4 (by omega)
        refine ⟨(c.toNat - 128) + 128 * y, ?_, ?_, ?_, fun _ => by omega⟩
        · unfold vputF
          rw [if_neg (by omega), show ((c.toNat - 128) + 128 * y) % 128 + 128 = c.toNat by omega, show ((c.toNat - 128) + 128 * y) / 128 = y by omega, UInt8.ofNat_toNat, e1]
          rfl
        · rw [e2, Nat.pow_succ, Nat.add_mul]
          rw [show y * (128 ^ i * 128) = 128 * y * 128 ^ i by rw [Nat.mul_comm (128 ^ i) 128, ← Nat.mul_assoc, Nat.mul_comm y 128]]
          omega
        · rw [Nat.pow_succ]; omega
    · rw [if_neg h1] at h
      by_cases h2 : c.toNat = 0 ∧ 0 < i ∨ i = 9 ∧ 1 < c.toNat
      · rw [if_pos h2] at h; cases h
      · rw [if_neg h2] at h
        injection h with h
        injection h with h3 h4
        subst h3 h4
        refine ⟨c.toNat, ?_, rfl, ?_, fun _ => by omega⟩
        · cases f with
          | zero => simp [vputF]
          | succ f => unfold vputF; rw [if_pos (by omega)]; simp
        · cases f with
          | zero => simp; omega
          | succ f =>
            have : 0 < 128 ^ f := Nat.pow_pos (by omega)
            rw [Nat.pow_succ]; omega
theorem vtake_some {b : List UInt8} {y : Nat} {r : List UInt8} (h : vtake b = some (y, r)) : b = vput y ++ r ∧ y < 18446744073709551616 := by
  obtain ⟨z, e1, e2, e3, _⟩ := vtk_some 9 0 0 b y r rfl h
  have e : y = z := by omega
  subst e
  exact ⟨e1, by have : (2 : Nat) * 128 ^ 9 = 18446744073709551616 := by decide
                omega⟩
/-- The bytes of a number: all but the last one say that there is another. -/
theorem vputF_cont : ∀ (f y : Nat), y < 128 ^ (f + 1) → ∃ a c, vputF f y = a ++ [c] ∧ (∀ x ∈ a, 128 ≤ x.toNat) ∧ c.toNat < 128 ∧ a.length ≤ f
  | 0, y, h => ⟨[], UInt8.ofNat y, rfl, by simp, by rw [ofNat_toNat (by omega)]; omega, Nat.le_refl _⟩
  | f + 1, y, h => by
    unfold vputF
    by_cases h1 : y < 128
    · rw [if_pos h1]
      exact ⟨[], UInt8.ofNat y, rfl, by simp, by rw [ofNat_toNat (by omega)]; omega, by simp⟩
    · rw [if_neg h1]
      obtain ⟨a, c, e1, e2, e3, e4⟩ := vputF_cont f (y / 128) (by rw [Nat.pow_succ] at h; exact Nat.div_lt_of_lt_mul (by omega))
      refine ⟨UInt8.ofNat (y % 128 + 128) :: a, c, by rw [e1]; rfl, fun x hx => ?_, e3, by simp; omega⟩
      rcases List.mem_cons.1 hx with rfl | hx
      · rw [ofNat_toNat (by omega)]; omega
      · exact e2 x hx
/-- What digits come to. -/
def hz : List UInt8 → Nat
  | [] => 0
  | c :: r => c.toNat % 128 + 128 * hz r
theorem hz_vputF : ∀ (f y : Nat), y < 128 ^ (f + 1) → hz (vputF f y) = y
  | 0, y, h => by simp only [vputF, hz]; rw [ofNat_toNat (by omega)]; omega
  | f + 1, y, h => by
    unfold vputF
    by_cases h1 : y < 128
    · rw [if_pos h1]; simp only [hz]; rw [ofNat_toNat (by omega)]; omega
    · rw [if_neg h1]
      have ih := hz_vputF f (y / 128) (by rw [Nat.pow_succ] at h; exact Nat.div_lt_of_lt_mul (by omega))
      simp only [hz]; rw [ih, ofNat_toNat (by omega)]; omega
theorem u64_pow : (18446744073709551616 : Nat) ≤ 128 ^ (9 + 1) := by decide
/-- How many bytes say that there is another one, nine at most. -/
def Stands (b : List UInt8) (k : Nat) : Prop := (∀ i (h : i < b.length), i < k → 128 ≤ (b[i]'h).toNat) ∧ k ≤ 9 ∧ k ≤ b.length
theorem stands_end {b : List UInt8} {k : Nat} (h : Stands b k) (hk : k = b.length) : vtake b = none := by
  cases hv : vtake b with
  | none => rfl
  | some p =>
    obtain ⟨y, r⟩ := p
    obtain ⟨e, hy⟩ := vtake_some hv
    obtain ⟨a, c, e1, _, e3, _⟩ := vputF_cont 9 y (Nat.lt_of_lt_of_le hy u64_pow)
    have e' : b = a ++ (c :: r) := by rw [e]; unfold vput; rw [e1]; simp
    have hl : a.length < b.length := by rw [e']; simp
    have h1 := h.1 a.length hl (by omega)
    have h2 : b[a.length]'hl = c := by
      have : b[a.length]? = some c := by rw [e', List.getElem?_append_right (Nat.le_refl _)]; simp
      rw [List.getElem?_eq_getElem hl] at this
      exact Option.some.inj this
    rw [h2] at h1
    omega
theorem stands_at {b : List UInt8} {k y : Nat} {r : List UInt8} (h : Stands b k) (hk : k < b.length) (hx : k = 9 ∨ (b[k]'hk).toNat < 128) (hv : vtake b = some (y, r)) : b.take (k + 1) = vput y ∧ b.drop (k + 1) = r ∧ hz (b.take (k + 1)) = y ∧ y < 18446744073709551616 := by
  obtain ⟨e, hy⟩ := vtake_some hv
  have hy2 := Nat.lt_of_lt_of_le hy u64_pow
  obtain ⟨a, c, e1, e2, e3, e4⟩ := vputF_cont 9 y hy2
  have e' : b = a ++ (c :: r) := by rw [e]; unfold vput; rw [e1]; simp
  have hka : k = a.length := by
    rcases Nat.lt_trichotomy k a.length with hlt | heq | hgt
    · exfalso
      have h2 : b[k]'hk = a[k]'hlt := by
        have : b[k]? = some (a[k]'hlt) := by rw [e', List.getElem?_append_left hlt, List.getElem?_eq_getElem hlt]
        rw [List.getElem?_eq_getElem hk] at this
        exact Option.some.inj this
      have h3 := e2 _ (List.getElem_mem hlt)
      rcases hx with hx | hx
      · omega
      · rw [h2] at hx; omega
    · exact heq
    · exfalso
      have hl : a.length < b.length := by omega
      have h1 := h.1 a.length hl hgt
      have h2 : b[a.length]'hl = c := by
        have : b[a.length]? = some c := by rw [e', List.getElem?_append_right (Nat.le_refl _)]; simp
        rw [List.getElem?_eq_getElem hl] at this
        exact Option.some.inj this
      rw [h2] at h1; omega
  have e5 : b.take (k + 1) = vput y := by
    unfold vput
    rw [e1, e', hka, show a ++ c :: r = (a ++ [c]) ++ r by simp, show a.length + 1 = (a ++ [c]).length by simp, List.take_left]
  have e6 : b.drop (k + 1) = r := by
    rw [e', hka, show a ++ c :: r = (a ++ [c]) ++ r by simp, show a.length + 1 = (a ++ [c]).length by simp, List.drop_left]
  exact ⟨e5, e6, by rw [e5]; exact hz_vputF 9 y hy2, hy⟩
/-- What the reference takes. -/
theorem rtake_yes {b : List UInt8} {k x : Nat} (hx : x < 18446744073709551616) (he : vput x = b.take (k + 1)) : vtake b = some (x, b.drop (k + 1)) := by
  have : b = vput x ++ b.drop (k + 1) := by rw [he, List.take_append_drop]
  rw [this, vtake_vput x _ hx]
  rw [← this]
theorem rtake_no {b : List UInt8} {k : Nat} (h : Stands b k) (hk : k < b.length) (hx : k = 9 ∨ (b[k]'hk).toNat < 128) (hne : vput (hz (b.take (k + 1)) % 18446744073709551616) ≠ b.take (k + 1)) : vtake b = none := by
  cases hv : vtake b with
  | none => rfl
  | some p =>
    obtain ⟨y, r⟩ := p
    obtain ⟨e1, _, e3, e4⟩ := stands_at h hk hx hv
    exfalso
    apply hne
    rw [e3, Nat.mod_eq_of_lt e4, e1]

theorem wone_some {b : List UInt8} {f : Fld} {r : List UInt8} (h : wone b = some (f, r)) : b = fld f ++ r ∧ f.ok := by
  unfold wone at h
  cases h1 : vtake b with
  | none => rw [h1] at h; cases h
  | some p =>
    obtain ⟨key, r1⟩ := p
    rw [h1] at h
    dsimp only at h
    cases h2 : vtake r1 with
    | none => rw [h2] at h; cases h
    | some q =>
      obtain ⟨n, r2⟩ := q
      rw [h2] at h
      dsimp only at h
      obtain ⟨e1, hk⟩ := vtake_some h1
      obtain ⟨e2, hn⟩ := vtake_some h2
      by_cases c1 : key / 8 < 1 ∨ 100 < key / 8 ∨ ¬ (key % 8 = 0 ∨ key % 8 = 2)
      · rw [if_pos c1] at h; cases h
      · rw [if_neg c1] at h
        by_cases c2 : key % 8 = 0
        · rw [if_pos c2] at h
          injection h with h; injection h with h3 h4
          subst h3 h4
          refine ⟨?_, ?_⟩
          · simp only [fld, Bool.false_eq_true, if_false, Int.toNat_natCast]
            rw [show 8 * (key / 8) = key by omega, List.append_assoc, ← e2, ← e1]
          · exact ok_num (key / 8) n (by omega) hn
        · rw [if_neg c2] at h
          by_cases c3 : r2.length < n
          · rw [if_pos c3] at h; cases h
          · rw [if_neg c3] at h
            injection h with h; injection h with h3 h4
            subst h3 h4
            have hl : (r2.take n).length = n := by rw [List.length_take]; omega
            refine ⟨?_, ?_⟩
            · simp only [fld, if_true, Int.toNat_natCast, hl]
              rw [show 8 * (key / 8) + 2 = key by omega, List.append_assoc, List.append_assoc, List.take_append_drop, ← e2, ← e1]
            · exact ok_txt (key / 8) (r2.take n) (by omega) (by rw [hl]; exact hn)
theorem wtakeF_some : ∀ (k : Nat) (b : List UInt8) (l : List Fld), wtakeF k b = some l → (l.map fld).flatten = b ∧ ∀ f ∈ l, f.ok
  | 0, [], l, h => by simp [wtakeF] at h; subst h; simp
  | k + 1, [], l, h => by simp [wtakeF] at h; subst h; simp
  | 0, c :: t, l, h => by simp [wtakeF] at h
  | k + 1, c :: t, l, h => by
    rw [wtakeF] at h
    · cases h1 : wone (c :: t) with
      | none => rw [h1] at h; cases h
      | some p =>
        obtain ⟨f, r⟩ := p
        rw [h1] at h
        dsimp only at h
        obtain ⟨e1, e2⟩ := wone_some h1
        cases h2 : wtakeF k r with
        | none => rw [h2] at h; cases h
        | some m =>
          rw [h2] at h
          have h3 : f :: m = l := Option.some.inj h
          subst h3
          obtain ⟨e3, e4⟩ := wtakeF_some k r m h2
          refine ⟨by rw [List.map_cons, List.flatten_cons, e3, ← e1], fun g hg => ?_⟩
          rcases List.mem_cons.1 hg with rfl | hg
          · exact e2
          · exact e4 g hg
    · intro e; cases e
theorem wtake_sound {b : List UInt8} {l : List Fld} (h : wtake b = some l) : dput l = b ∧ ∀ f ∈ l, f.ok := by
  obtain ⟨e1, e2⟩ := wtakeF_some _ b l h
  refine ⟨?_, e2⟩
  unfold dput
  rw [oks_tag e2]; exact e1
/-- A value, by the reference: what is taken must be put as the same bytes. -/
def shape3 (l : List Fld) : Option (Fld × Fld × Fld) :=
  match l with
  | [f1, f2, f3] => if f1.tag = 1 ∧ f1.bytes = false ∧ f2.tag = 2 ∧ f2.bytes = false ∧ f3.tag = 3 ∧ f3.bytes = true then some (f1, f2, f3) else none
  | _ => none
def valOf3 (p : Fld × Fld × Fld) : VV := ⟨p.1.n = 1, zagI p.2.1.n, ⟨p.2.2.b.toArray⟩⟩
def rtakeValue (b : List UInt8) : Option VV :=
  match (wtake b).bind shape3 with
  | none => none
  | some p => if putValue (valOf3 p) = b then some (valOf3 p) else none
theorem shape3_some {l : List Fld} {p : Fld × Fld × Fld} (h : shape3 l = some p) : l = [p.1, p.2.1, p.2.2] ∧ p.1.tag = 1 ∧ p.1.bytes = false ∧ p.2.1.tag = 2 ∧ p.2.1.bytes = false ∧ p.2.2.tag = 3 ∧ p.2.2.bytes = true := by
  match l, h with
  | [f1, f2, f3], h =>
    unfold shape3 at h
    dsimp only at h
    split at h
    · rename_i hc
      injection h with h
      subst h
      exact ⟨rfl, hc⟩
    · cases h
theorem takeValue_shape (b : List UInt8) : takeValue b = match (wtake b).bind shape3 with | none => none | some p => if p.1.n ≤ 1 then some (valOf3 p) else none := by
  unfold takeValue
  cases hw : wtake b with
  | none => rfl
  | some l =>
    rw [Option.bind_some]
    unfold shape3
    match l with
    | [] => rfl
    | [_] => rfl
    | [_, _] => rfl
    | _ :: _ :: _ :: _ :: _ => rfl
    | [f1, f2, f3] =>
      dsimp only
      by_cases hc : f1.tag = 1 ∧ f1.bytes = false ∧ f2.tag = 2 ∧ f2.bytes = false ∧ f3.tag = 3 ∧ f3.bytes = true
      · rw [if_pos hc]
        dsimp only
        obtain ⟨a1, a2, a3, a4, a5, a6⟩ := hc
        by_cases h1 : f1.n ≤ 1
        · rw [if_pos ⟨a1, a2, a3, a4, a5, a6, h1⟩, if_pos h1]; rfl
        · rw [if_neg (by rintro ⟨_, _, _, _, _, _, h⟩; exact h1 h), if_neg h1]
      · rw [if_neg hc, if_neg (by rintro ⟨a1, a2, a3, a4, a5, a6, _⟩; exact hc ⟨a1, a2, a3, a4, a5, a6⟩)]
theorem fld_ext {f g : Fld} (h1 : f.tag = g.tag) (h2 : f.bytes = g.bytes) (h3 : f.n = g.n) (h4 : f.b = g.b) : f = g := by cases f; cases g; simp_all
theorem rtakeValue_eq (b : List UInt8) : rtakeValue b = takeValue b := by
  rw [takeValue_shape]
  unfold rtakeValue
  cases hw : wtake b with
  | none => rfl
  | some l =>
    rw [Option.bind_some]
    cases hs : shape3 l with
    | none => rfl
    | some p =>
      dsimp only
      obtain ⟨f1, f2, f3⟩ := p
      obtain ⟨e, a1, a2, a3, a4, a5, a6⟩ := shape3_some hs
      dsimp only at e a1 a2 a3 a4 a5 a6
      obtain ⟨hd, hok⟩ := wtake_sound hw
      have k1 := hok f1 (by rw [e]; simp)
      have k2 := hok f2 (by rw [e]; simp)
      have k3 := hok f3 (by rw [e]; simp)
      have g1 : f1 = fnum 1 f1.n := fld_ext a1 a2 rfl (by have := k1.2.2.2; rw [a2] at this; simpa [fnum] using this)
      have g2 : f2 = fnum 2 f2.n := fld_ext a3 a4 rfl (by have := k2.2.2.2; rw [a4] at this; simpa [fnum] using this)
      have g3 : f3 = ftxt 3 f3.b := fld_ext a5 a6 (by have := k3.2.2.2; rw [a6] at this; simpa [ftxt] using this) rfl
      have hF : putValueF (valOf3 (f1, f2, f3)) = [fnum 1 (b2n (f1.n = 1 : Bool)), f2, f3] := by
        unfold putValueF valOf3
        dsimp only
        rw [zig_zag, ← g2, ← g3]
      by_cases h1 : f1.n ≤ 1
      · have hn : b2n (f1.n = 1 : Bool) = f1.n := by
          have : f1.n = 0 ∨ f1.n = 1 := by omega
          rcases this with h | h <;> rw [h] <;> rfl
        rw [if_pos h1, if_pos]
        unfold putValue
        rw [hF, hn, ← g1, ← e, hd]
      · rw [if_neg h1, if_neg]
        intro hp
        unfold putValue at hp
        rw [hF] at hp
        have hok2 : ∀ f ∈ [fnum 1 (b2n (f1.n = 1 : Bool)), f2, f3], f.ok := forall3 (ok_num 1 _ (by omega) (b2n_lt _)) k2 k3
        have := wtake_dput _ hok2
        rw [hp, hw, e] at this
        injection this with this
        injection this with this
        have h5 : f1.n = b2n (f1.n = 1 : Bool) := congrArg Fld.n this
        have : b2n (f1.n = 1 : Bool) ≤ 1 := by unfold b2n; split <;> omega
        omega

/-- An event, by the reference: what is taken must be put as the same bytes. -/
def rtakeEvent (b : List UInt8) : Option EE :=
  match wtake b with
  | none => none
  | some l => if putEvent (rdEvent false l).2 = b then some (rdEvent false l).2 else none
theorem rtakeEvent_eq (b : List UInt8) (h : ∀ l, wtake b = some l → (rdEvent false l).2.oks ∧ evLen (rdEvent false l).2 ≤ 4294967000) : rtakeEvent b = takeEvent b := by
  unfold rtakeEvent takeEvent rdFields
  cases hw : wtake b with
  | none =>
    dsimp only
    have e : rdEvent true [] = (true, EE.zero) := rfl
    rw [e]; rfl
  | some l =>
    obtain ⟨h1, h2⟩ := h l hw
    dsimp only
    by_cases hp : putEvent (rdEvent false l).2 = b
    · rw [if_pos hp]
      have ht := takeEvent_put _ h1 h2
      rw [hp] at ht
      unfold takeEvent rdFields at ht
      rw [hw] at ht
      dsimp only at ht
      rw [ht]
    · rw [if_neg hp, if_pos]
      simp [hp]
end Go.Proofs.YtojenpjafgfpaaaGreatDoor
