/- A part of what Chunks leans on. -/
import Derived.Test.YtpmglcachffojaaGreatDoorZ1
import Derived.RangeFuncCalls
import Derived.OrdersIn
import Derived.Deep.RegionHeld
import Derived.OrdersHeld
import Derived.Deep.RegionLaw
set_option maxRecDepth 100000
set_option maxHeartbeats 16000000
namespace Go.Proofs.YtpmglcachffojaaGreatDoor
section
open Go Go.RowKit
def xxd (ops : Array Oper) : Bool := ops.all fun o => match o.op with | .defer _ => false | _ => true
theorem jjl {ops : Array Oper} (h : xxd ops = true) {i : Nat} {o : Oper} (hi : ops[i]? = some o) : ∀ c, o.op ≠ .defer c := fun c e => by
 unfold xxd at h
 rw [Array.all_eq_true_iff_forall_mem] at h
 have h1 := h o (Array.mem_of_getElem? hi)
 rw [e] at h1
 cases h1
section
variable {P : Program} {ops : Array Oper} {Q : Exit → Act → World → Prop} {md : Region.Mode} {l n : Nat}
theorem uux {o : Oper} {K : Act → World → Prop} {a : Act} {w : World} (hd : ∀ c, o.op ≠ .defer c) (h : Oper.wp P o a w K Q) : Oper.wpIn (Fence.wide.inRound l) n P o a w K Q := by
 unfold Oper.wp at h
 unfold Oper.wpIn
 refine ⟨fun _ _ => trivial, ?_⟩
 rw [Oper.semAt_eq _ _ _ hd]
 generalize (execOp a.eval o).run P w = r at *
 cases r with
 | ok x w' =>
   cases x <;> simp only [Oper.upon, Oper.uponIn] at h ⊢
   case value => exact h
   case skip => exact h
   case defer => exact h
   case enter f args => exact ⟨fun e => (by cases e), CallsIn.inRound l (callsIn_wide.2 h)⟩
   case row row args => exact ⟨fun e => (by cases e), fun c cs _ => let ⟨v, w', r, s⟩ := h c cs; ⟨v, w', r, stepsIn_wide.2 s⟩⟩
 | halt x w' =>
   cases x <;> simp only [Oper.upon, Oper.uponIn] at h ⊢
   case panic => exact h
theorem kqp (hd : xxd ops = true) (hQ : ¬ LetsOut Q) {i : Nat} {K : Act → World → Prop} {a : Act} {w : World} (h : wpOp P ops Q i K a w) : wpOpIn (Fence.wide.inRound l) n P ops Q i K a w := by
 unfold wpOp at h
 unfold wpOpIn
 cases ho : ops[i]? with
 | none => simp only [ho] at h ⊢; exact h
 | some o =>
   simp only [ho] at h ⊢
   by_cases hw : Region.wanted o (yielded ops a.tmps) = true
   · rw [if_pos hw] at h ⊢
     rcases h with h | ⟨_, h⟩
     · exact uux (jjl hd ho) h
     · exact absurd h hQ
   · rw [if_neg hw] at h ⊢
     exact ⟨fun _ _ => trivial, h⟩
theorem vvi (hd : xxd ops = true) (hQ : ¬ LetsOut Q) : ∀ (fuel : Nat) (listed : Array Bool) (a : Act) (w : World), wpAny P md ops Q fuel listed a w → wpAnyIn (Fence.wide.inRound l) n P md ops Q fuel listed a w
 | 0, _, _, _, h => h
 | fuel + 1, _, _, _, h => ⟨h.1, fun i hi => kqp hd hQ (wpOp_mono (fun a' w' h' => vvi hd hQ fuel _ a' w' h') (h.2 i hi))⟩
theorem zqf {R : Act → World → Prop} : ¬ LetsOut (fun e a w => e = Exit.normal ∧ R a w) := fun ⟨_, _, h, _⟩ => by cases h
end
end
section
open Go Go.RowKit
section
variable {P : Program} {ops : Array Oper} {Q : Exit → Act → World → Prop} {md : Region.Mode}
def SLx (c : Option Nat) (listed : Array Bool) (p : Prop) : Prop :=
 match c with
 | none => p
 | some c => listed.getD c true = false → p
def SL : List (Option Nat × (World → Prop)) → Array Bool → World → Prop
 | [], _, _ => True
 | x :: r, listed, w => SLx x.1 listed (x.2 w) ∧ SL r listed w
def gds (cs : List (Option Nat × (World → Prop))) : List Nat := cs.filterMap Prod.fst
theorem SL.at : ∀ {cs : List (Option Nat × (World → Prop))} {k : Nat} {c : Option Nat} {p : World → Prop} {listed : Array Bool} {w : World}, SL cs listed w → cs[k]? = some (c, p) → SLx c listed (p w)
 | [], _, _, _, _, _, _, h => by simp at h
 | x :: r, 0, c, p, _, _, h, hk => by
   simp at hk
   subst hk
   exact h.1
 | x :: r, k + 1, c, p, _, _, h, hk => SL.at h.2 (by simpa using hk)
theorem SL.get {cs : List (Option Nat × (World → Prop))} {k c : Nat} {p : World → Prop} {listed : Array Bool} {w : World} (h : SL cs listed w) (hk : cs[k]? = some (some c, p)) (hc : listed.getD c true = false) : p w := SL.at h hk hc
theorem SL.all {cs : List (Option Nat × (World → Prop))} {k : Nat} {p : World → Prop} {listed : Array Bool} {w : World} (h : SL cs listed w) (hk : cs[k]? = some (none, p)) : p w := SL.at h hk
theorem SL.set : ∀ {cs : List (Option Nat × (World → Prop))} {i : Nat} {listed : Array Bool} {w : World}, (gds cs).contains i = false → (SL cs (listed.setIfInBounds i true) w ↔ SL cs listed w)
 | [], _, _, _, _ => Iff.rfl
 | (none, p) :: r, i, listed, w, h => by
   have ih := SL.set (listed := listed) (w := w) (cs := r) (i := i) h
   show (p w ∧ SL r (listed.setIfInBounds i true) w) ↔ (p w ∧ SL r listed w)
   rw [ih]
 | (some c, p) :: r, i, listed, w, h => by
   have h : ((c :: gds r).contains i) = false := h
   have hne : i ≠ c := fun e => by subst e; simp at h
   have hr : (gds r).contains i = false := by
    cases hq : (gds r).contains i with
    | false => rfl
    | true => simp only [List.contains_cons, hq, Bool.or_true] at h; cases h
   have ih := SL.set (listed := listed) (w := w) hr
   show (((listed.setIfInBounds i true).getD c true = false → p w) ∧ SL r (listed.setIfInBounds i true) w) ↔ ((listed.getD c true = false → p w) ∧ SL r listed w)
   rw [getD_set_ne true hne, ih]
def zzM (P : Program) (md : Region.Mode) (ops : Array Oper) (Q : Exit → Act → World → Prop) (cs : List (Option Nat × (World → Prop))) : Nat → Array Bool → Act → World → Prop
 | 0, listed, a, w => Region.ready md ops listed = [] ∧ Q .normal a w
 | fuel + 1, listed, a, w =>
   (Region.ready md ops listed = [] → Q .normal a w) ∧
   ∀ i ∈ Region.ready md ops listed, wpOp P ops Q i (fun a' w' => SL cs (listed.setIfInBounds i true) w' ∧ zzM P md ops Q cs fuel (listed.setIfInBounds i true) a' w') a w
variable {cs : List (Option Nat × (World → Prop))}
theorem xxF : ∀ (fuel : Nat) (listed : Array Bool) (a : Act) (w : World), zzM P md ops Q cs fuel listed a w → wpAny P md ops Q fuel listed a w
 | 0, _, _, _, h => h
 | fuel + 1, _, _, _, h => ⟨h.1, fun i hi => wpOp_mono (fun a' w' h' => xxF fuel _ a' w' h'.2) (h.2 i hi)⟩
def SLw (cs : List (Option Nat × (World → Prop))) (c : Option Nat) (w : World) : Prop := ∃ listed : Array Bool, (∀ c', c = some c' → listed.getD c' true = false) ∧ SL cs listed w
theorem xxq {i : Nat} {c : Option Nat} {oi : Oper} {v : Value} (hi : ops[i]? = some oi) (hsel : ∀ (j : Nat) (o : Oper) cs b, ops[j]? = some o → o.op ≠ .select cs b)
 (hQ : ∀ c a w, Q (.panic c) (a.put oi.dst v) w → Q (.panic c) a w) (hc : ∀ c', c = some c' → ∀ oc, ops[c']? = some oc → ∃ e ∈ oc.after, Region.binds md e = true ∧ e.on = i) (hcs : (gds cs).contains i = false) :
 ∀ (fuel : Nat) (listed : Array Bool) (a : Act) (w : World),
  (∀ j oj, ops[j]? = some oj → j ≠ i → listed.getD j true = false → (∀ e ∈ oj.after, Region.binds md e = true → e.on ≠ i) → oi.apart ops oj = true) →
  i ∈ Region.ready md ops listed → YieldsIf P ops (SLw cs c) oi v a → (∀ c', c = some c' → listed.getD c' true = false) → SL cs listed w →
  zzM P md ops Q cs fuel (listed.setIfInBounds i true) (a.put oi.dst v) w → zzM P md ops Q cs (fuel + 1) listed a w := by
 intro fuel
 induction fuel with
 | zero =>
   intro listed a w _ hr hy hl hS H
   refine ⟨fun h => (by rw [h] at hr; cases hr), fun j hj => ?_⟩
   by_cases hji : j = i
   · subst hji; exact hy.wpOp hi ⟨listed, hl, hS⟩ ⟨(SL.set hcs).2 hS, H⟩
   · have := ready_mono hj hji
     rw [H.1] at this
     cases this
 | succ fuel ih =>
   intro listed a w hfree hr hy hl hS H
   refine ⟨fun h => (by rw [h] at hr; cases hr), fun j hj => ?_⟩
   by_cases hji : j = i
   · subst hji; exact hy.wpOp hi ⟨listed, hl, hS⟩ ⟨(SL.set hcs).2 hS, H⟩
   · have h1 := H.2 j (ready_mono hj hji)
     obtain ⟨hjun, oj, hoj, hall⟩ := mem_ready.1 hj
     have hun : ∀ b, listed.getD i true = b → listed.getD i false = true → False := fun b _ h1 => by
      have h0 := (mem_ready.1 hr).1
      rcases Nat.lt_or_ge i listed.size with h' | h'
      · simp [h'] at h0 h1; rw [h0] at h1; cases h1
      · simp [Array.getElem?_eq_none h'] at h1
     have hnot : ∀ e ∈ oj.after, Region.binds md e = true → e.on ≠ i := fun e he hb heq => by
      have h1 := hall e he hb
      rw [heq] at h1
      exact hun _ rfl h1
     have hjc : ∀ c', c = some c' → j ≠ c' := fun c' e0 e => by
      subst e
      obtain ⟨e, he, hb, hon⟩ := hc j e0 oj hoj
      exact hnot e he hb hon
     have h2 := wpOp_putIf hoj (hfree j oj hoj hji hjun hnot) (fun cs b => hsel i oi cs b hi) (fun cs b => hsel j oj cs b hoj) hQ hy h1
     have hfree' : ∀ k ok, ops[k]? = some ok → k ≠ i → (listed.setIfInBounds j true).getD k true = false →
      (∀ e ∈ ok.after, Region.binds md e = true → e.on ≠ i) → oi.apart ops ok = true := fun k ok hk hki hun hno => by
      refine hfree k ok hk hki ?_ hno
      by_cases hjk : j = k
      · subst hjk; exact hjun
      · rw [getD_set_ne true hjk] at hun; exact hun
     refine wpOp_mono (fun a' w' h3 => ?_) h2
     have hS' : SL cs (listed.setIfInBounds j true) w' := by
      have h4 := h3.2.1
      rw [Array.setIfInBounds_comm _ _ (Ne.symm hji)] at h4
      exact (SL.set hcs).1 h4
     refine ⟨hS', ih (listed.setIfInBounds j true) a' w' hfree' (ready_mono hr (Ne.symm hji)) h3.1 (fun c' e0 => by rw [getD_set_ne true (hjc c' e0)]; exact hl c' e0) hS' ?_⟩
     rw [Array.setIfInBounds_comm _ _ hji]
     exact h3.2.2
def tkB (md : Region.Mode) (ops : Array Oper) (listed : Array Bool) (i : Nat) : Bool := Region.noSelect ops && Region.free md ops listed i && (Region.ready md ops listed).contains i
def tkC (md : Region.Mode) (ops : Array Oper) (listed : Array Bool) (i : Nat) (c : Option Nat) : Bool := tkB md ops listed i && (match c with | none => true | some c => !(listed.getD c true) && ((ops[c]?).map fun o => o.after.any fun e => Region.binds md e && e.on == i).getD true)
theorem tkL (i k : Nat) {c : Option Nat} {p : World → Prop} {oi : Oper} {v : Value} {fuel : Nat} {listed : Array Bool} {a : Act} {w : World} (hk : cs[k]? = some (c, p)) (hi : ops[i]? = some oi) (hB : tkC md ops listed i c = true) (hcs : (gds cs).contains i = false)
 (hQ : ∀ c a w, Q (.panic c) (a.put oi.dst v) w → Q (.panic c) a w) (hw : Region.wanted oi (yielded ops a.tmps) = true) (hS : SL cs listed w) (hy : ∀ w, p w → (execOp a.eval oi).run P w = .ok (.value v) w)
 (h : SL cs (listed.setIfInBounds i true) w → zzM P md ops Q cs fuel (listed.setIfInBounds i true) (a.put oi.dst v) w) : zzM P md ops Q cs (fuel + 1) listed a w := by
 have h := h ((SL.set hcs).2 hS)
 unfold tkC tkB at hB
 rw [Bool.and_eq_true, Bool.and_eq_true, Bool.and_eq_true] at hB
 obtain ⟨⟨⟨h1, h2⟩, h3⟩, h4⟩ := hB
 refine xxq (c := c) hi (Region.noSelect_spec h1) hQ (fun c' e0 oc hoc => ?_) hcs fuel listed a w (Region.free_spec hi h2) (by simpa using h3) (.inl ⟨hw, fun w hw => ?_⟩) (fun c' e0 => ?_) hS h
 · subst e0
   simp only [Bool.and_eq_true] at h4
   have h5 := h4.2
   rw [hoc] at h5
   simp only [Option.map_some, Option.getD_some] at h5
   obtain ⟨e, he, h6⟩ := Array.any_eq_true'.1 h5
   simp only [Bool.and_eq_true, beq_iff_eq] at h6
   exact ⟨e, he, h6.1, h6.2⟩
 · obtain ⟨l, hl, hs⟩ := hw
   refine hy w ?_
   have h5 := SL.at hs hk
   cases c with
   | none => exact h5
   | some c => exact h5 (hl c rfl)
 · subst e0
   simp only [Bool.and_eq_true] at h4
   simpa using h4.1
theorem tkP (i : Nat) {oi : Oper} {v : Value} {fuel : Nat} {listed : Array Bool} {a : Act} {w : World} (hi : ops[i]? = some oi) (hB : tkB md ops listed i = true) (hcs : (gds cs).contains i = false)
 (hQ : ∀ c a w, Q (.panic c) (a.put oi.dst v) w → Q (.panic c) a w) (hw : Region.wanted oi (yielded ops a.tmps) = true) (hS : SL cs listed w) (hy : ∀ w, (execOp a.eval oi).run P w = .ok (.value v) w)
 (h : SL cs (listed.setIfInBounds i true) w → zzM P md ops Q cs fuel (listed.setIfInBounds i true) (a.put oi.dst v) w) : zzM P md ops Q cs (fuel + 1) listed a w := by
 have h := h ((SL.set hcs).2 hS)
 unfold tkB at hB
 simp only [Bool.and_eq_true] at hB
 obtain ⟨⟨h1, h2⟩, h3⟩ := hB
 exact xxq (c := none) hi (Region.noSelect_spec h1) hQ (fun c' e0 => by cases e0) hcs fuel listed a w (Region.free_spec hi h2) (by simpa using h3) (.inl ⟨hw, fun w _ => hy w⟩) (fun c' e0 => by cases e0) hS h
theorem tkN (i : Nat) {oi : Oper} {fuel : Nat} {listed : Array Bool} {a : Act} {w : World} (hi : ops[i]? = some oi) (hB : tkB md ops listed i = true) (hcs : (gds cs).contains i = false)
 (hQ : ∀ c a w, Q (.panic c) (a.put oi.dst undef) w → Q (.panic c) a w) (hw : Region.wanted oi (yielded ops a.tmps) = false) (hS : SL cs listed w)
 (h : SL cs (listed.setIfInBounds i true) w → zzM P md ops Q cs fuel (listed.setIfInBounds i true) (a.put oi.dst undef) w) : zzM P md ops Q cs (fuel + 1) listed a w := by
 have h := h ((SL.set hcs).2 hS)
 unfold tkB at hB
 simp only [Bool.and_eq_true] at hB
 obtain ⟨⟨h1, h2⟩, h3⟩ := hB
 exact xxq (c := none) hi (Region.noSelect_spec h1) hQ (fun c' e0 => by cases e0) hcs fuel listed a w (Region.free_spec hi h2) (by simpa using h3) (.inr ⟨hw, rfl⟩) (fun c' e0 => by cases e0) hS h
def vvj (P : Program) (md : Region.Mode) (ops : Array Oper) (Q : Exit → Act → World → Prop) (cs : List (Option Nat × (World → Prop))) (fuel : Nat) (listed : Array Bool) (a : Act) (w : World) (rs : List Nat) : Prop :=
 ∀ i ∈ rs, wpOp P ops Q i (fun a' w' => SL cs (listed.setIfInBounds i true) w' ∧ zzM P md ops Q cs fuel (listed.setIfInBounds i true) a' w') a w
theorem nilL {fuel : Nat} {listed : Array Bool} {a : Act} {w : World} : vvj P md ops Q cs fuel listed a w [] := fun _ h => by cases h
theorem consL {fuel : Nat} {listed : Array Bool} {a : Act} {w : World} {i : Nat} {o : Oper} {rs : List Nat} (ho : ops[i]? = some o)
 (h : ∀ K' : Act → World → Prop, Shut (∀ a w, SL cs (listed.setIfInBounds i true) w → (SL cs (listed.setIfInBounds i true) w → zzM P md ops Q cs fuel (listed.setIfInBounds i true) a w) → K' a w) → if Region.wanted o (yielded ops a.tmps) = true then Oper.wp P o a w K' Q else K' (a.put o.dst undef) w)
 (hs : vvj P md ops Q cs fuel listed a w rs) : vvj P md ops Q cs fuel listed a w (i :: rs) := fun j hj => by
 rcases List.mem_cons.1 hj with rfl | hj
 · exact wpOp_step ho (fun K' hK => h K' (fun a w hS hW => hK a w ⟨hS, hW hS⟩))
 · exact hs j hj
theorem readyL {rs : List Nat} {fuel : Nat} {listed : Array Bool} {a : Act} {w : World} (hr : Region.ready md ops listed = rs) (hne : rs ≠ [])
 (h : vvj P md ops Q cs fuel listed a w rs) : zzM P md ops Q cs (fuel + 1) listed a w := ⟨fun h0 => absurd (hr ▸ h0) hne, hr ▸ h⟩
theorem rd1 (i : Nat) {o : Oper} {fuel : Nat} {listed : Array Bool} {a : Act} {w : World} (hr : Region.ready md ops listed = [i]) (ho : ops[i]? = some o)
 (h : ∀ K' : Act → World → Prop, Shut (∀ a w, SL cs (listed.setIfInBounds i true) w → (SL cs (listed.setIfInBounds i true) w → zzM P md ops Q cs fuel (listed.setIfInBounds i true) a w) → K' a w) → if Region.wanted o (yielded ops a.tmps) = true then Oper.wp P o a w K' Q else K' (a.put o.dst undef) w) : zzM P md ops Q cs (fuel + 1) listed a w := readyL hr (by simp) (consL ho h nilL)
theorem rd2 (i j : Nat) {o o' : Oper} {fuel : Nat} {listed : Array Bool} {a : Act} {w : World} (hr : Region.ready md ops listed = [i, j]) (ho : ops[i]? = some o) (ho' : ops[j]? = some o')
 (h : ∀ K' : Act → World → Prop, Shut (∀ a w, SL cs (listed.setIfInBounds i true) w → (SL cs (listed.setIfInBounds i true) w → zzM P md ops Q cs fuel (listed.setIfInBounds i true) a w) → K' a w) → if Region.wanted o (yielded ops a.tmps) = true then Oper.wp P o a w K' Q else K' (a.put o.dst undef) w)
 (h' : ∀ K' : Act → World → Prop, Shut (∀ a w, SL cs (listed.setIfInBounds j true) w → (SL cs (listed.setIfInBounds j true) w → zzM P md ops Q cs fuel (listed.setIfInBounds j true) a w) → K' a w) → if Region.wanted o' (yielded ops a.tmps) = true then Oper.wp P o' a w K' Q else K' (a.put o'.dst undef) w) : zzM P md ops Q cs (fuel + 1) listed a w := readyL hr (by simp) (consL ho h (consL ho' h' nilL))
theorem atD (d : Tmp) {o : Oper} {a : Act} {w : World} {K : Act → World → Prop} {E : Prop} (_ : o.dst = some d) (h : if Region.wanted o (yielded ops a.tmps) = true then Oper.wp P o a w K Q else E) : if Region.wanted o (yielded ops a.tmps) = true then Oper.wp P o a w K Q else E := h
theorem zzB {w : World} {p : Addr} {u : Value} (h : w.cell? p = some u) (o : Obj) : (w.alloc o).cell? p = some u := (World.cell?_alloc_some w p o (by rw [h]; rfl)).trans h
theorem gone {listed : Array Bool} {c : Nat} {p : Prop} (hg : listed.getD c true = true) (h : listed.getD c true = false) : p := by rw [hg] at h; cases h
theorem vvW {listed : Array Bool} {a : Act} {w : World} (hr : Region.ready md ops listed = []) (h : Q .normal a w) : ∀ fuel, zzM P md ops Q cs fuel listed a w
 | 0 => ⟨hr, h⟩
 | _ + 1 => ⟨fun _ => h, by rw [hr]; simp⟩
theorem regL (cs : List (Option Nat × (World → Prop))) {id : Nat} {a : Act} {w : World} (hm : P.follows .mixedOrders = true) (hS : SL cs (Array.replicate ops.size false) w.drew)
 (h : SL cs (Array.replicate ops.size false) w.drew → zzM P .any ops Q cs ops.size (Array.replicate ops.size false) a w.drew) : (Code.region id ops true).wp P Q a w :=
 wp_region_any hm (xxF _ _ _ _ (h hS))
theorem xqj (cs : List (Option Nat × (World → Prop))) {l n id : Nat} {a : Act} {w : World} (hm : P.follows .mixedOrders = true) (hd : xxd ops = true) (hQ : ¬ LetsOut Q) (hS : SL cs (Array.replicate ops.size false) w.drew)
 (h : SL cs (Array.replicate ops.size false) w.drew → zzM P .any ops Q cs ops.size (Array.replicate ops.size false) a w.drew) : (Code.region id ops true).wpIn (Fence.wide.inRound l) n P Q a w :=
 wpIn_region_any hm (vvi hd hQ _ _ _ _ (xxF _ _ _ _ (h hS)))
theorem regLIm (cs : List (Option Nat × (World → Prop))) {l n id : Nat} {a : Act} {w : World} (hm : P.follows .mixedOrders = true) (hd : xxd ops = true) (hS : SL cs (Array.replicate ops.size false) w.drew)
 (h : SL cs (Array.replicate ops.size false) w.drew → zzM P .any ops (fun e a w => e = .normal ∧ Q .normal a w) cs ops.size (Array.replicate ops.size false) a w.drew) : (Code.region id ops true).wpIn (Fence.wide.inRound l) n P Q a w :=
 wpIn_mono (xqj cs hm hd zqf hS h) fun _ _ _ h => by rw [h.1]; exact h.2
end
end
section
def zzk (b : List UInt8) : Nat := min 130 (b.takeWhile (· == b.headD 0)).length
theorem xxG (b : List UInt8) : zzk b ≤ b.length := by
 have := (List.takeWhile_prefix (l := b) (· == b.headD 0)).length_le
 unfold zzk; omega
theorem yyV {b : List UInt8} (h : b ≠ []) : 1 ≤ zzk b := by
 match b, h with
 | c :: r, _ => unfold zzk; simp; omega
def litF : Nat → List UInt8 → Nat
 | 0, _ => 0
 | _ + 1, [] => 0
 | f + 1, c :: r => if zzk (c :: r) < 3 then 1 + litF f r else 0
def litN (b : List UInt8) : Nat := litF 128 b
theorem xqk : ∀ (f : Nat) (b : List UInt8), litF f b ≤ b.length ∧ litF f b ≤ f
 | 0, _ => by simp [litF]
 | f + 1, [] => by simp [litF]
 | f + 1, c :: r => by
   have := xqk f r
   unfold litF
   split <;> simp <;> omega
theorem jjQ {b : List UInt8} (h : b ≠ []) (hs : zzk b < 3) : 1 ≤ litN b := by
 match b, h with
 | c :: r, _ => unfold litN litF; rw [if_pos hs]; omega
def litB (k : Nat) (b : List UInt8) : List UInt8 := UInt8.ofNat (256 - k) :: b.take k
def byF : Nat → List UInt8 → List UInt8
 | 0, _ => []
 | _ + 1, [] => []
 | f + 1, c :: r => if 3 ≤ zzk (c :: r) then UInt8.ofNat (zzk (c :: r) - 3) :: c :: byF f ((c :: r).drop (zzk (c :: r))) else litB (litN (c :: r)) (c :: r) ++ byF f ((c :: r).drop (litN (c :: r)))
def byB (b : List UInt8) : List UInt8 := byF b.length b
theorem jjR (f : Nat) : byF f [] = [] := by cases f <;> rfl
theorem vv5 : ∀ (f g : Nat) (b : List UInt8), b.length ≤ f → b.length ≤ g → byF f b = byF g b
 | 0, g, b, h, _ => by
   obtain rfl : b = [] := List.length_eq_zero_iff.1 (by omega)
   rw [jjR, jjR]
 | f + 1, 0, b, _, h => by
   obtain rfl : b = [] := List.length_eq_zero_iff.1 (by omega)
   rw [jjR, jjR]
 | f + 1, g + 1, [], _, _ => rfl
 | f + 1, g + 1, c :: r, h1, h2 => by
   rw [byF, byF]
   simp only [List.length_cons] at h1 h2
   by_cases hs : 3 ≤ zzk (c :: r)
   · rw [if_pos hs, if_pos hs, vv5 f g _ (by rw [List.length_drop, List.length_cons]; omega) (by rw [List.length_drop, List.length_cons]; omega)]
   · rw [if_neg hs, if_neg hs]
     have := jjQ (b := c :: r) (by simp) (by omega)
     rw [vv5 f g _ (by rw [List.length_drop, List.length_cons]; omega) (by rw [List.length_drop, List.length_cons]; omega)]
theorem byB_nil : byB [] = [] := rfl
theorem byB_run {b : List UInt8} (h : 3 ≤ zzk b) : byB b = [UInt8.ofNat (zzk b - 3), b.headD 0] ++ byB (b.drop (zzk b)) := by
 match b, h with
 | [], h => simp [zzk] at h
 | c :: r, h =>
   have e : byB (c :: r) = UInt8.ofNat (zzk (c :: r) - 3) :: c :: byF r.length ((c :: r).drop (zzk (c :: r))) := by
    unfold byB; rw [List.length_cons, byF, if_pos h]
   rw [e, vv5 _ ((c :: r).drop (zzk (c :: r))).length _ (by rw [List.length_drop, List.length_cons]; omega) zN]
   rfl
theorem byB_lit {b : List UInt8} (h0 : b ≠ []) (h : zzk b < 3) : byB b = litB (litN b) b ++ byB (b.drop (litN b)) := by
 match b, h0, h with
 | c :: r, h0, h =>
   have hp := jjQ h0 h
   have e : byB (c :: r) = litB (litN (c :: r)) (c :: r) ++ byF r.length ((c :: r).drop (litN (c :: r))) := by
    unfold byB; rw [List.length_cons, byF, if_neg (by omega)]
   rw [e, vv5 _ ((c :: r).drop (litN (c :: r))).length _ (by rw [List.length_drop, List.length_cons]; omega) zN]
   rfl
def Lit (l b : List UInt8) : Prop := ∀ i, i < l.length → zzk ((l ++ b).drop i) < 3
def vvk : Nat → List UInt8 → List UInt8
 | 0, _ => []
 | _ + 1, [] => []
 | f + 1, c :: r => litB (min 128 (r.length + 1)) (c :: r) ++ vvk f ((c :: r).drop 128)
theorem xxH (f : Nat) : vvk f [] = [] := by cases f <;> rfl
theorem uuy : ∀ (f g : Nat) (b : List UInt8), b.length ≤ f → b.length ≤ g → vvk f b = vvk g b
 | 0, g, b, h, _ => by
   obtain rfl : b = [] := List.length_eq_zero_iff.1 (by omega)
   rw [xxH, xxH]
 | f + 1, 0, b, _, h => by
   obtain rfl : b = [] := List.length_eq_zero_iff.1 (by omega)
   rw [xxH, xxH]
 | f + 1, g + 1, [], _, _ => rfl
 | f + 1, g + 1, c :: r, h1, h2 => by
   simp only [List.length_cons] at h1 h2
   rw [vvk, vvk, uuy f g _ (by rw [List.length_drop, List.length_cons]; omega) (by rw [List.length_drop, List.length_cons]; omega)]
def yyW (l : List UInt8) : List UInt8 := vvk l.length l
theorem kqr : yyW [] = [] := rfl
theorem vvB {l : List UInt8} (h : l ≠ []) : yyW l = litB (min 128 l.length) l ++ yyW (l.drop 128) := by
 match l, h with
 | c :: r, _ =>
   have e : yyW (c :: r) = litB (min 128 (r.length + 1)) (c :: r) ++ vvk r.length ((c :: r).drop 128) := by unfold yyW; rw [List.length_cons, vvk]
   rw [e, uuy _ ((c :: r).drop 128).length _ (by rw [List.length_drop, List.length_cons]; omega) zN]
   rfl
theorem zqg : ∀ (f : Nat) (l b : List UInt8), Lit l b → (b = [] ∨ 3 ≤ zzk b) → litF f (l ++ b) = min f l.length
 | 0, l, b, _, _ => by simp [litF]
 | f + 1, [], b, _, h => by
   rcases h with rfl | h
   · simp [litF]
   · match b, h with
     | [], h => simp [zzk] at h
     | c :: r, h => rw [List.nil_append, litF, if_neg (by omega)]; simp
 | f + 1, c :: l, b, hl, h => by
   have h0 := hl 0 (by simp)
   rw [List.drop_zero] at h0
   rw [List.cons_append, litF, if_pos (by rwa [List.cons_append] at h0), zqg f l b (fun i hi => by have := hl (i + 1) (by simp; omega); simpa using this) h]
   simp; omega
theorem lit_drop {l b : List UInt8} (h : Lit l b) (k : Nat) : Lit (l.drop k) b := fun i hi => by
 rw [List.length_drop] at hi
 have := h (k + i) (by omega)
 rwa [show ((l.drop k ++ b).drop i) = (l ++ b).drop (k + i) by rw [← List.drop_drop, List.drop_append_of_le_length (l₁ := l) (by omega)]]
theorem kqs {l b : List UInt8} (hl : Lit l b) (h : b = [] ∨ 3 ≤ zzk b) : byB (l ++ b) = yyW l ++ byB b := by
 generalize hn : l.length = n
 induction n using Nat.strongRecOn generalizing l with
 | _ n ih =>
   by_cases h0 : l = []
   · subst h0; rfl
   · have hp := List.length_pos_iff.2 h0
     have h3 := hl 0 hp
     rw [List.drop_zero] at h3
     have hk : litN (l ++ b) = min 128 l.length := zqg 128 l b hl h
     rw [byB_lit (by simp [h0]) h3, hk, vvB h0]
     have e1 : (l ++ b).drop (min 128 l.length) = l.drop 128 ++ b := by
      rw [List.drop_append_of_le_length (by omega)]
      congr 1
      by_cases h128 : 128 ≤ l.length
      · rw [Nat.min_eq_left h128]
      · rw [Nat.min_eq_right (by omega), List.drop_length, List.drop_of_length_le (by omega)]
     have e2 : litB (min 128 l.length) (l ++ b) = litB (min 128 l.length) l := by unfold litB; rw [List.take_append_of_le_length (by omega)]
     rw [e1, e2, ih (l.drop 128).length (by rw [List.length_drop]; omega) (lit_drop hl 128) rfl, List.append_assoc]
theorem byB_wait {l b : List UInt8} (hl : Lit l b) (h : 3 ≤ zzk b) : byB (l ++ b) = yyW l ++ [UInt8.ofNat (zzk b - 3), b.headD 0] ++ byB (b.drop (zzk b)) := by
 rw [kqs hl (.inr h), byB_run h, List.append_assoc]
theorem xql {b : List UInt8} (h : zzk b = 2) : zzk (b.drop 1) < 3 := by
 match b, h with
 | [], h => simp [zzk] at h
 | [c], h => simp [zzk] at h
 | [c, d], h => unfold zzk; have := (List.takeWhile_prefix (l := [d]) (· == [d].headD 0)).length_le; simp at this; simp
 | c :: d :: e :: r, h =>
   have hcd : d = c := by
    apply Classical.byContradiction; intro hne
    have : ((d == c) = false) := by simpa using hne
    simp [zzk, this] at h
   subst hcd
   have hne : (e == d) = false := by
    apply Classical.byContradiction; intro hh
    have : e == d := by simpa using hh
    simp [zzk, this] at h
    omega
   simp [zzk, hne]
theorem lit_more {l b : List UInt8} (hl : Lit l b) (h : zzk b < 3) (h0 : b ≠ []) : Lit (l ++ b.take (zzk b)) (b.drop (zzk b)) := fun i hi => by
 have hp := yyV h0
 rw [List.append_assoc, List.take_append_drop]
 rw [List.length_append, List.length_take] at hi
 by_cases hil : i < l.length
 · exact hl i hil
 · have hle := xxG b
   rw [List.drop_append, List.drop_of_length_le (by omega), List.nil_append]
   obtain h1 | h1 : i - l.length = 0 ∨ (i - l.length = 1 ∧ zzk b = 2) := by omega
   · rw [h1, List.drop_zero]; exact h
   · rw [h1.1]; exact xql h1.2
theorem xqm (b : List UInt8) : Lit [] b := fun i hi => by simp at hi
end
section
structure Rn where
 c : UInt8
 n : Nat
 one : 1 ≤ n
 most : n ≤ 130
theorem kqt (b : List UInt8) : zzk b ≤ 130 := by unfold zzk; omega
def rnOf (b : List UInt8) (h : b ≠ []) : Rn := ⟨b.headD 0, zzk b, yyV h, kqt b⟩
def rnF : Nat → List UInt8 → List Rn
 | 0, _ => []
 | f + 1, b => if h : b = [] then [] else rnOf b h :: rnF f (b.drop (zzk b))
def rnL (b : List UInt8) : List Rn := rnF b.length b
theorem xxY (f : Nat) : rnF f [] = [] := by cases f <;> simp [rnF]
theorem zqh : ∀ (f g : Nat) (b : List UInt8), b.length ≤ f → b.length ≤ g → rnF f b = rnF g b
 | 0, g, b, h, _ => by
   obtain rfl : b = [] := List.length_eq_zero_iff.1 (by omega)
   rw [xxY, xxY]
 | f + 1, 0, b, _, h => by
   obtain rfl : b = [] := List.length_eq_zero_iff.1 (by omega)
   rw [xxY, xxY]
 | f + 1, g + 1, b, h1, h2 => by
   by_cases hb : b = []
   · rw [hb, xxY, xxY]
   · have := yyV hb
     rw [rnF, rnF, dif_neg hb, dif_neg hb, zqh f g _ (by rw [List.length_drop]; omega) (by rw [List.length_drop]; omega)]
theorem xqn : rnL [] = [] := rfl
theorem jjS {b : List UInt8} (h : b ≠ []) : rnL b = rnOf b h :: rnL (b.drop (zzk b)) := by
 have hp := yyV h
 have hl := List.length_pos_iff.2 h
 unfold rnL
 obtain ⟨k, hk⟩ : ∃ k, b.length = k + 1 := ⟨b.length - 1, by omega⟩
 rw [hk, rnF, dif_neg h, zqh k _ (b.drop (zzk b)) (by rw [List.length_drop]; omega) zN]
theorem xqo : ∀ (f : Nat) (b : List UInt8), (rnF f b).length ≤ b.length
 | 0, _ => Nat.zero_le _
 | f + 1, b => by
   by_cases h : b = []
   · rw [h, xxY]; exact Nat.le_refl _
   · have := yyV h
     have h2 := xxG b
     have h3 := xqo f (b.drop (zzk b))
     rw [rnF, dif_neg h, List.length_cons]
     rw [List.length_drop] at h3
     omega
theorem xqp (b : List UInt8) : (rnL b).length ≤ b.length := xqo _ b
theorem kqu {b : List UInt8} {j : Nat} (h : j < zzk b) : b[j]? = some (b.headD 0) := by
 have h1 : j < (b.takeWhile (· == b.headD 0)).length := by unfold zzk at h; omega
 obtain ⟨r, hr⟩ := List.takeWhile_prefix (l := b) (· == b.headD 0)
 have h2 : (b.takeWhile (· == b.headD 0))[j] = b.headD 0 := by
  have := List.all_eq_true.1 (List.all_takeWhile (p := (· == b.headD 0)) (l := b)) _ (List.getElem_mem h1)
  simpa using this
 have h3 : b[j]? = (b.takeWhile (· == b.headD 0) ++ r)[j]? := by rw [hr]
 rw [h3, List.getElem?_append_left h1, List.getElem?_eq_getElem h1, h2]
theorem zq3 {b : List UInt8} (h1 : zzk b < 130) (h2 : zzk b < b.length) : b[zzk b] ≠ b.headD 0 := by
 have e : zzk b = (b.takeWhile (· == b.headD 0)).length := by unfold zzk at *; omega
 intro hh
 have h3 : ∀ (l : List UInt8) (p : UInt8 → Bool) (hk : (l.takeWhile p).length < l.length), p (l[(l.takeWhile p).length]) = false := by
  intro l p
  induction l with
  | nil => intro hk; simp at hk
  | cons a r ih =>
    intro hk
    cases hp : p a with
    | false => simp [hp]
    | true =>
      simp only [List.takeWhile_cons, hp, if_true, List.length_cons, List.getElem_cons_succ] at hk ⊢
      exact ih (by simpa using hk)
 have h4 := h3 b (· == b.headD 0) (by rw [← e]; exact h2)
 simp only [← e] at h4
 rw [hh] at h4
 simp at h4
theorem zq4 {b : List UInt8} : b.take (zzk b) = List.replicate (zzk b) (b.headD 0) := by
 have hle := xxG b
 apply List.ext_getElem?
 intro j
 by_cases hj : j < zzk b
 · rw [List.getElem?_take_of_lt hj, kqu hj, List.getElem?_replicate, if_pos hj]
 · rw [List.getElem?_eq_none (by rw [List.length_take]; omega), List.getElem?_eq_none (by rw [List.length_replicate]; omega)]
theorem zq5 {b : List UInt8} {n : Nat} (h1 : 1 ≤ n) (h2 : n ≤ b.length) (h3 : n ≤ 130) (hs : ∀ j, j < n → b[j]? = some (b.headD 0)) (he : n = 130 ∨ n = b.length ∨ ∃ h : n < b.length, b[n] ≠ b.headD 0) : zzk b = n := by
 rcases Nat.lt_trichotomy (zzk b) n with h | h | h
 · have hb := zq3 (b := b) (by omega) (by omega)
   have := hs (zzk b) h
   rw [List.getElem?_eq_getElem (by omega)] at this
   exact absurd (Option.some.inj this) hb
 · exact h
 · have hle := xxG b
   have h130 := kqt b
   rcases he with he | he | ⟨hn, he⟩
   · omega
   · omega
   · have := kqu h
     rw [List.getElem?_eq_getElem hn] at this
     exact absurd (Option.some.inj this) he
def yyp (s : List UInt8 × List UInt8) (x : Rn) : List UInt8 × List UInt8 := if x.n < 3 then (s.1, s.2 ++ List.replicate x.n x.c) else (s.1 ++ yyW s.2 ++ [UInt8.ofNat (x.n - 3), x.c], [])
def xxr (l : List Rn) : List UInt8 × List UInt8 := l.foldl yyp ([], [])
theorem jjm (l : List Rn) (x : Rn) : xxr (l ++ [x]) = yyp (xxr l) x := by simp [xxr]
theorem rn_fold : ∀ (k : Nat) (b : List UInt8) (s : List UInt8 × List UInt8), b.length = k → Lit s.2 b → ((rnL b).foldl yyp s).1 ++ yyW ((rnL b).foldl yyp s).2 = s.1 ++ byB (s.2 ++ b) := by
 intro k
 induction k using Nat.strongRecOn with
 | _ k ih =>
   intro b s hk hl
   by_cases hb : b = []
   · subst hb
     rw [xqn, List.foldl_nil, kqs hl (.inl rfl), byB_nil, List.append_nil]
   · have hp := yyV hb
     have hle := xxG b
     rw [jjS hb, List.foldl_cons]
     have hlt : (b.drop (zzk b)).length < k := by rw [List.length_drop]; omega
     by_cases h3 : zzk b < 3
     · have e : yyp s (rnOf b hb) = (s.1, s.2 ++ b.take (zzk b)) := by
        unfold yyp rnOf
        rw [if_pos h3, zq4]
       rw [e, ih _ hlt _ _ rfl (lit_more hl h3 hb)]
       simp only
       rw [List.append_assoc s.2, List.take_append_drop]
     · have e : yyp s (rnOf b hb) = (s.1 ++ yyW s.2 ++ [UInt8.ofNat (zzk b - 3), b.headD 0], []) := by
        unfold yyp rnOf
        rw [if_neg h3]
       rw [e, ih _ hlt _ _ rfl (xqm _)]
       simp only
       rw [List.nil_append, byB_wait hl (by omega)]
       simp
theorem rn_done (b : List UInt8) : (xxr (rnL b)).1 ++ yyW (xxr (rnL b)).2 = byB b := by
 have := rn_fold b.length b ([], []) rfl (xqm b)
 rw [List.nil_append, List.nil_append] at this
 exact this
theorem uuz (l : List UInt8) : (yyW l).length ≤ 2 * l.length := by
 generalize hn : l.length = n
 induction n using Nat.strongRecOn generalizing l with
 | _ n ih =>
   by_cases h : l = []
   · subst h; simp [kqr]
   · have hp := List.length_pos_iff.2 h
     have := ih (l.drop 128).length (by rw [List.length_drop]; omega) (l.drop 128) rfl
     rw [vvB h, List.length_append, litB, List.length_cons, List.length_take]
     rw [List.length_drop] at this
     omega
theorem uuA : ∀ (l : List Rn), (xxr l).1.length + 2 * (xxr l).2.length ≤ 262 * l.length := by
 intro l
 have : ∀ (l : List Rn) (s : List UInt8 × List UInt8), (l.foldl yyp s).1.length + 2 * (l.foldl yyp s).2.length ≤ s.1.length + 2 * s.2.length + 262 * l.length := by
  intro l
  induction l with
  | nil => intro s; simp
  | cons x r ih =>
    intro s
    rw [List.foldl_cons, List.length_cons]
    have h1 := ih (yyp s x)
    have h2 : (yyp s x).1.length + 2 * (yyp s x).2.length ≤ s.1.length + 2 * s.2.length + 262 := by
     unfold yyp
     have hx := x.most
     split
     · simp; omega
     · have := uuz s.2
       simp; omega
    omega
 have h := this l ([], [])
 simpa [xxr] using h
end
section
open Go Go.RowKit
section
variable {P : Program} {ops : Array Oper} {o : Oper} {a : Act} {w : World} {Q : Exit → Act → World → Prop}
theorem wp_callee {K : Act → World → Prop} (f : FuncId) {fn : Func} (hfn : P.funcs[f]? = some fn) (hname : (fn.name == "runtime.NumGoroutine") = false) (hbody : fn.body.isNone = false)
 (xs : Array Operand) (ts : Array TypeId) (ho : o.op = .call { callee := .value (.func f), args := xs, argTypes := ts }) (vs : Array Value) (hv : xs.map a.eval = vs) {R : Ending → World → Prop} (h : Calls P f vs w R)
 (hR : ∀ e w', R e w' → ∃ v, e = .returned v ∧ K (a.put o.dst v) w') : o.wp P a w K Q := by
 have hrun : (execOp a.eval o).run P w = .ok (.enter f vs) w := by
  unfold execOp
  simp only [ho, resolve, hv]
  have h1 : ¬ fn.name = "runtime.NumGoroutine" := by simpa using hname
  have h2 : ¬ fn.body = none := fun e => by rw [e] at hbody; cases hbody
  simp [Act.eval, Deferred.ofValue, invoke, callFunc, hfn, h1, h2]
 unfold Oper.wp
 rw [hrun, Oper.upon_enter]
 refine h.mono fun e w' hr => ?_
 obtain ⟨v, rfl, hk⟩ := hR e w' hr
 exact hk
theorem qzQ {K : Act → World → Prop} {E' : Prop} (hgd : o.guard = none) (f : FuncId) {fn : Func} (hfn : P.funcs[f]? = some fn) (hname : (fn.name == "runtime.NumGoroutine") = false) (hbody : fn.body.isNone = false)
 (xs : Array Operand) (ts : Array TypeId) (ho : o.op = .call { callee := .value (.func f), args := xs, argTypes := ts }) (vs : Array Value) (hv : xs.map a.eval = vs) {R : Ending → World → Prop} (h : Calls P f vs w R)
 (hR : ∀ e w', R e w' → ∃ v, e = .returned v ∧ K (a.put o.dst v) w') : if Region.wanted o (yielded ops a.tmps) = true then Oper.wp P o a w K Q else E' := by
 have hw : Region.wanted o (yielded ops a.tmps) = true := by simp [Region.wanted, hgd]
 rw [if_pos hw]
 exact wp_callee f hfn hname hbody xs ts ho vs hv h hR
theorem kqT {K : Act → World → Prop} {E' : Prop} (hgd : o.guard = none) (f : FuncId) {fn : Func} (hfn : P.funcs[f]? = some fn) (hname : (fn.name == "runtime.NumGoroutine") = false) (hbody : fn.body.isNone = false)
 (x y : Operand) (ts : Array TypeId) (ho : o.op = .call { callee := .value (.func f), args := #[x, y], argTypes := ts }) (u v : Value) (hx : a.eval x = u) (hy : a.eval y = v) {R : Ending → World → Prop} (h : Calls P f #[u, v] w R)
 (hR : ∀ e w', R e w' → ∃ v, e = .returned v ∧ K (a.put o.dst v) w') : if Region.wanted o (yielded ops a.tmps) = true then Oper.wp P o a w K Q else E' :=
 qzQ hgd f hfn hname hbody #[x, y] ts ho #[u, v] (by simp [hx, hy]) h hR
end
end
section
open Go Go.RowKit
section
variable {P : Program} {ops : Array Oper} {Q : Exit → Act → World → Prop} {md : Region.Mode} {n : Nat}
theorem uu9 {o : Oper} {K : Act → World → Prop} {a : Act} {w : World} (hd : ∀ c, o.op ≠ .defer c) (h : Oper.wp P o a w K Q) : Oper.wpIn Fence.wide n P o a w K Q := by
 unfold Oper.wp at h
 unfold Oper.wpIn
 refine ⟨fun _ _ => trivial, ?_⟩
 rw [Oper.semAt_eq _ _ _ hd]
 generalize (execOp a.eval o).run P w = r at *
 cases r with
 | ok x w' =>
   cases x <;> simp only [Oper.upon, Oper.uponIn] at h ⊢
   case value => exact h
   case skip => exact h
   case defer => exact h
   case enter f args => exact ⟨fun e => (by cases e), callsIn_wide.2 h⟩
   case row row args => exact ⟨fun e => (by cases e), fun c cs _ => let ⟨v, w', r, s⟩ := h c cs; ⟨v, w', r, stepsIn_wide.2 s⟩⟩
 | halt x w' =>
   cases x <;> simp only [Oper.upon, Oper.uponIn] at h ⊢
   case panic => exact h
theorem qz5 (hd : xxd ops = true) (hQ : ¬ LetsOut Q) {i : Nat} {K : Act → World → Prop} {a : Act} {w : World} (h : wpOp P ops Q i K a w) : wpOpIn Fence.wide n P ops Q i K a w := by
 unfold wpOp at h
 unfold wpOpIn
 cases ho : ops[i]? with
 | none => simp only [ho] at h ⊢; exact h
 | some o =>
   simp only [ho] at h ⊢
   by_cases hw : Region.wanted o (yielded ops a.tmps) = true
   · rw [if_pos hw] at h ⊢
     rcases h with h | ⟨_, h⟩
     · exact uu9 (jjl hd ho) h
     · exact absurd h hQ
   · rw [if_neg hw] at h ⊢
     exact ⟨fun _ _ => trivial, h⟩
theorem vvT (hd : xxd ops = true) (hQ : ¬ LetsOut Q) : ∀ (fuel : Nat) (listed : Array Bool) (a : Act) (w : World), wpAny P md ops Q fuel listed a w → wpAnyIn Fence.wide n P md ops Q fuel listed a w
 | 0, _, _, _, h => h
 | fuel + 1, _, _, _, h => ⟨h.1, fun i hi => qz5 hd hQ (wpOp_mono (fun a' w' h' => vvT hd hQ fuel _ a' w' h') (h.2 i hi))⟩
theorem regLw (cs : List (Option Nat × (World → Prop))) {id : Nat} {a : Act} {w : World} (hm : P.follows .mixedOrders = true) (hd : xxd ops = true) (hS : SL cs (Array.replicate ops.size false) w.drew)
 (h : SL cs (Array.replicate ops.size false) w.drew → zzM P .any ops (fun e a w => e = .normal ∧ Q .normal a w) cs ops.size (Array.replicate ops.size false) a w.drew) : (Code.region id ops true).wpIn Fence.wide n P Q a w :=
 wpIn_mono (wpIn_region_any hm (vvT hd zqf _ _ _ _ (xxF _ _ _ _ (h hS)))) fun _ _ _ h => by rw [h.1]; exact h.2
end
end
end Go.Proofs.YtpmglcachffojaaGreatDoor
