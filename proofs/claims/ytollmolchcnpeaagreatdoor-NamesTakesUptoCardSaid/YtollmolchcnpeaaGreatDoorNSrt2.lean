/- slices.SortFunc of directories that may be: a permutation, each one ahead of those behind it. -/
import Derived.Test.YtollmolchcnpeaaGreatDoorNSort
import Derived.Test.YtollmolchcnpeaaGreatDoorShelf
namespace Go.Proofs.YtollmolchcnpeaaGreatDoor
open Go Go.RowKit

def encM (x : MD) : List Value := encD x.1
theorem flat_cells (d : Array MD) : (Go.Sort.flatK encM 3 d).toList = cellsD (d.toList.map (·.1)) := by
  apply List.ext_getElem?
  intro j
  by_cases hj : j < d.size * 3
  · have h3 : j / 3 < d.size := by omega
    have hm : j % 3 < 3 := Nat.mod_lt _ (by decide)
    have hl : j / 3 < (d.toList.map (·.1)).length := by simpa using h3
    have e2 : (d.toList.map (·.1))[j / 3] = (d[j / 3]!).1 := by rw [getElem!_pos d _ h3]; simp
    have hlen : (encM d[j / 3]!).length = 3 := rfl
    have e := cellsD_get (d.toList.map (·.1)) (j / 3) (j % 3) hl ((encM d[j / 3]!)[j % 3]!) (by
      rw [e2]
      show (encM d[j / 3]!)[j % 3]? = _
      rw [getElem!_pos _ (j % 3) (by rw [hlen]; exact hm)]
      exact List.getElem?_eq_getElem _)
    rw [show j / 3 * 3 + j % 3 = j by omega] at e
    rw [e]
    have g := Go.Sort.get_flatK encM 3 d j hj
    rw [getElem!_pos _ j (by rw [Go.Sort.size_flatK]; exact hj)] at g
    rw [Array.getElem?_toList, Array.getElem?_eq_getElem (by rw [Go.Sort.size_flatK]; exact hj), g]
  · rw [List.getElem?_eq_none (by simp; omega), List.getElem?_eq_none (by rw [cellsD_len]; simp; omega)]
theorem take_put (cur F : Array Value) (h : F.size ≤ cur.size) : (Go.Sort.putCells id 0 F cur).toList.take F.size = F.toList := by
  apply List.ext_getElem?
  intro j
  by_cases hj : j < F.size
  · rw [List.getElem?_take_of_lt hj, Array.getElem?_toList, Array.getElem?_toList]
    simp [Go.Sort.putCells, hj, show j < cur.size by omega]
  · rw [List.getElem?_take_eq_none (by omega), List.getElem?_eq_none (by simp; omega)]

def SortPost (l : List DD) (B : Nat) (A : Option Addr) (n c : Nat) (w : World) (e : Ending) (w' : World) : Prop :=
  e = .returned (.tuple #[]) ∧ ∃ l', l'.Perm l ∧ l'.Pairwise Fore ∧ OwnD w' B A n c l' ∧ Below B w w'

theorem own_sorted {w : World} {B g n c k : Nat} {os : Array Obj} {l : List DD} (h : OwnD w B (some ⟨g, 0, none⟩) n c l) (d : Array MD) (hd : d.size = n) :
    OwnD (sortWorldK encM 3 w g 0 k d os) B (some ⟨g, 0, none⟩) n c (d.toList.map (·.1)) ∧ Below B w (sortWorldK encM 3 w g 0 k d os) := by
  have hb := h.base
  refine ⟨⟨⟨by rw [cellsD_len]; simp [hd], ?_⟩, fun x hx => ?_⟩, ?_⟩
  · rcases h.row.2 with ⟨h1, _⟩ | ⟨g', cap, cur, h1, h2, h3, h4, h5, h6, h7⟩
    · cases h1
    · injection h1 with e1 e2 e3
      injection e1 with e1; injection e1 with e1 _ _
      subst e1 e3
      refine .inr ⟨g, c, Go.Sort.putCells id 0 (Go.Sort.flatK encM 3 d) cur, rfl, h2, ?_, h4, h5, by simp [Go.Sort.putCells, h6], ?_⟩
      · show (Go.Sort.grow _ os).heap[g]? = _
        rw [Go.Sort.heap_grow_old _ _ (by simpa [Go.Sort.putRowK] using hb.2)]
        simp [Go.Sort.putRowK, Go.Sort.putRow, Go.Sort.mapBlock, Go.Sort.ahead, Array.getElem?_modify, h3, Go.Sort.onCells]
      · have := take_put cur (Go.Sort.flatK encM 3 d) (by rw [Go.Sort.size_flatK, hd, h6]; omega)
        rw [Go.Sort.size_flatK, hd] at this
        rw [this, flat_cells]
  · obtain ⟨y, _, rfl⟩ := List.mem_map.1 hx
    exact may_ok y.2
  · have hg : w.grownBy (sortWorldK encM 3 w g 0 k d os) (some g) := by
      refine ⟨rfl, rfl, rfl, by simp [sortWorldK, Go.Sort.putRowK], fun j hj hne => ?_⟩
      show (Go.Sort.grow _ os).heap[j]? = _
      rw [Go.Sort.heap_grow_old _ _ (by simpa [Go.Sort.putRowK] using hj)]
      have : g ≠ j := fun e => hne (by rw [e])
      simp [Go.Sort.putRowK, Go.Sort.putRow, Go.Sort.mapBlock, Go.Sort.ahead, Array.getElem?_modify, this]
    exact (Below.refl B w).grown hg (by omega) (fun j hj => by cases hj; exact hb.1)

theorem sortD_any (B n c : Nat) (A : Option Addr) (l : List DD) (w : World) (h : OwnD w B A n c l) (hm : ∀ d ∈ l, may d = true) (hn : n ≤ 68719476736) :
    Calls Tryz.prog 24 #[.slice A n c, .func (.func 25) #[] #[]] w (SortPost l B A n c w) := by
  rcases Nat.eq_zero_or_pos n with h0 | hpos
  · subst h0
    have hl : l = [] := List.eq_nil_of_length_eq_zero h.len.symm
    refine (show Calls Tryz.prog 24 _ w _ from AnyF.slices_SortFunc_none { Tryz.sortDir with } A c (.func (.func 25) #[] #[]) w).mono ?_
    rintro e w' ⟨rfl, rfl⟩
    subst hl
    exact ⟨rfl, [], .refl _, .nil, h, Below.refl _ _⟩
  · obtain ⟨g, rfl⟩ : ∃ g, A = some ⟨g, 0, none⟩ := by
      rcases h.row.2 with ⟨_, h2⟩ | ⟨g, cap, cur, h1, _⟩
      · omega
      · injection h1 with h1; exact ⟨g, h1⟩
    have hlen := h.len
    obtain ⟨L, hL⟩ : ∃ L : List MD, L.map (·.1) = l := ⟨l.attach.map fun x => ⟨x.1, hm x.1 x.2⟩, by rw [List.map_map]; exact (show l.attach.map (fun i => id i.val) = l from (List.attach_map_val (f := id)).trans (List.map_id l))⟩
    have hLl : L.length = n := by rw [hlen, ← hL, List.length_map]
    have hsz : L.toArray.size = n := by rw [List.size_toArray, hLl]
    have hH : Go.Sort.HoldsK encM 3 w g 0 L.toArray := by
      intro j hj
      rw [Go.Sort.size_flatK, hsz] at hj
      refine ⟨?_, by rw [Nat.zero_add]; exact h.free j⟩
      have e := flat_cells L.toArray
      rw [show L.toArray.toList = L from List.toList_toArray .., hL] at e
      have g1 : (Go.Sort.flatK encM 3 L.toArray)[j]? = (cellsD l)[j]? := by rw [← Array.getElem?_toList, e]
      rw [Nat.zero_add, h.row.cellAt j (by omega), ← g1]
      rw [getElem!_pos _ j (by rw [Go.Sort.size_flatK, hsz]; exact hj)]
      exact Array.getElem?_eq_getElem _
    have hcmp : CmpLays Tryz.prog 25 #[] encM 3 cfM g 0 L.toArray.size w := fun _ _ _ _ x y => ahead_any x.1 y.1 x.2 y.2 _
    have eg : ∀ args w, (callFunc 25 args).run Tryz.prog w = .ok (.enter 25 args) w := enters_of Tryz.func25 (by kernel_rfl) rfl
    have hcon := AnyQ.slices_SortFunc Tryz.sortDir 3 Tryz.isAgg24 Tryz.sizeOf24 encM (fun _ => rfl) (fun x v hv => by simp [encM, encD] at hv; rcases hv with rfl | rfl | rfl <;> rfl) cfM swoM 25 #[] g 0 c L.toArray w eg hcmp hH h.base.2 (by rw [hsz]; omega)
    change Calls Tryz.prog 24 _ _ _ at hcon
    rw [hsz] at hcon
    refine hcon.mono ?_
    rintro e w' ⟨rfl, d', q, os, hp, hs, rfl⟩
    have hd : d'.size = n := hp.1.trans hsz
    obtain ⟨ho, hb⟩ := own_sorted (k := q) (os := os) h d' hd
    refine ⟨rfl, d'.toList.map (·.1), ?_, ?_, ho, hb⟩
    · have hperm := hp.2.2
      rw [show d'.extract 0 n = d' by rw [← hd]; simp, show L.toArray.extract 0 n = L.toArray by rw [← hsz]; simp] at hperm
      rw [← hL]
      have := hperm.map (·.1)
      simpa using this
    · rw [List.pairwise_map, List.pairwise_iff_getElem]
      intro i j hi hj hij
      have hj' : j < n := by rw [← hd]; simpa using hj
      have hs2 := hs i j (Nat.zero_le _) hij hj'
      rw [getElem!_pos d' j (by omega), getElem!_pos d' i (by omega), ltM, decide_eq_false_iff_not] at hs2
      show Fore (d'.toList[i]).1 (d'.toList[j]).1
      rw [Array.getElem_toList, Array.getElem_toList]
      unfold Fore
      omega
end Go.Proofs.YtollmolchcnpeaaGreatDoor
