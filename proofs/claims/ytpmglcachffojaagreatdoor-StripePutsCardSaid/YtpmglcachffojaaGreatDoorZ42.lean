/- A part of what Puts leans on. -/
import Derived.Test.YtpmglcachffojaaGreatDoorZ39
set_option maxRecDepth 100000
set_option maxHeartbeats 16000000
namespace Go.Proofs.YtpmglcachffojaaGreatDoor
section
open Go Go.RowKit
def zz0 (rows : List RR) (k : Nat) : List RR := (rows.drop (8 * k)).take 8
def vvG (cols : List CC) (rows : List RR) (k : Nat) : List UInt8 := ((List.range k).map fun j => xxH cols (zz0 rows j) cols.length).flatten
def stR (cols : List CC) (rows : List RR) (k : Nat) : List ST := (List.range k).map fun j => zzL cols (zz0 rows j)
def nP (rows : List RR) : Nat := (rows.length + 7) / 8
def putE (cols : List CC) (rows : List RR) : Int := if schB cols then (if rows.length ≤ 32 then (if rows.all (rowB cols) then 0 else 21) else 3) else 20
def putD (cols : List CC) (rows : List RR) : List UInt8 := if putE cols rows = 0 then vvG cols rows (nP rows) else []
def putS (cols : List CC) (rows : List RR) : List ST := if putE cols rows = 0 then stR cols rows (nP rows) else []
theorem uu0 {cols : List CC} {rows : List RR} (h : schB cols = false) : putE cols rows = 20 := if_neg (by rw [h]; decide)
theorem uu1 {cols : List CC} {rows : List RR} (h : schB cols = true) (h2 : ¬ rows.length ≤ 32) : putE cols rows = 3 := by unfold putE; rw [if_pos h, if_neg h2]
theorem uu2 {cols : List CC} {rows : List RR} (h : schB cols = true) (h2 : rows.length ≤ 32) (h3 : rows.all (rowB cols) = false) : putE cols rows = 21 := by unfold putE; rw [if_pos h, if_pos h2, if_neg (by rw [h3]; decide)]
theorem jjW {cols : List CC} {rows : List RR} (h : schB cols = true) (h2 : rows.length ≤ 32) (h3 : rows.all (rowB cols) = true) : putE cols rows = 0 := by unfold putE; rw [if_pos h, if_pos h2, if_pos h3]
theorem qxD {cols : List CC} {rows : List RR} (h : putE cols rows ≠ 0) : putD cols rows = [] ∧ putS cols rows = [] := ⟨if_neg h, if_neg h⟩
theorem jjX {cols : List CC} {rows : List RR} (h : putE cols rows = 0) : putD cols rows = vvG cols rows (nP rows) ∧ putS cols rows = stR cols rows (nP rows) := ⟨if_pos h, if_pos h⟩
theorem kqz (cols : List CC) (rows : List RR) (k : Nat) : vvG cols rows (k + 1) = vvG cols rows k ++ xxH cols (zz0 rows k) cols.length := by
 unfold vvG; rw [List.range_succ, List.map_append, List.flatten_append]; simp
theorem stR_succ (cols : List CC) (rows : List RR) (k : Nat) : stR cols rows (k + 1) = stR cols rows k ++ [zzL cols (zz0 rows k)] := by
 unfold stR; rw [List.range_succ, List.map_append]; rfl
theorem stR_len (cols : List CC) (rows : List RR) (k : Nat) : (stR cols rows k).length = k := by unfold stR; simp
theorem xxo (rows : List RR) (k : Nat) : (zz0 rows k).length = min 8 (rows.length - 8 * k) := by unfold zz0; simp
theorem xxp {rows : List RR} {k : Nat} {r : RR} (h : r ∈ zz0 rows k) : r ∈ rows := List.mem_of_mem_drop (List.mem_of_mem_take h)
theorem qz9 (cols : List CC) (rows : List RR) (hc : cols.length ≤ 6) : ∀ k, (vvG cols rows k).length ≤ k * 30000024
 | 0 => by simp [vvG]
 | k + 1 => by
   have ih := qz9 cols rows hc k
   have h1 := xxm cols (zz0 rows k) (by rw [xxo]; omega) cols.length
   have h2 : cols.length * 5000004 ≤ 6 * 5000004 := Nat.mul_le_mul_right 5000004 hc
   rw [kqz, List.length_append, Nat.succ_mul]
   omega
theorem uu3 {cols : List CC} {r : RR} (h : rowB cols r = true) : r.length = cols.length := by
 unfold rowB at h
 rw [Bool.and_eq_true, decide_eq_true_eq] at h
 exact h.1.symm
theorem uua {cols : List CC} (h : schB cols = true) : 1 ≤ cols.length ∧ cols.length ≤ 6 := by
 unfold schB at h
 rw [Bool.and_eq_true, decide_eq_true_eq] at h
 exact h.1
theorem mayV_size {k : Int} {v : VV} (h : mayV k v = true) : v.s.size ≤ 300 := by
 unfold mayV at h
 split at h
 · split at h
   · have := of_decide_eq_true h; omega
   · split at h
     · have := of_decide_eq_true h; omega
     · have := of_decide_eq_true h; omega
 · split at h
   · split at h
     · have := of_decide_eq_true h; omega
     · have := of_decide_eq_true h; omega
   · cases h
theorem rows_may {cols : List CC} {r : RR} (h : rowB cols r = true) {j : Nat} (hj : j < cols.length) : mayV (kd cols j) (r.getD j VV.zero) = true := by
 have hl := uu3 h
 unfold rowB at h
 rw [Bool.and_eq_true, List.all_eq_true] at h
 have hj2 : j < r.length := by rw [hl]; exact hj
 have hz : j < (cols.zip r).length := by rw [List.length_zip]; omega
 have h3 := h.2 _ (List.getElem_mem hz)
 rw [List.getElem_zip] at h3
 rw [kd_at hj rfl, List.getD_eq_getElem?_getD, List.getElem?_eq_getElem hj2]
 exact h3
theorem stats_ok {k : Int} {l : List VV} (hv : ∀ v ∈ l, v.ok) (hm : ∀ v ∈ l, v.s.size ≤ 300) (hl : l.length ≤ 4096) : (zzs k l).ok := by
 obtain ⟨h1, h2, h3, h4⟩ := jjP k l hv hl
 have h5 := s0_mem l
 refine ⟨h1, h2, h3, h4, ?_, ?_⟩
 · rcases h5.1 with h | h
   · show (s0Of l).min.s.size ≤ _; rw [h]; decide
   · have := hm _ h; show (s0Of l).min.s.size ≤ _; omega
 · rcases h5.2 with h | h
   · show (s0Of l).max.s.size ≤ _; rw [h]; decide
   · have := hm _ h; show (s0Of l).max.s.size ≤ _; omega
theorem stride_ok {cols : List CC} {rows : List RR} (hs : schB cols = true) (hr : ∀ r ∈ rows, rowB cols r = true) (ho : ∀ r ∈ rows, ∀ v ∈ r, VV.ok v) (hl : rows.length ≤ 4096) : stOk (zzL cols rows) := by
 refine ⟨by show (xxL cols rows cols.length).length ≤ 20; rw [qz0]; have := uua hs; omega, fun z hz => ?_⟩
 have hz : z ∈ xxI cols rows cols.length := hz
 unfold xxI at hz
 obtain ⟨j, hj, rfl⟩ := List.mem_map.1 hz
 rw [List.mem_range] at hj
 refine stats_ok (fun v hv => ?_) (fun v hv => ?_) (by rw [uuV]; exact hl)
 · unfold colV at hv
   obtain ⟨r, hr1, rfl⟩ := List.mem_map.1 hv
   have hlen := uu3 (hr r hr1)
   have hj2 : j < r.length := by rw [hlen]; exact hj
   rw [List.getD_eq_getElem?_getD, List.getElem?_eq_getElem hj2]
   exact ho r hr1 _ (List.getElem_mem hj2)
 · unfold colV at hv
   obtain ⟨r, hr1, rfl⟩ := List.mem_map.1 hv
   exact mayV_size (rows_may (hr r hr1) hj)
theorem putS_ok {cols : List CC} {rows : List RR} (ho : ∀ r ∈ rows, ∀ v ∈ r, VV.ok v) : (putS cols rows).length ≤ 5 ∧ ∀ s ∈ putS cols rows, stOk s := by
 by_cases h : putE cols rows = 0
 · have hs : schB cols = true := by
    cases hq : schB cols with
    | true => rfl
    | false => rw [uu0 hq] at h; exact absurd h (by decide)
   have h32 : rows.length ≤ 32 := by
    by_cases h2 : rows.length ≤ 32
    · exact h2
    · rw [uu1 hs h2] at h; exact absurd h (by decide)
   have hall : rows.all (rowB cols) = true := by
    cases hq : rows.all (rowB cols) with
    | true => rfl
    | false => rw [uu2 hs h32 hq] at h; exact absurd h (by decide)
   rw [List.all_eq_true] at hall
   rw [(jjX h).2]
   refine ⟨by rw [stR_len]; unfold nP; omega, fun s hs2 => ?_⟩
   unfold stR at hs2
   obtain ⟨k, _, rfl⟩ := List.mem_map.1 hs2
   exact stride_ok hs (fun r hr => hall r (xxp hr)) (fun r hr => ho r (xxp hr)) (by rw [xxo]; omega)
 · rw [(qxD h).2]
   exact ⟨by simp, by simp⟩
def uuD (cols : List CC) (rows : List RR) (w : World) (e : Ending) (w' : World) : Prop :=
 ∃ A n c A1 n1 c1, e = .returned (.tuple #[.slice A n c, .slice A1 n1 c1, .int .i64 (putE cols rows)]) ∧ Sl tU8 (fun b => w.heap.size ≤ b) w' A n c (putD cols rows) ∧ Sl tSt (fun b => w.heap.size ≤ b) w' A1 n1 c1 (putS cols rows) ∧ Below w.heap.size w w'
end
section
open Go Go.RowKit
theorem r20put_no (F F2 : Nat → Prop) (A A2 : Option Addr) (n c n2 c2 : Nat) (cols : List CC) (rows : List RR) (w : World) (h : Sl tCol F w A n c cols) (h2 : Sl tRow F2 w A2 n2 c2 rows) (hn : n ≤ 4096) (hn2 : n2 ≤ 4096) (hU : Lib.Utf8Tabs 0 1 w) (hE : putE cols rows ≠ 0) :
 Calls Tryz.prog 21 #[.slice A n c, .slice A2 n2 c2] w (uuD cols rows w) := by
 have HH := zH h; have HH2 := zH h2; have HL := zH h.len; have HL2 := zH h2.len; have HU := zH hU; have HN := zH hn; have HN2 := zH hn2
 have hd := qxD hE
 suffices hs : Calls Tryz.prog 21 #[.slice A n c, .slice A2 n2 c2] w (fun e w' => e = .returned (.tuple #[.slice none 0 0, .slice none 0 0, .int .i64 (putE cols rows)]) ∧ Below w.heap.size w w') by
  refine hs.mono ?_
  rintro e w' ⟨rfl, hb⟩
  unfold uuD
  rw [hd.1, hd.2]
  exact ⟨none, 0, 0, none, 0, 0, rfl, Sl.nil_ _ _ _, Sl.nil_ _ _ _, hb⟩
 clear hd
 cases hs : schB cols with
 | false =>
   have HE := zH (uu0 (rows := rows) hs)
   have HS := zH (yyv hs)
   clear hs hE h h2 hn hn2 hU
   go_enter Tryz.func21, Tryz.ntmps21
   go_wp2_with (first
    | (go_at_call 56; refine (xxG F A n c cols _ HH.out).mono ?_; rintro e w1 ⟨rfl, hb1⟩; rw [HS.out]; have HB1 := zH hb1; clear hb1)
    | fail)
   go_ret3
   exact ⟨by rw [HE.out]; rfl, HB1.out⟩
 | true =>
   have HS := zH (vvj hs)
   by_cases h32 : rows.length ≤ 32
   · have hall : rows.all (rowB cols) = false := by
      cases hq : rows.all (rowB cols) with
      | false => rfl
      | true => exact absurd (jjW hs h32 hq) hE
     have HE := zH (uu2 hs h32 hall)
     have HA := zH hall
     have c1 : ¬ (n2 : Int) > 32 := by have := HL2.out; omega
     have HN32 := zH (show n2 ≤ 32 by have := HL2.out; omega)
     clear hs hE h h2 hn hn2 hU h32 hall
     go_enter Tryz.func21, Tryz.ntmps21
     go_wp2_with (first
      | (go_at_call 56; refine (xxG F A n c cols _ HH.out).mono ?_; rintro e w1 ⟨rfl, hb1⟩; rw [HS.out]; have HB1 := zH hb1; clear hb1)
      | fail)
     clear c1
     go_loopw [8] (fun iv wr => ∃ i : Nat, i ≤ n2 ∧ iv = .int .i64 (i : Int) ∧ Below w.heap.size w wr ∧ (rows.take i).all (rowB cols) = true) (fun iv _ => n2 - (intOf iv).toNat)
     case atStart => exact ⟨0, Nat.zero_le _, rfl, HB1.out, by rw [List.take_zero]; rfl⟩
     case round =>
      obtain ⟨i, hi, rfl, hb, hv⟩ := hrel
      have HB := zH hb; have HV := zH hv
      clear hb hv
      by_cases hlt : i < n2
      · have hil : i < rows.length := by rw [← HL2.out]; exact hlt
        obtain ⟨b, o, cs, rfl, _, _, hrep, hc⟩ := (HH2.out.below HB.out zN).at_ hil (by decide)
        obtain ⟨r, hr⟩ : ∃ r, r = rows[i] := ⟨_, rfl⟩
        rw [← hr] at hrep
        have HR := zH hr
        obtain ⟨A3, n3, c3, rfl, h3⟩ := hrep
        have H3 := zH h3
        have y := hc 0 _ rfl
        have y : wr.cell? ⟨b, o + i, none⟩ = some (.slice A3 n3 c3) := by
         have e : o + (i * tRow.size + 0) = o + i := by show o + (i * 1 + 0) = o + i; omega
         rw [e] at y; exact y
        have i0 : (0 : Int) ≤ (i : Int) := by omega
        have i1 : (i : Int) < (n2 : Int) := by omega
        have i2 : (i : Int) ≤ 32 := by have := HN32.out; omega
        clear hc hr h3
        cases hrb : rowB cols r with
        | false =>
          have HRE := zH (uur hrb)
          clear hrb
          go_wp2_with (first
           | (go_at_call 57; refine (kqY F _ A A3 n c n3 c3 cols r _ (HH.out.below HB.out zN) H3.out HN.out (zzc HU.out HB.out)).mono ?_; rintro e w3 ⟨rfl, hb3⟩; rw [HRE.out]; have HB3 := zH (HB.out.trans (hb3.mono HB.out.size)); clear hb3)
           | fail)
          go_ret3
          exact ⟨by rw [HE.out]; rfl, HB3.out⟩
        | true =>
          have HRE := zH (vvc hrb)
          have HV2 := zH (show (rows.take (i + 1)).all (rowB cols) = true by rw [yyJ hil HR.out, HV.out]; exact hrb)
          clear hrb
          go_wp2_with (first
           | (go_at_call 57; refine (kqY F _ A A3 n c n3 c3 cols r _ (HH.out.below HB.out zN) H3.out HN.out (zzc HU.out HB.out)).mono ?_; rintro e w3 ⟨rfl, hb3⟩; rw [HRE.out]; have HB3 := zH (HB.out.trans (hb3.mono HB.out.size)); clear hb3)
           | fail)
          go_roundw
          case rel => exact ⟨i + 1, by omega, by go_num, HB3.out, HV2.out⟩
          case measure => simp [intOf]; omega
      · obtain rfl : i = n2 := by omega
        have h1 := HV.out
        rw [zL (by rw [← HL2.out]; exact Nat.le_refl _), HA.out] at h1
        cases h1
   · have HE := zH (uu1 hs h32)
     have c1 : (n2 : Int) > 32 := by have := HL2.out; omega
     clear hs hE h h2 hn hn2 hU h32
     go_enter Tryz.func21, Tryz.ntmps21
     go_wp2_with (first
      | (go_at_call 56; refine (xxG F A n c cols _ HH.out).mono ?_; rintro e w1 ⟨rfl, hb1⟩; rw [HS.out]; have HB1 := zH hb1; clear hb1)
      | fail)
     go_ret3
     exact ⟨by rw [HE.out]; rfl, HB1.out⟩
end
section
open Go Go.RowKit
theorem zqU (F : Nat → Prop) (A : Option Addr) (n c : Nat) (rows : List RR) (w : World) (h : Sl tRow F w A n c rows) :
 Calls Tryz.prog 18 #[.slice A n c] w fun e w' => (∃ A2 n2 c2, e = .returned (.slice A2 n2 c2) ∧ Sl tRow F w A2 n2 c2 (rows.take 40) ∧ n2 ≤ 40) ∧ w = w' := by
 have HH := zH h; have HL := zH h.len
 have hc := h.2.1
 by_cases h40 : n > 40
 · have c1 : (n : Int) > 40 := by omega
   have c2 : (40 : Int) ≤ (c : Int) := by omega
   have hcut := h.cut (lo := 0) (hi := 40) (by omega) (by omega)
   have HC := zH hcut
   clear h hcut hc
   go_enter Tryz.func18, Tryz.ntmps18
   go_wp2_with fail
   go_ret
   refine ⟨⟨A, 40, c, rfl, ?_, by omega⟩, rfl⟩
   have h2 := HC.out
   have e : (if c = 0 then A else A.map (·.add (0 * tRow.size))) = A := by
    split
    · rfl
    · cases A <;> simp [Addr.add]
   rw [e] at h2
   simpa using h2
 · have c1 : ¬ (n : Int) > 40 := by omega
   have e1 : rows.take 40 = rows := zL (by rw [← HL.out]; omega)
   have HE := zH e1
   have HN := zH (show n ≤ 40 by omega)
   clear h e1 h40
   go_enter Tryz.func18, Tryz.ntmps18
   go_wp2_with fail
   go_ret
   exact ⟨⟨A, n, c, rfl, by rw [HE.out]; exact HH.out, HN.out⟩, rfl⟩
theorem xqI (F : Nat → Prop) (A : Option Addr) (n c : Nat) (l : List ST) (w : World) (h : Sl tSt F w A n c l) (hn : n ≤ 4096) :
 Calls Tryz.prog 23 #[.slice A n c] w fun e w' => ∃ A2 c2, e = .returned (.slice A2 n c2) ∧ Sl tSt (fun b => F b ∨ w.heap.size ≤ b) w' A2 n c2 l ∧ Below w.heap.size w w' := by
 have HL := zH h.len; have HN := zH hn
 have HH := zH (h.weaken (F' := fun b => F b ∧ b < w.heap.size) fun b hb hl => ⟨hb, hl⟩)
 clear h hn
 go_enter Tryz.func23, Tryz.ntmps23
 go_wp2_with fail
 go_loopw [3, 4] (fun ov iv wr => ∃ (i : Nat) (A2 : Option Addr) (c2 : Nat), i ≤ n ∧ iv = .int .i64 (i : Int) ∧ ov = .slice A2 i c2 ∧ OwnF tSt 106 (fun b => F b ∧ b < w.heap.size) wr w.heap.size A2 i c2 (l.take i) ∧ Below w.heap.size w wr) (fun _ iv _ => n - (intOf iv).toNat)
 case atStart => exact ⟨0, _, _, Nat.zero_le _, rfl, rfl, OwnF.empty _ _ _ _ _ zN (fun _ hb => hb.2), (zR).alloc zN _⟩
 case round =>
  obtain ⟨i, A2, c2, hi, rfl, rfl, ho, hb⟩ := hrel
  have HO := zH ho; have HB := zH hb
  clear ho hb
  by_cases hlt : i < n
  · have hil : i < l.length := by rw [← HL.out]; exact hlt
    obtain ⟨b, o, cs, rfl, hbF, hbl, hrep, hc⟩ := (HH.out.below HB.out zN).at_ hil (by decide)
    obtain ⟨x, hx⟩ : ∃ x, x = l[i] := ⟨_, rfl⟩
    rw [← hx] at hrep
    have HR0 := zH hrep
    obtain ⟨A3, n3, c3, A4, n4, c4, rfl, h3, h4⟩ := yyX hrep
    obtain ⟨rw_, lg, st⟩ := x
    obtain ⟨g0, g1, g2⟩ := zzR hc
    have g0 : wr.cell? ⟨b, o + i * 3, none⟩ = some (.int .i64 rw_) := g0
    have HX := zH (show l.take (i + 1) = l.take i ++ [(rw_, lg, st)] by rw [zT hil, ← hx])
    have HR : Hid (tSt.rep (fun b => F b ∧ b < w.heap.size) wr [.int .i64 rw_, .slice A3 n3 c3, .slice A4 n4 c4] (rw_, lg, st)) := HR0
    have HBF := zH hbF
    have i0 : (0 : Int) ≤ (i : Int) := by omega
    have i1 : (i : Int) < (n : Int) := by omega
    have i2 : (i : Int) ≤ 4096 := by have := HN.out; omega
    have HM : Hid (i ≤ 34359738368) := zH (by omega)
    clear hc hx hrep h3 h4 hbF HR0
    go_wp2_with fail
    go_region_held3 (fun w' => w'.cell? ⟨b, o + i * 3, none⟩ = some (.int .i64 rw_) ∧ w'.cell? ⟨b, o + i * 3 + 1, none⟩ = some (.slice A3 n3 c3) ∧ w'.cell? ⟨b, o + i * 3 + 2, none⟩ = some (.slice A4 n4 c4))
     (first | go_keep | (go_split_ands; refine ⟨?_, ?_, ?_⟩ <;> exact h5.grown.cell (by assumption) (fun e => by have h1 : w.heap.size ≤ b := (HO.out.lies' e.symm).2.1; have h2 := HBF.out.2; omega)))
     (first
       | (refine yy9 (T := tSt) elemRSt wr.drew w rfl (.tmp 12) (.tmp 29) rfl w.heap.size A2 i c2 (l.take i) rfl (fun b => F b ∧ b < w.heap.size) (fun b => F b ∧ b < w.heap.size) HO.out.drew (HB.out.drew) zN _ rfl [.int .i64 rw_, .slice A3 n3 c3, .slice A4 n4 c4] (rw_, lg, st) (tSt.keep HR.out zN (fun _ _ _ => rfl)) 106 rfl (fun b _ hB _ h => by have := h.2; omega) HM.out ?_
          intro A5 c5 w5 h5))
    all_goals
     go_wp2_with fail
     go_roundw
     case rel => exact ⟨i + 1, A5, c5, by omega, by go_num, rfl, by rw [HX.out]; exact h5.own.weaken (fun b hb _ => hb.1.elim id id) (fun b _ hB _ h => by have := h.2; omega), h5.below⟩
     case measure => simp [intOf]; omega
  · obtain rfl : i = n := by omega
    have e1 : l.take i = l := zL (by rw [← HL.out]; exact Nat.le_refl _)
    rw [e1] at HO
    clear e1
    go_wp2_with fail
    go_ret
    exact ⟨A2, c2, rfl, HO.out.sl.weaken (fun b hb _ => hb.elim (fun h => .inl h.1) (fun h => .inr h.2)), HB.out⟩
end
end Go.Proofs.YtpmglcachffojaaGreatDoor
