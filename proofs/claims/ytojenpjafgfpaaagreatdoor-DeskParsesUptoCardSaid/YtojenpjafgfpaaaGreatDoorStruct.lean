/- The structs of this claim's layers as types' words. No condition; no program in sight. -/
import Derived.Test.YtojenpjafgfpaaaGreatDoorTy
import Derived.Test.YtojenpjafgfpaaaGreatDoorSpec
namespace Go.Proofs.YtojenpjafgfpaaaGreatDoor
open Go Go.RowKit

def i64 (x : Int) : Prop := -9223372036854775808 ≤ x ∧ x ≤ 9223372036854775807

def tFld : Ty Fld where
  size := 4
  rep F w cs f := ∃ A n c, cs = [.int .i64 f.tag, .bool f.bytes, .int .u64 (f.n : Int), .slice A n c] ∧ i64 f.tag ∧ f.n < 18446744073709551616 ∧ Sl tU8 F w A n c f.b
  len h := by obtain ⟨_, _, _, rfl, _⟩ := h; rfl
  one h := by obtain ⟨_, _, _, rfl, _⟩ := h; intro u hu; simp at hu; rcases hu with rfl | rfl | rfl | rfl <;> rfl
  keep h hs hk := by obtain ⟨A, n, c, rfl, h1, h2, h3⟩ := h; exact ⟨A, n, c, rfl, h1, h2, h3.keep hs hk⟩
  weaken h hF := by obtain ⟨A, n, c, rfl, h1, h2, h3⟩ := h; exact ⟨A, n, c, rfl, h1, h2, h3.weaken hF⟩

theorem rep_fnum {w : World} {tag : Int} {n : Nat} (h : i64 tag) (hn : n < 18446744073709551616) : tFld.rep (fun _ => True) w [.int .i64 tag, .bool false, .int .u64 (n : Int), .slice none 0 0] (fnum tag n) := ⟨none, 0, 0, rfl, h, hn, Sl.nil_ _ _ _⟩
theorem rep_ftxt {w : World} {tag : Int} {A : Option Addr} {n c : Nat} {b : List UInt8} (h : i64 tag) (hb : Sl tU8 (fun _ => True) w A n c b) : tFld.rep (fun _ => True) w [.int .i64 tag, .bool true, .int .u64 0, .slice A n c] (ftxt tag b) := ⟨A, n, c, rfl, h, by simp [ftxt], hb⟩
theorem i64_small (n : Nat) (h : n ≤ 1000) : i64 (n : Int) := by unfold i64; omega

def tVV : Ty VV where
  size := 3
  rep _ _ cs v := cs = [.bool v.null, .int .i64 v.n, .string v.s] ∧ v.ok
  len h := by rw [h.1]; rfl
  one h := by rw [h.1]; intro u hu; simp at hu; rcases hu with rfl | rfl | rfl <;> rfl
  keep h _ _ := h
  weaken h _ := h
theorem flatVV : tVV.Flat := fun h => h

def KK.ok (k : KK) : Prop := i64 k.id ∧ i64 k.bucket ∧ i64 k.row
def tKK : Ty KK where
  size := 3
  rep _ _ cs k := cs = [.int .i64 k.id, .int .i64 k.bucket, .int .i64 k.row] ∧ k.ok
  len h := by rw [h.1]; rfl
  one h := by rw [h.1]; intro u hu; simp at hu; rcases hu with rfl | rfl | rfl <;> rfl
  keep h _ _ := h
  weaken h _ := h
theorem flatKK : tKK.Flat := fun h => h

def tPP : Ty PP where
  size := 7
  rep F w cs p := ∃ A n c A' n' c', cs = [.int .i64 p.op, .int .i64 p.col, .bool p.v.null, .int .i64 p.v.n, .string p.v.s, .slice A n c, .slice A' n' c'] ∧ i64 p.op ∧ i64 p.col ∧ p.v.ok ∧ Sl tVV F w A n c p.vals ∧ Sl tI64 F w A' n' c' p.l
  len h := by obtain ⟨_, _, _, _, _, _, rfl, _⟩ := h; rfl
  one h := by obtain ⟨_, _, _, _, _, _, rfl, _⟩ := h; intro u hu; simp at hu; rcases hu with rfl | rfl | rfl | rfl | rfl | rfl | rfl <;> rfl
  keep h hs hk := by obtain ⟨A, n, c, A', n', c', rfl, h1, h2, h3, h4, h5⟩ := h; exact ⟨A, n, c, A', n', c', rfl, h1, h2, h3, h4.keep hs hk, h5.keep hs hk⟩
  weaken h hF := by obtain ⟨A, n, c, A', n', c', rfl, h1, h2, h3, h4, h5⟩ := h; exact ⟨A, n, c, A', n', c', rfl, h1, h2, h3, h4.weaken hF, h5.weaken hF⟩

def tEE : Ty EE where
  size := 10
  rep F w cs e := ∃ A1 n1 c1 A2 n2 c2 A3 n3 c3 A4 n4 c4 A5 n5 c5, cs = [.int .i64 e.kind, .int .i64 e.id, .int .i64 e.n, .int .i64 e.m, .slice A1 n1 c1, .slice A2 n2 c2, .int .i64 e.list.high, .slice A3 n3 c3, .slice A4 n4 c4, .slice A5 n5 c5] ∧
    i64 e.kind ∧ i64 e.id ∧ i64 e.n ∧ i64 e.m ∧ i64 e.list.high ∧ Sl (tSl tVV) F w A1 n1 c1 e.rows ∧ Sl tKK F w A2 n2 c2 e.keys ∧ Sl tI64 F w A3 n3 c3 e.list.except ∧ Sl tI64 F w A4 n4 c4 e.cols ∧ Sl tPP F w A5 n5 c5 e.pred
  len h := by obtain ⟨_, _, _, _, _, _, _, _, _, _, _, _, _, _, _, rfl, _⟩ := h; rfl
  one h := by obtain ⟨_, _, _, _, _, _, _, _, _, _, _, _, _, _, _, rfl, _⟩ := h; intro u hu; simp at hu; rcases hu with rfl | rfl | rfl | rfl | rfl | rfl | rfl | rfl | rfl | rfl <;> rfl
  keep h hs hk := by
    obtain ⟨A1, n1, c1, A2, n2, c2, A3, n3, c3, A4, n4, c4, A5, n5, c5, rfl, h1, h2, h3, h4, h5, h6, h7, h8, h9, h10⟩ := h
    exact ⟨A1, n1, c1, A2, n2, c2, A3, n3, c3, A4, n4, c4, A5, n5, c5, rfl, h1, h2, h3, h4, h5, h6.keep hs hk, h7.keep hs hk, h8.keep hs hk, h9.keep hs hk, h10.keep hs hk⟩
  weaken h hF := by
    obtain ⟨A1, n1, c1, A2, n2, c2, A3, n3, c3, A4, n4, c4, A5, n5, c5, rfl, h1, h2, h3, h4, h5, h6, h7, h8, h9, h10⟩ := h
    exact ⟨A1, n1, c1, A2, n2, c2, A3, n3, c3, A4, n4, c4, A5, n5, c5, rfl, h1, h2, h3, h4, h5, h6.weaken hF, h7.weaken hF, h8.weaken hF, h9.weaken hF, h10.weaken hF⟩

def tKD : Ty KD where
  size := 4
  rep F w cs x := ∃ A n c, cs = [.int .i64 x.key.id, .int .i64 x.key.bucket, .int .i64 x.key.row, .slice A n c] ∧ x.key.ok ∧ Sl tVV F w A n c x.row
  len h := by obtain ⟨_, _, _, rfl, _⟩ := h; rfl
  one h := by obtain ⟨_, _, _, rfl, _⟩ := h; intro u hu; simp at hu; rcases hu with rfl | rfl | rfl | rfl <;> rfl
  keep h hs hk := by obtain ⟨A, n, c, rfl, h1, h2⟩ := h; exact ⟨A, n, c, rfl, h1, h2.keep hs hk⟩
  weaken h hF := by obtain ⟨A, n, c, rfl, h1, h2⟩ := h; exact ⟨A, n, c, rfl, h1, h2.weaken hF⟩

def tAA : Ty AA where
  size := 5
  rep F w cs x := ∃ A n c A' n' c', cs = [.int .i64 x.code, .int .i64 x.n, .slice A n c, .int .i64 x.list.high, .slice A' n' c'] ∧ i64 x.code ∧ i64 x.n ∧ i64 x.list.high ∧ Sl tKD F w A n c x.rows ∧ Sl tI64 F w A' n' c' x.list.except
  len h := by obtain ⟨_, _, _, _, _, _, rfl, _⟩ := h; rfl
  one h := by obtain ⟨_, _, _, _, _, _, rfl, _⟩ := h; intro u hu; simp at hu; rcases hu with rfl | rfl | rfl | rfl | rfl <;> rfl
  keep h hs hk := by obtain ⟨A, n, c, A', n', c', rfl, h1, h2, h3, h4, h5⟩ := h; exact ⟨A, n, c, A', n', c', rfl, h1, h2, h3, h4.keep hs hk, h5.keep hs hk⟩
  weaken h hF := by obtain ⟨A, n, c, A', n', c', rfl, h1, h2, h3, h4, h5⟩ := h; exact ⟨A, n, c, A', n', c', rfl, h1, h2, h3, h4.weaken hF, h5.weaken hF⟩
end Go.Proofs.YtojenpjafgfpaaaGreatDoor
