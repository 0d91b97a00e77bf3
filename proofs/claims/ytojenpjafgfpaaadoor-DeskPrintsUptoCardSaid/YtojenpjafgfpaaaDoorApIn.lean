/- append(b, c) at bytes, inside a fence. No condition. -/
import Derived.Test.YtojenpjafgfpaaaDoorBase
import Derived.Maps.OwnIn
namespace Go.Proofs.YtojenpjafgfpaaaDoor
open Go Go.RowKit

theorem apbIn1 {F : Fence} {nF : Nat} {ops : Array Oper} {rest : List Oper} {o : Oper} {a : Act} {Q : Exit → Act → World → Prop} (hgd : o.guard = none) (s x : Operand) (ho : o.op = .call { callee := .builtin .append, args := #[s, x], argTypes := #[35, 35] })
    (w wx : World) (B : Nat) (A : Option Addr) (n c : Nat) (xs : List UInt8) (hs : a.eval s = .slice A n c) (hown : OwnB w B A n c xs) (hB : B ≤ w.heap.size) (v : Value) (y : UInt8) (hv : v = .int .u8 (y.toNat : Int)) (hwx : wx = w.alloc (.cells #[v] 5)) (hx : a.eval x = .slice (some ⟨w.heap.size, 0, none⟩) 1 1) (hlim : n ≤ 34359738368)
    (h : ∀ A' c' w', OwnB w' B A' (n + 1) c' (xs ++ [y]) → wx.grownBy w' (A.map (·.block)) → wpListIn F nF Tryd.prog ops Q rest (a.put o.dst (.slice A' (n + 1) c')) w') : wpListIn F nF Tryd.prog ops Q (o :: rest) a wx := by
  subst hwx hv
  refine wpListIn_plain hgd fun K hK => ?_
  obtain ⟨A', c', w', hrun, h2, h3, _⟩ := run_append_rd elemBytes o.type (w.alloc (.cells #[.int .u8 (y.toNat : Int)] 5)) B (.slice A n c) n (bvs xs) (World.ownsRow.alloc hown _) (fun b => b = w.heap.size) (some ⟨w.heap.size, 0, none⟩) 1 1 (bvs [y]) rfl (Rd.new w _ _) (bvs_one _) (by omega) (by rw [World.size_alloc]; omega)
  unfold Oper.wpIn
  refine ⟨by simp [Oper.about, ho, resolve, Target.leads, Sem.run_pure], ?_⟩
  rw [Oper.semAt_plain F _ _ (by rw [ho]; intro c hc'; cases hc')]
  simp [execOp, ho, resolve, invoke, builtin, hs, hx, hrun, Result.andThen]
  rw [ownBlock_slice] at h3
  exact hK _ _ (h A' c' w' (by unfold OwnB; rw [bvs_append]; exact h2) h3)
end Go.Proofs.YtojenpjafgfpaaaDoor
