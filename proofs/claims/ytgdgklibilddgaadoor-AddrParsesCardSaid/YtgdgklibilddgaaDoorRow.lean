/- The row's last step where Below alone is known; a number of 128 bits as an argument. -/
import Derived.Test.YtgdgklibilddgaaDoorPost
import Derived.Test.YtgdgklibilddgaaDoorNumP
import Derived.ProofKit
import Derived.Below
import Derived.ChangeSame
import Derived.Lib.SmallJoins
namespace Go.Proofs.YtgdgklibilddgaaDoor
open Go.ChangeShapes Go.WideShapes Go.ChangeAt Go.RowKit Go.Joins

theorem Tryd.cellsNum : Tryd.prog.cellsOf 24 = 2 := by kernel_rfl

set_option maxRecDepth 100000 in
/-- an argument that is a number of 128 bits -/
theorem open_num {H : Type} {enc : TypeId × Value → H} {W : World} {base b0 : Nat} {sp : Nat → Bool} {v : Value} {d : DataW H} {p : List MemPlace} {r : Reach}
    (hv : Value.okWide Tryd.prog W r b0 24 v) (h : DataW.Trod enc Tryd.prog W base sp true 24 v d p) :
    ∃ n : Nat, n < 340282366920938463463374607431768211456 ∧ v = numV n ∧ d = .agg [.lit (.int .u64 (hi n)), .lit (.int .u64 (lo n))] ∧ p = [] ∧ (Lit.int .u64 (hi n)).wf = true ∧ (Lit.int .u64 (lo n)).wf = true := by
  obtain ⟨c0, c1, y0, y1, m, rfl, rfl, rfl, hy0, hy1⟩ := open_agg2 Tryd.underlying24 (by kernel_rfl) Tryd.cellsNum hv h
  obtain ⟨a, e0, rfl, wa⟩ := DataW.trod_int Tryd.underlying22 hy0
  obtain ⟨b, e1, rfl, wb⟩ := DataW.trod_int Tryd.underlying22 hy1
  simp at e0 e1
  subst e0 e1
  obtain ⟨a0, a1⟩ := u64_bd wa
  obtain ⟨b0', b1⟩ := u64_bd wb
  refine ⟨num a b, num_lt a1 b1, ?_, ?_, rfl, ?_, ?_⟩
  · simp only [numV, hi_num a0 a1 b0' b1, lo_num b0' b1]
  · simp only [hi_num a0 a1 b0' b1, lo_num b0' b1]
  · rw [hi_num a0 a1 b0' b1]; exact wa
  · rw [lo_num b0' b1]; exact wb

set_option maxRecDepth 100000 in
theorem shut_num {H : Type} {enc : TypeId × Value → H} {W : World} {base : Nat} {sp : Nat → Bool} {n : Nat} (wa : (Lit.int .u64 (hi n)).wf = true) (wb : (Lit.int .u64 (lo n)).wf = true) :
    DataW.Trod enc Tryd.prog W base sp true 24 (numV n) (.agg [.lit (.int .u64 (hi n)), .lit (.int .u64 (lo n))]) [] :=
  shut_agg2 (y0 := (.lit (.int .u64 (hi n)), [])) (y1 := (.lit (.int .u64 (lo n)), [])) Tryd.underlying24 (by kernel_rfl) Tryd.cellsNum ⟨1, by simp [DataW.trod, Tryd.underlying22, wa]⟩ ⟨1, by simp [DataW.trod, Tryd.underlying22, wb]⟩
end Go.Proofs.YtgdgklibilddgaaDoor
