/- A load of a number of 128 bits out of a block that is known whole. -/
import Derived.Test.YtgdgklibilddgaaDoorBlk
import Derived.Deep.RegionHeld3
namespace Go.Proofs.YtgdgklibilddgaaDoor
open Go.RowKit

section
variable {P : Program} {ops : Array Oper} {Q : Exit → Act → World → Prop} {md : Region.Mode} {S : World → Prop}
theorem get_of_drop {i : Nat} {oi : Oper} {rest : List Oper} (hd : ops.toList.drop i = oi :: rest) : ops[i]? = some oi := by
  have h1 : (ops.toList.drop i)[0]? = some oi := by rw [hd]; rfl
  rw [List.getElem?_drop, Nat.add_zero] at h1
  simpa using h1
/-- wpAnyH_take, the operation read off the list written out -/
theorem take_q {i : Nat} {oi : Oper} {rest : List Oper} {v : Value} {fuel : Nat} {listed : Array Bool} {a : Act} {w : World} (hd : ops.toList.drop i = oi :: rest)
    (hs : Region.noSelect ops = true) (hf : Region.free md ops listed i = true) (hr : (Region.ready md ops listed).contains i = true)
    (hQ : ∀ c a w, Q (.panic c) (a.put oi.dst v) w → Q (.panic c) a w) (hy : YieldsIf P ops S oi v a) (hS : S w)
    (h : wpAnyH P md ops Q S fuel (listed.setIfInBounds i true) (a.put oi.dst v) w) : wpAnyH P md ops Q S (fuel + 1) listed a w :=
  wpAnyH_take (get_of_drop hd) hs hf hr hQ hy hS h
theorem cons_q {fuel : Nat} {listed : Array Bool} {a : Act} {w : World} {i : Nat} {o : Oper} {rest : List Oper} {rs : List Nat} (hd : ops.toList.drop i = o :: rest)
    (h : ∀ K' : Act → World → Prop, Shut (∀ a w, S w → (S w → wpAnyH P md ops Q S fuel (listed.setIfInBounds i true) a w) → K' a w) → if Region.wanted o (yielded ops a.tmps) = true then Oper.wp P o a w K' Q else K' (a.put o.dst undef) w)
    (hs : AllReadyH P md ops Q S fuel listed a w rs) : AllReadyH P md ops Q S fuel listed a w (i :: rs) := AllReadyH.cons (get_of_drop hd) h hs
end

theorem load_num {w : World} {g : Nat} {x y : Value} {a : Act} {o : Oper} {t : Operand} (ho : o.op = .load 24 t) (hx : a.eval t = .pointer (some ⟨g, 0, none⟩)) (h : Blk w g 24 #[x, y]) :
    (execOp a.eval o).run Tryd.prog w = .ok (.value (.agg #[x, y])) w := by
  obtain ⟨k0, k1, _⟩ := blk_two h
  unfold execOp
  simp only [ho, hx]
  go_simp
theorem eql_num {w : World} {p q : Int} {a : Act} {o : Oper} {x y : Operand} {t2 : TypeId} (ho : o.op = .binOp .eql 24 x y t2) (hx : a.eval x = .agg #[.int .u64 p, .int .u64 q]) (hy : a.eval y = .agg #[.int .u64 p, .int .u64 q]) :
    (execOp a.eval o).run Tryd.prog w = .ok (.value (.bool true)) w := by
  unfold execOp
  simp only [ho, hx, hy]
  go_simp
end Go.Proofs.YtgdgklibilddgaaDoor
