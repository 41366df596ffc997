/- Objects: Shape, whole. -/
import Derived.Test.YtanflcccjjbkgaaDoorObG
namespace Go.Proofs.YtanflcccjjbkgaaDoor
open Go.RowKit

theorem shape_c (o : Ob) (w : World) (fin : List ByteArray) (lab : List (ByteArray × ByteArray)) (cid : List ByteArray) (fam : List Int) (ips : List ByteArray) (hr : Reads w o fin lab cid fam ips) :
    Calls Tryd.prog 35 #[ObjV o] w fun e w' => e = .returned (.bool (shapeB o fin lab cid fam ips)) ∧ Below w.heap.size w w' := by
  unfold shapeB
  by_cases hk : 1 ≤ o.kind ∧ o.kind ≤ 4
  · rw [decide_eq_true hk, Bool.true_and]
    cases hn : nullB (bareO o)
    · rw [Bool.false_and]; exact shape_rest o w hk.1 hk.2 hn
    · rw [Bool.true_and]; exact shape_go o w hk.1 hk.2 hn fin lab cid fam ips hr
  · rw [decide_eq_false hk, Bool.false_and]; exact shape_odd o w hk
theorem readsNil (w : World) (o : Ob) (h1 : o.fin.n = 0) (h2 : o.lab.n = 0) (h3 : o.cid.n = 0) (h4 : o.fam.n = 0) (h5 : o.ips.n = 0) : Reads w o [] [] [] [] [] := by
  have k : ∀ s : Sl, s.n = 0 → s.v = .slice s.a 0 s.c := fun s h => by unfold Sl.v; rw [h]
  exact ⟨⟨by simp, .inl ⟨_, _, k _ h1, rfl⟩⟩, ⟨by simp, .inl ⟨_, _, k _ h2, rfl⟩⟩, ⟨by simp, .inl ⟨_, _, k _ h3, rfl⟩⟩, ⟨by simp, .inl ⟨_, _, k _ h4, rfl⟩⟩, ⟨by simp, .inl ⟨_, _, k _ h5, rfl⟩⟩⟩
end Go.Proofs.YtanflcccjjbkgaaDoor
