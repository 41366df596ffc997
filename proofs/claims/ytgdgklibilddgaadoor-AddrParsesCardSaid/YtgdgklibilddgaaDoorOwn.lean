/- Words of this seat: a row of bytes that the call itself makes. -/
import Derived.Test.YtgdgklibilddgaaDoorBlk
import Derived.Laws.BytesArg
import Derived.Lib.Hide
namespace Go.Proofs.YtgdgklibilddgaaDoor
open Go.RowKit

theorem info_u8 : (Tryd.prog.info? 5).map (fun i => (i.zero, i.size, i.bytes)) = some (some (.int .u8 0), 1, 1) := by kernel_rfl
theorem one_cell_k (k : IntKind) (n : Int) : ∀ u ∈ [Value.int k n], u.oneCell' = true := by intro u hu; simp at hu; subst hu; rfl
def bytesV (l : List Int) : List Value := l.map (Value.int .u8)
theorem bytesV_snoc (l : List Int) (x : Int) : bytesV (l ++ [x]) = bytesV l ++ [.int .u8 x] := by simp [bytesV]
theorem cell_one (w : World) (u : Value) (t : TypeId) : ∀ j x, [u][j]? = some x → (w.alloc (.cells #[u] t)).cell? ((⟨w.heap.size, 0, none⟩ : Addr).add j) = some x := by
  intro j x h
  rcases j with _ | j
  · simp at h; subst h
    simp [World.cell?_alloc_new, Addr.add]
  · simp at h
theorem own_after {w w' : World} {base n : Nat} {e : TypeId} {v : Value} {xs : List Value} (h : w.ownsRow base e 1 v n xs) (hb : Below w.heap.size w w') : w'.ownsRow base e 1 v n xs :=
  h.kept (row := none) ⟨hb.os, hb.tape, hb.output, hb.size, fun k hk _ => hb.block k hk⟩ (by rcases v.ownBlock with _ | g <;> simp)
theorem below_own {w wr w' : World} {v : Value} {base n : Nat} {e : TypeId} {xs : List Value} (h : Below w.heap.size w wr) (hown : wr.ownsRow base e 1 v n xs) (hb : w.heap.size ≤ base) {o : Obj} (hg : (wr.alloc o).grownBy w' v.ownBlock) : Below w.heap.size w w' :=
  (bl_alloc h o).grown hg (by have := h.size; simp; omega) fun k hk => Nat.le_trans hb ((hown.lt k hk).1)
theorem own_form {w : World} {base n : Nat} {e : TypeId} {v : Value} {xs : List Value} (h : w.ownsRow base e 1 v n xs) (hn : 0 < n) :
    ∃ g cap, v = .slice (some ⟨g, 0, none⟩) n cap ∧ base ≤ g ∧ g < w.heap.size ∧ n ≤ cap ∧ (∀ j u, xs[j]? = some u → w.cell? ⟨g, j, none⟩ = some u) ∧ ∀ j, w.frozen? ⟨g, j, none⟩ = false := by
  rcases h.2 with ⟨_, h0⟩ | ⟨g, cap, cur, hv, hb, hh, hc, _⟩
  · omega
  · subst hv
    refine ⟨g, cap, rfl, hb, ?_, hc, fun j u hu => ?_, fun j => by simp [World.frozen?, hh]⟩
    · rcases Nat.lt_or_ge g w.heap.size with k | k
      · exact k
      · rw [Array.getElem?_eq_none k] at hh; cases hh
    · have := h.cells (g := g) rfl j u hu
      rw [← this]; congr 1
      unfold Addr.add; split <;> simp_all
theorem get_bytes {xs : List Int} {j : Nat} (h : j < xs.length) : (bytesV xs)[j]? = some (.int .u8 (xs.getD j 0)) := by
  simp [bytesV, List.getD, h]
/-- a block of bytes just laid is a row of the call's own -/
theorem own_laid (w : World) (l : List Int) (hl : l.length ≤ maxLen) (base : Nat) (hb : base ≤ w.heap.size) : (w.alloc (.cells (bytesV l).toArray 5)).ownsRow base 5 1 (.slice (some ⟨w.heap.size, 0, none⟩) l.length l.length) l.length (bytesV l) := by
  refine ⟨by simp [bytesV], Or.inr ⟨w.heap.size, l.length, (bytesV l).toArray, rfl, hb, ?_, Nat.le_refl _, hl, by simp [bytesV], ?_⟩⟩
  · show (w.heap.push _)[w.heap.size]? = _; simp
  · simp [bytesV, List.take_of_length_le]
end Go.Proofs.YtgdgklibilddgaaDoor
