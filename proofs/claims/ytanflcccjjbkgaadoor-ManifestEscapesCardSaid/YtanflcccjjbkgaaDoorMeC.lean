/- The walk of Word. -/
import Derived.Test.YtanflcccjjbkgaaDoorMeB
namespace Go.Proofs.YtanflcccjjbkgaaDoor
open Go.RowKit

def wordS : Nat → ByteArray
  | 0 => ⟨#[110, 111, 100, 101]⟩
  | 1 => ⟨#[115, 101, 114, 118, 105, 99, 101]⟩
  | 2 => ⟨#[114, 97, 110, 103, 101]⟩
  | _ => ⟨#[101, 118, 101, 110, 116]⟩
/-- the words of the kinds lie in their variable -/
def Words (w : World) : Prop := ∀ j, j < 4 → w.cell? ⟨0, j, none⟩ = some (.string (wordS j))
theorem cell_lt {w : World} {g i : Nat} {v : Value} (h : w.cell? ⟨g, i, none⟩ = some v) : g < w.heap.size := by
  rcases Nat.lt_or_ge g w.heap.size with k | k
  · exact k
  · unfold World.cell? at h
    rw [Array.getElem?_eq_none k] at h; cases h
theorem Words.after {w w' : World} (h : Words w) (hb : Below w.heap.size w w') : Words w' := fun j hj =>
  (hb.cell (p := ⟨_, j, none⟩) (cell_lt (h j hj))).trans (h j hj)
set_option maxRecDepth 100000 in
theorem word_c (k : Int) (w : World) (hW : Words w) :
    Calls Tryd.prog 10 #[.int .i64 k] w fun e w' => e = .returned (if 1 ≤ k ∧ k ≤ 4 then .tuple #[.string (wordS (k.toNat - 1)), .bool true] else .tuple #[.string ⟨#[]⟩, .bool false]) ∧ Below w.heap.size w w' := by
  have W0 := hW 0 (by omega)
  have W1 := hW 1 (by omega)
  have W2 := hW 2 (by omega)
  have W3 := hW 3 (by omega)
  by_cases h1 : k < 1
  · rw [if_neg (by omega)]
    go_enter Tryd.func10, Tryd.ntmps10
    go_wp2_with fail
    go_ret2
    exact ⟨rfl, (by repeat (first | (with_reducible exact Below.refl _ _) | (with_reducible assumption) | (with_reducible refine bl_alloc ?_ _) | (with_reducible refine bl_drew ?_) | (with_reducible refine bl_drewN ?_ _) | (with_reducible refine bl_set ?_ (by first | (simp; done) | (simp; omega)) _) | (with_reducible refine bl_trans ?_ ‹_›)))⟩
  by_cases h4 : 4 < k
  · rw [if_neg (by omega)]
    go_enter Tryd.func10, Tryd.ntmps10
    go_wp2_with fail
    go_ret2
    exact ⟨rfl, (by repeat (first | (with_reducible exact Below.refl _ _) | (with_reducible assumption) | (with_reducible refine bl_alloc ?_ _) | (with_reducible refine bl_drew ?_) | (with_reducible refine bl_drewN ?_ _) | (with_reducible refine bl_set ?_ (by first | (simp; done) | (simp; omega)) _) | (with_reducible refine bl_trans ?_ ‹_›)))⟩
  rw [if_pos (by omega)]
  have hk : k = 1 ∨ k = 2 ∨ k = 3 ∨ k = 4 := by omega
  clear h1 h4
  rcases hk with rfl | rfl | rfl | rfl
  all_goals
    go_enter Tryd.func10, Tryd.ntmps10
    go_wp2_with fail
    go_ret2
    exact ⟨rfl, (by repeat (first | (with_reducible exact Below.refl _ _) | (with_reducible assumption) | (with_reducible refine bl_alloc ?_ _) | (with_reducible refine bl_drew ?_) | (with_reducible refine bl_drewN ?_ _) | (with_reducible refine bl_set ?_ (by first | (simp; done) | (simp; omega)) _) | (with_reducible refine bl_trans ?_ ‹_›)))⟩
end Go.Proofs.YtanflcccjjbkgaaDoor
