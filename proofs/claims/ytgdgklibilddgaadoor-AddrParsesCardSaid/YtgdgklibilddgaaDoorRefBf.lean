/- The reference's rows of bits: read, and made a number. -/
import Derived.Test.YtgdgklibilddgaaDoorRefB
import Derived.Test.YtgdgklibilddgaaDoorRefQ
namespace Go.Proofs.YtgdgklibilddgaaDoor
open Go.RowKit

/-- a row of bits that the callee hands back, opened -/
theorem bits_f (ah al : Int) (w : World) (h0_ah : 0 ≤ ah) (h1_ah : ah < 18446744073709551616) (h0_al : 0 ≤ al) (h1_al : al < 18446744073709551616) :
    Calls Tryd.prog 46 #[.agg #[.int .u64 ah, .int .u64 al]] w fun e w' =>
      ∃ g cap, e = .returned (.slice (some ⟨g, 0, none⟩) 128 cap) ∧ 128 ≤ cap ∧ w.heap.size ≤ g ∧ g < w'.heap.size ∧ (∀ j, j < 128 → w'.cell? ⟨g, j, none⟩ = some (.int .i64 (bitI (num ah al) j))) ∧ (∀ j, w'.frozen? ⟨g, j, none⟩ = false) ∧ Below w.heap.size w w' := by
  refine (bits_c ah al w h0_ah h1_ah h0_al h1_al).mono ?_
  rintro e w' ⟨v, rfl, hown, hb⟩
  obtain ⟨g, cap, rfl, g1, g2, g3, g4, g5⟩ := own_form hown (by omega)
  exact ⟨g, cap, rfl, g3, g1, g2, fun j hj => g4 j _ (rowV_get _ hj), g5, hb⟩

/-- the number of a row of 128 bits of the call's own -/
theorem refnum_own {w : World} {base : Nat} {v : Value} {f : Nat → Int} {x : Nat} (hown : w.ownsRow base 3 1 v 128 (rowV f 128)) (hf : ∀ j, j < 128 → f j = bitI x j) :
    Calls Tryd.prog 66 #[v] w fun e w' => e = .returned (numV (x % 340282366920938463463374607431768211456)) ∧ Below w.heap.size w w' := by
  obtain ⟨g, cap, rfl, g1, g2, g3, g4, g5⟩ := own_form hown (by omega)
  have h := refnum_c g 0 128 cap (cutI 128 f) w (by omega) (cutI_bd fun j hj => by rw [hf j hj]; exact bitI_bd x j) (fun j hj => cutI_ge hj) g2 (fun j hj => by
    rw [Nat.zero_add, cutI_lt hj]; exact g4 j _ (rowV_get _ hj))
  rw [sum_cut_of hf] at h
  exact h

end Go.Proofs.YtgdgklibilddgaaDoor
