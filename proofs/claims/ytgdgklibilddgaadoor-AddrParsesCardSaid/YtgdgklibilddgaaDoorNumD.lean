/- Cmp -/
import Derived.Test.YtgdgklibilddgaaDoorNumC
import Derived.StillTailTactics
namespace Go.Proofs.YtgdgklibilddgaaDoor
open Go.RowKit
theorem wp_tail {P : Program} {id : Nat} {Q : Exit → Act → World → Prop} {a : Act} {w : World} {l : List Oper} (n : Nat) (hm : P.follows .mixedOrders = true) (hB : Region.lexTailB .any l.toArray n = true)
    (h : wpStill P l.toArray w.drew (fun a' => wpList P l.toArray Q (l.drop n) a' w.drew) (l.take n) a) : (Code.region id l.toArray true).wp P Q a w :=
  wp_region_still_tail n hm hB h
set_option maxRecDepth 100000 in
theorem cmp_c (ah al bh bl : Int) (w : World) (h0_ah : 0 ≤ ah) (h1_ah : ah < 18446744073709551616) (h0_al : 0 ≤ al) (h1_al : al < 18446744073709551616) (h0_bh : 0 ≤ bh) (h1_bh : bh < 18446744073709551616) (h0_bl : 0 ≤ bl) (h1_bl : bl < 18446744073709551616) :
    Calls Tryd.prog 50 #[.agg #[.int .u64 ah, .int .u64 al], .agg #[.int .u64 bh, .int .u64 bl]] w fun e w' =>
      e = .returned (.int .i64 (cmpN (num ah al) (num bh bl))) ∧ Below w.heap.size w w' := by
  rw [← cmp_words h0_ah h1_ah h0_al h1_al h0_bh h1_bh h0_bl h1_bl]
  clear h0_ah h1_ah h0_al h1_al h0_bh h1_bh h0_bl h1_bl
  go_enter Tryd.func50, Tryd.ntmps50
  go_wp2
  refine wp_tail 10 (by kernel_rfl) (by kernel_rfl) ?_
  simp only [List.take_succ_cons, List.take_zero, List.drop_succ_cons, List.drop_zero]
  iterate 4 still_step
  still_call ((compare_c ah bh _).mono fun _ _ h => ⟨h.1, h.2.symm⟩)
  iterate 4 still_step
  still_call ((compare_c al bl _).mono fun _ _ h => ⟨h.1, h.2.symm⟩)
  refine wpStill_nil ?_
  go_wp2_with fail
  refine (or_c (cmpI ah bh) (cmpI al bl) _ _ ?_ ?_).mono ?_
  · simp [World.cell?_alloc_new, go_sem]
  · simp [World.cell?_alloc_new, go_sem]
  rintro e w1 ⟨rfl, rfl⟩
  go_wp2_with fail
  go_ret
  exact ⟨rfl, (by repeat (first | (with_reducible exact Below.refl _ _) | (with_reducible assumption) | (with_reducible refine bl_alloc ?_ _) | (with_reducible refine bl_drew ?_) | (with_reducible refine bl_drewN ?_ _) | (with_reducible refine bl_set ?_ (by first | (simp; done) | (simp; omega)) _) | (with_reducible refine bl_trans ?_ ‹_›)))⟩
end Go.Proofs.YtgdgklibilddgaaDoor
