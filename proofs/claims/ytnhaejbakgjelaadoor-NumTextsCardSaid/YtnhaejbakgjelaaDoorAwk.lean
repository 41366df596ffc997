/- The walk of layer 1's examples. -/
import Derived.Test.YtnhaejbakgjelaaDoorPrt
import Derived.Deep.RegionHeld3
namespace Go.Proofs.YtnhaejbakgjelaaDoor
open Go.RowKit

theorem awake_text : strOfNums (decI (num (hi (shlN (num (hi 1) (lo 1)) 64)) (lo (shlN (num (hi 1) (lo 1)) 64)))) = ⟨#[49, 56, 52, 52, 54, 55, 52, 52, 48, 55, 51, 55, 48, 57, 53, 53, 49, 54, 49, 54]⟩ := by decide +kernel
theorem awake_sub : subN (num 0 0) (num (hi 1) (lo 1)) = 340282366920938463463374607431768211455 ∧ subF (num 0 0) (num (hi 1) (lo 1)) = false ∧ onesN 128 = 340282366920938463463374607431768211455 := by decide +kernel

set_option maxRecDepth 100000 in
set_option maxHeartbeats 1600000 in
theorem awake_c (w : World) :
    Calls Tryd.prog 29 #[] w fun e w' => e = .returned (.bool true) ∧ Below w.heap.size w w' := by
  obtain ⟨s1, s2, s3⟩ := awake_sub
  go_enter Tryd.func29, Tryd.ntmps29
  go_wp2_with fail
  refine (of_c 1 _ (by omega) (by omega)).mono ?_
  rintro e w1 ⟨rfl, hb1⟩; obtain ⟨hc1, hf1⟩ := bcell hb1; have hz1 := hb1.size; (try simp only [size_alloc', size_setCell', size_drew'] at hz1)
  go_wp2_with fail
  refine (sub_c 0 0 _ _ _ (by omega) (by omega) (by omega) (by omega) (hi_nn _) (hi_lt _) (lo_nn _) (lo_lt _)).mono ?_
  rw [s1, s2]
  rintro e w2 ⟨rfl, hb2⟩; obtain ⟨hc2, hf2⟩ := bcell hb2; have hz2 := hb2.size; (try simp only [size_alloc', size_setCell', size_drew'] at hz2)
  clear s1 s2
  obtain ⟨X, hX⟩ : ∃ X, (340282366920938463463374607431768211455 : Nat) = X := ⟨_, rfl⟩
  rw [hX]
  rw [hX] at s3
  have S3 := Lib.hid s3
  clear s3 hX
  go_wp2_with fail
  have e1 := hc2
  generalize hW : (w2.alloc (.cells #[.int .u64 (hi X), .int .u64 (lo X)] 56)) = W
  have hB : Blk W w2.heap.size 56 #[.int .u64 (hi X), .int .u64 (lo X)] := by rw [← hW]; exact Blk.new _ _ _
  have hbel : Below w.heap.size w W := by rw [← hW]; exact (by repeat (first | (with_reducible exact Below.refl _ _) | (with_reducible assumption) | (with_reducible refine bl_alloc ?_ _) | (with_reducible refine bl_drew ?_) | (with_reducible refine bl_drewN ?_ _) | (with_reducible refine bl_set ?_ (by first | (simp; done) | (simp; omega)) _) | (with_reducible refine bl_trans ?_ ‹_›)))
  clear hW hc1 hf1 hc2 hf2 hb1 hb2 e1 hz1 hz2
  have k0 := hB.cell 0
  have k1 := hB.cell 1
  simp at k0 k1
  generalize w2.heap.size = g at *
  go_region_held3 (fun w' => w'.cell? ⟨g, 0, none⟩ = some (.int .u64 (hi X)) ∧ w'.cell? ⟨g, 1, none⟩ = some (.int .u64 (lo X)) ∧ Blk w' g 56 #[.int .u64 (hi X), .int .u64 (lo X)]) (first | exact blk_two (by assumption) | exact blk_two (Blk.drew (by assumption)))
    (first
    | (go_at_call 46; refine (of_c 1 _ (by omega) (by omega)).mono ?_; rintro e w1 ⟨rfl, hb1⟩; have hB1 := Blk.after (g := g) (t := 56) (cs := #[.int .u64 (hi X), .int .u64 (lo X)]) (by assumption) hb1)
    | (go_at_call 47; refine (shl_c _ _ 64 _ (hi_nn _) (hi_lt _) (lo_nn _) (lo_lt _) (by omega)).mono ?_; rintro e w1 ⟨rfl, hb1⟩; have hB1 := Blk.after (g := g) (t := 56) (cs := #[.int .u64 (hi X), .int .u64 (lo X)]) (by assumption) hb1)
    | (go_at_call 30; refine (print_c _ _ _ (hi_nn _) (hi_lt _) (lo_nn _) (lo_lt _)).mono ?_; rw [awake_text]; rintro e w1 ⟨rfl, hb1⟩; have hB1 := Blk.after (g := g) (t := 56) (cs := #[.int .u64 (hi X), .int .u64 (lo X)]) (by assumption) hb1)
    | (go_at_call 48; refine (ones_c 128 _).mono ?_; rw [S3.out]; rintro e w1 ⟨rfl, hb1⟩; have hB1 := Blk.after (g := g) (t := 56) (cs := #[.int .u64 (hi X), .int .u64 (lo X)]) (by assumption) hb1))
  all_goals go_wp2_with fail
  all_goals go_ret
  all_goals exact ⟨rfl, (by repeat (first | (with_reducible exact Below.refl _ _) | (with_reducible assumption) | (with_reducible refine bl_alloc ?_ _) | (with_reducible refine bl_drew ?_) | (with_reducible refine bl_drewN ?_ _) | (with_reducible refine bl_set ?_ (by first | (simp; done) | (simp; omega)) _) | (with_reducible refine bl_trans ?_ ‹_›)))⟩
end Go.Proofs.YtnhaejbakgjelaaDoor
