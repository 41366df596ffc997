/- The walks of layer 5's example, of BitmapNil and of BitmapGreat. -/
import Derived.Test.YtnhaejbakgjelaaDoorBmE
namespace Go.Proofs.YtnhaejbakgjelaaDoor
open Go.RowKit

theorem has_nil (i : Int) (w : World) :
    Calls Tryd.prog 13 #[.pointer none, .int .i64 i] w fun e w' => e = .returned (.bool false) ∧ w = w' := by
  go_enter Tryd.func13, Tryd.ntmps13
  go_wp2_with fail
  refine (is_nil i _).mono ?_
  rintro e w' ⟨rfl, rfl⟩
  go_wp2_with fail
  go_ret
  exact ⟨rfl, rfl⟩
theorem size_nil (w : World) :
    Calls Tryd.prog 20 #[.pointer none] w fun e w' => e = .returned (.int .i64 0) ∧ w = w' := by
  go_enter Tryd.func20, Tryd.ntmps20
  go_wp2
  go_ret
  exact ⟨rfl, rfl⟩
theorem copy_nil (w : World) :
    Calls Tryd.prog 28 #[.pointer none] w fun e w' => e = .returned (.pointer none) ∧ w = w' := by
  go_enter Tryd.func28, Tryd.ntmps28
  go_wp2
  go_ret
  exact ⟨rfl, rfl⟩
theorem bytes_nil (w : World) :
    Calls Tryd.prog 18 #[.pointer none] w fun e w' => e = .returned (.string ⟨#[]⟩) ∧ w = w' := by
  go_enter Tryd.func18, Tryd.ntmps18
  go_wp2
  go_ret
  exact ⟨rfl, rfl⟩

/-- the rows of three bits of the example -/
def f1 : Nat → Bool := upd (fun _ => false) 1 true
def f2 : Nat → Bool := upd f1 2 true
theorem f1_next {j : Nat} (h : IsNext f1 3 1 j) : j = 2 := by
  obtain ⟨h1, h2, h3⟩ := h
  have e1 : f1 2 = false := by decide
  have e2 : f1 1 = true := by decide
  rcases h3 with ⟨h3, h4⟩ | ⟨_, h4, _⟩
  · rcases (show j = 1 ∨ j = 2 by omega) with rfl | rfl
    · rw [e2] at h2; cases h2
    · rfl
  · have := h4 2 (by omega) (by omega); rw [e1] at this; cases this
theorem f2_next {j : Nat} (h : IsNext f2 3 1 j) : j = 0 := by
  obtain ⟨h1, h2, h3⟩ := h
  have e1 : f2 2 = true := by decide
  have e2 : f2 1 = true := by decide
  rcases (show j = 0 ∨ j = 1 ∨ j = 2 by omega) with rfl | rfl | rfl
  · rfl
  · rw [e2] at h2; cases h2
  · rw [e1] at h2; cases h2
theorem awake_c (w : World) (hT : Tab w) :
    Calls Tryd.prog 9 #[] w fun e w' => e = .returned (.bool true) ∧ Below w.heap.size w w' := by
  go_enter Tryd.func9, Tryd.ntmps9
  go_wp2_with fail
  refine (new_c 3 _ (by omega)).mono ?_
  rintro e w1 ⟨rfl, hm1, hb1⟩
  have hT1 := hT.after hT.lt hb1
  have hg : w.heap.size ≤ w.heap.size + 1 := by omega
  generalize w.heap.size + 1 = g at *
  have hc : w.heap.size ≤ w.heap.size := by omega
  obtain ⟨c, hcc⟩ : ∃ c, w.heap.size = c := ⟨_, rfl⟩
  have hcl : w.heap.size ≤ c := by omega
  have hm1 : MapAt w1 g c 3 (fun _ => false) := hcc ▸ hm1
  clear hcc hc
  go_wp2_with fail
  refine (put_c g c 3 _ 1 _ hm1 (by omega) rfl).mono ?_
  rintro e w2 ⟨rfl, hm2, hb2⟩
  change MapAt w2 g c 3 f1 at hm2
  have hbel2 := bl_grown hb1 hb2 hcl
  have hT2 := hT.after hT.lt hbel2
  clear hm1 hb1 hb2 hT1
  go_wp2_with fail
  refine (next_c g c 3 _ 1 _ hm2 hT2).mono ?_
  rintro e w3 ⟨j, b, rfl, q1, q2, hb3⟩
  rw [show startAt 1 3 = 1 from rfl] at q1
  cases b
  · have := (q2 rfl).2 2 (by omega); exact absurd this (by decide)
  obtain rfl := f1_next (q1 rfl)
  clear q1 q2
  have hm3 := hm2.after hb3
  have hbel3 := bl_trans hbel2 hb3
  clear hm2 hb3 hbel2 hT2
  go_wp2_with fail
  refine (put_c g c 3 _ 2 _ hm3 (by omega) rfl).mono ?_
  rintro e w4 ⟨rfl, hm4, hb4⟩
  change MapAt w4 g c 3 f2 at hm4
  have hbel4 := bl_grown hbel3 hb4 hcl
  have hT4 := hT.after hT.lt hbel4
  clear hm3 hbel3 hb4
  go_wp2_with fail
  refine (next_c g c 3 _ 1 _ hm4 hT4).mono ?_
  rintro e w5 ⟨j, b, rfl, q1, q2, hb5⟩
  rw [show startAt 1 3 = 1 from rfl] at q1
  cases b
  · have := (q2 rfl).2 0 (by omega); exact absurd this (by decide)
  obtain rfl := f2_next (q1 rfl)
  clear q1 q2
  have hbel5 := bl_trans hbel4 hb5
  clear hm4 hbel4 hT4 hb5
  go_wp2_with fail
  go_ret
  exact ⟨rfl, hbel5⟩

theorem bitmapNil_walk (i : Int) (w : World) (hT : Tab w) :
    Calls Tryd.prog 7 #[.int .i64 i] w fun e w' => e = .returned (.bool true) ∧ Below w.heap.size w w' := by
  go_enter Tryd.func7, Tryd.ntmps7
  go_wp2_with fail
  refine (awake_c _ hT).mono ?_
  rintro e w1 ⟨rfl, hb1⟩
  go_wp2_with fail
  refine (fill_nil i i _).mono ?_
  rintro e w2 ⟨rfl, hb2⟩
  have hb2 := bl_trans hb1 hb2
  clear hb1
  go_wp2_with fail
  refine (clear_nil i i _).mono ?_
  rintro e w3 ⟨rfl, hb3⟩
  have hb3 := bl_trans hb2 hb3
  clear hb2
  go_wp2_with (first
    | (go_at_call 14; refine (next_nil i _).mono ?_; rintro e w' ⟨rfl, rfl⟩)
    | (go_at_call 24; refine (put_nil i _).mono ?_; rintro e w' ⟨rfl, rfl⟩)
    | (go_at_call 27; refine (drop_nil i _).mono ?_; rintro e w' ⟨rfl, rfl⟩)
    | (go_at_call 13; refine (has_nil i _).mono ?_; rintro e w' ⟨rfl, rfl⟩)
    | (go_at_call 20; refine (size_nil _).mono ?_; rintro e w' ⟨rfl, rfl⟩)
    | (go_at_call 12; refine (count_nil _).mono ?_; rintro e w' ⟨rfl, rfl⟩)
    | (go_at_call 28; refine (copy_nil _).mono ?_; rintro e w' ⟨rfl, rfl⟩)
    | (go_at_call 18; refine (bytes_nil _).mono ?_; rintro e w' ⟨rfl, rfl⟩))
  go_ret
  exact ⟨rfl, hb3⟩
end Go.Proofs.YtnhaejbakgjelaaDoor
