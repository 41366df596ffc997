/- The walk of BitmapBytes. -/
import Derived.Test.YtnhaejbakgjelaaDoorBmG
import Derived.Test.YtnhaejbakgjelaaDoorBmO
import Derived.Test.YtnhaejbakgjelaaDoorBmQ
import Derived.Deep.RegionHeld3
namespace Go.Proofs.YtnhaejbakgjelaaDoor
open Go.RowKit

theorem sizeS_lt (s : ByteArray) : sizeS s < 4294967296 := by
  have a0 := bS_lt s 0
  have a1 := bS_lt s 1
  have a2 := bS_lt s 2
  have a3 := bS_lt s 3
  unfold sizeS; omega
theorem of_c (s : ByteArray) (w : World) (hs : s.size ≤ 9000) : Calls Tryd.prog 16 #[.string s] w (Ofd s w) := by
  by_cases h4 : s.size < 4
  · exact (of_short s w h4).mono fun e w' ⟨a, b⟩ => ⟨fun h => absurd h.1 (by omega), fun _ => a, b⟩
  · by_cases hn : 65536 < sizeS s ∨ s.size ≠ 4 + (sizeS s + 7) / 8
    · exact (of_size s w hs (by omega) hn).mono fun e w' ⟨a, b⟩ => ⟨fun h => by have h2 := h.2.1; have h3 := h.2.2.1; omega, fun _ => a, b⟩
    · exact of_loop s w hs (by omega) (by omega) (by omega)
theorem rof_c (s : ByteArray) (w : World) (hs : s.size ≤ 9000) : Calls Tryd.prog 17 #[.string s] w (ROfd s w) := by
  by_cases h4 : s.size < 4
  · exact (rof_short s w h4).mono fun e w' ⟨a, b⟩ => ⟨fun h => absurd h.1 (by omega), fun _ => a, b⟩
  · have h4 : 4 ≤ s.size := by omega
    by_cases hn : 65536 < sizeS s
    · exact (rof_great s _ w hs h4 hn (sizeS_lt s) (size_sum s h4)).mono fun e w' ⟨a, b⟩ => ⟨fun h => absurd h.2.1 (by omega), fun _ => a, b⟩
    · by_cases hn2 : s.size = 4 + (sizeS s + 7) / 8
      · have hok : okS s ↔ strOfNums (bytesOf (cutS s (sizeS s)) (sizeS s)) = s := ⟨fun h => by rw [cutS_ok h]; exact bytes_back h, fun h => bytes_only h4 (by omega) hn2 h⟩
        refine (rof_core s _ w hs h4 (by omega) hn2 (size_sum s h4)).mono fun e w' ⟨a, b, d⟩ => ⟨fun h => ?_, fun h => b (fun h2 => h (hok.2 h2)), d⟩
        obtain ⟨g, c, e1, e2, e3, e4⟩ := a (hok.1 h)
        exact ⟨g, c, e1, e2.same (cutS_ok h), e3, e4⟩
      · exact (rof_other s _ w hs h4 (by omega) hn2 (size_sum s h4)).mono fun e w' ⟨a, b⟩ => ⟨fun h => absurd h.2.2.1 hn2, fun _ => a, b⟩
theorem cnt_top {f : Nat → Bool} {n m : Nat} (h : ∀ x, n ≤ x → f x = false) (hm : n ≤ m) : cnt f 0 m = cnt f 0 n := by
  rw [show m = n + (m - n) from by omega, cnt_join, cnt_none (n := m - n) fun x hx _ => h x (by omega), Nat.add_zero]
set_option maxRecDepth 20000 in
theorem bitmapBytes_walk (s : ByteArray) (w : World) (hT : Tab w) :
    Calls Tryd.prog 4 #[.string s] w fun e w' => e = .returned (.bool true) ∧ Below w.heap.size w w' := by
  by_cases hlen : 9000 < s.size
  · have d1 : decide (9000 < (s.size : Int)) = true := decide_eq_true (by omega)
    go_enter Tryd.func4, Tryd.ntmps4
    go_wp2_with fail
    refine (awake_c _ hT).mono ?_
    rintro e w1 ⟨rfl, hb1⟩
    go_wp2_with fail
    go_ret
    exact ⟨rfl, hb1⟩
  · have d1 : decide (9000 < (s.size : Int)) = false := decide_eq_false (by omega)
    go_enter Tryd.func4, Tryd.ntmps4
    go_wp2_with fail
    refine (awake_c _ hT).mono ?_
    rintro e w1 ⟨rfl, hb1⟩
    go_wp2_with fail
    refine (of_c s _ (by omega)).mono ?_
    rintro e w2 ⟨h1, h2, hb2⟩
    have hb2' := bl_trans hb1 hb2
    by_cases hok : okS s
    · obtain ⟨g, c, rfl, hm, hg1, hc1⟩ := h1 hok
      have hback := bytes_back hok
      have HB := Lib.hid hback
      have HOK := Lib.hid hok
      have hcount : cnt (bitS s) 0 (64 * ((sizeS s + 63) / 64)) = cnt (bitS s) 0 (sizeS s) := cnt_top hok.2.2.2 (by omega)
      have HC := Lib.hid hcount
      clear h1 h2 hback hok hcount hb1 hb2
      go_wp2_with fail
      refine (rof_c s _ (by omega)).mono ?_
      rintro e w3 ⟨h1, h2, hb3⟩
      obtain ⟨rg, rc, rfl, hr, hrg, hrc⟩ := h1 HOK.out
      have hm3 := hm.after hb3
      have hb3' := bl_trans hb2' hb3
      clear h1 h2 hb2' hm hb3
      go_wp2_with fail
      go_region_held3 (fun w' => w'.cell? ⟨rg, 0, none⟩ = some (.slice (some ⟨rc, 0, none⟩) (sizeS s) (sizeS s)) ∧ MapAt w' g c (sizeS s) (bitS s) ∧ RefAt w' rg rc (sizeS s) (bitS s) ∧ Below w.heap.size w w')
        (first | assumption | (with_reducible exact ⟨RefAt.bools (RefAt.drew hr), hm3.drew, hr.drew, bl_drew hb3'⟩) | (with_reducible exact ⟨RefAt.bools (by assumption), by assumption, by assumption, by assumption⟩))
        (first
        | (go_at_call 18; have hS := ‹_ ∧ MapAt _ g c (sizeS s) (bitS s) ∧ _ ∧ _›; obtain ⟨_, hmm, hrr, hbb⟩ := hS; refine (bytes_c g c (sizeS s) (bitS s) _ hmm).mono ?_; rw [HB.out]; rintro e w4 ⟨rfl, hb4⟩; have hm4 := hmm.after hb4; have hr4 := hrr.after hb4; have hb4' := bl_trans hbb hb4; clear hmm hrr hbb)
        | (go_at_call 12; have hS := ‹_ ∧ MapAt _ g c (sizeS s) (bitS s) ∧ _ ∧ _›; obtain ⟨_, hmm, hrr, hbb⟩ := hS; refine (count_c g c (sizeS s) _ (bitS s) _ hmm HC.out).mono ?_; rintro e w5 ⟨rfl, rfl⟩; clear hmm hrr hbb)
        | (go_at_call 19; have hS := ‹_ ∧ MapAt _ g c (sizeS s) (bitS s) ∧ _ ∧ _›; obtain ⟨_, hmm, hrr, hbb⟩ := hS; refine (rcount_c rg rc (sizeS s) (bitS s) _ hrr).mono ?_; rintro e w5 ⟨rfl, rfl⟩; clear hmm hrr hbb)
        | (go_at_call 20; have hS := ‹_ ∧ MapAt _ g c (sizeS s) (bitS s) ∧ _ ∧ _›; obtain ⟨_, hmm, hrr, hbb⟩ := hS; refine (size_c g c (sizeS s) (bitS s) _ hmm).mono ?_; rintro e w5 ⟨rfl, rfl⟩; clear hmm hrr hbb))
      all_goals go_wp2_with fail
      all_goals go_ret
      all_goals exact ⟨rfl, by assumption⟩
    · obtain rfl := h2 hok
      have HOK := Lib.hid hok
      clear h1 h2 hok hb1 hb2
      go_wp2_with fail
      refine (rof_c s _ (by omega)).mono ?_
      rintro e w3 ⟨h1, h2, hb3⟩
      obtain rfl := h2 HOK.out
      have hb3' := bl_trans hb2' hb3
      clear h1 h2 hb2' hb3
      go_wp2_with fail
      go_quiet (fail)
      go_wp2_with fail
      go_ret
      exact ⟨rfl, bl_drewN hb3' _⟩
end Go.Proofs.YtnhaejbakgjelaaDoor
