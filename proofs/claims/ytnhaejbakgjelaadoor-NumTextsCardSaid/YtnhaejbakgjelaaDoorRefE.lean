/- The walks of the reference's length and shift. -/
import Derived.Test.YtnhaejbakgjelaaDoorRefC
import Derived.Test.YtnhaejbakgjelaaDoorRefR
namespace Go.Proofs.YtnhaejbakgjelaaDoor
open Go.RowKit

set_option maxRecDepth 100000 in
set_option maxHeartbeats 1600000 in
theorem reflen_c (a : Nat) (w : World) (ha : a < 340282366920938463463374607431768211456) :
    Calls Tryd.prog 72 #[numV a] w fun e w' => e = .returned (.int .i64 (lenN a)) ∧ Below w.heap.size w w' := by
  have h128 : a % 2 ^ 128 = a := by rw [two128]; omega
  go_enter Tryd.func72, Tryd.ntmps72
  go_wp2_with fail
  refine (bits_f _ _ _ (hi_nn _) (hi_lt _) (lo_nn _) (lo_lt _)).mono ?_
  rw [num_hi_lo ha]
  rintro e w1 ⟨gx, cx, rfl, hcx, hgx, hgx2, hxc, _, hb1⟩
  have hz1' := hb1.size
  simp only [size_alloc'] at hz1' hgx
  have hbel1 : Below w.heap.size w w1 := (by repeat (first | (with_reducible exact Below.refl _ _) | (with_reducible assumption) | (with_reducible refine bl_alloc ?_ _) | (with_reducible refine bl_drew ?_) | (with_reducible refine bl_drewN ?_ _) | (with_reducible refine bl_set ?_ (by first | (simp; done) | (simp; omega)) _) | (with_reducible refine bl_trans ?_ ‹_›)))
  have HX := Lib.hid hxc
  clear hxc hb1
  go_wp2_with fail
  go_loopw [4, 5] (fun n i wr => ∃ k : Nat, k ≤ 128 ∧ i = .int .i64 k ∧ n = .int .i64 (lenN (a % 2 ^ k)) ∧ Below w1.heap.size w1 wr) (fun _ i _ => 128 - (intOf i).toNat)
  case atStart => exact ⟨0, by omega, rfl, by simp [Nat.mod_one, lenN], (by repeat (first | (with_reducible exact Below.refl _ _) | (with_reducible assumption) | (with_reducible refine bl_alloc ?_ _) | (with_reducible refine bl_drew ?_) | (with_reducible refine bl_drewN ?_ _) | (with_reducible refine bl_set ?_ (by first | (simp; done) | (simp; omega)) _) | (with_reducible refine bl_trans ?_ ‹_›)))⟩
  case round =>
    obtain ⟨k, hk, rfl, rfl, hbel⟩ := hrel
    by_cases hlt : k < 128
    · have x0 : wr.cell? ⟨gx, k, none⟩ = some (.int .i64 (bitI a k)) := (hbel.cell (p := ⟨gx, k, none⟩) hgx2).trans (HX.out k hlt)
      have dk : decide ((k : Int) < 128) = true := decide_eq_true (by omega)
      obtain ⟨s1, s0⟩ := len_step (a := a) (i := k)
      rcases bitI_or a k with hb | hb
      · have S := Lib.hid (s0 hb)
        rw [hb] at x0
        clear s1 s0 hb
        go_wp2_with fail
        go_roundw
        case rel => exact ⟨k + 1, by omega, by go_num, by rw [S.out], (by repeat (first | (with_reducible exact Below.refl _ _) | (with_reducible assumption) | (with_reducible refine bl_alloc ?_ _) | (with_reducible refine bl_drew ?_) | (with_reducible refine bl_drewN ?_ _) | (with_reducible refine bl_set ?_ (by first | (simp; done) | (simp; omega)) _) | (with_reducible refine bl_trans ?_ ‹_›)))⟩
        case measure => simp [intOf]; omega
      · have S := Lib.hid (s1 hb)
        rw [hb] at x0
        clear s1 s0 hb
        go_wp2_with fail
        go_roundw
        case rel => exact ⟨k + 1, by omega, by go_num, by rw [S.out]; go_num, (by repeat (first | (with_reducible exact Below.refl _ _) | (with_reducible assumption) | (with_reducible refine bl_alloc ?_ _) | (with_reducible refine bl_drew ?_) | (with_reducible refine bl_drewN ?_ _) | (with_reducible refine bl_set ?_ (by first | (simp; done) | (simp; omega)) _) | (with_reducible refine bl_trans ?_ ‹_›)))⟩
        case measure => simp [intOf]; omega
    · obtain rfl : k = 128 := by omega
      rw [h128]
      rw [show ((128 : Nat) : Int) = (128 : Int) from rfl]
      go_wp2_with fail
      go_ret
      exact ⟨rfl, bl_trans hbel1 hbel⟩

set_option maxRecDepth 100000 in
set_option maxRecDepth 20000 in
set_option maxHeartbeats 1600000 in
theorem refshift_c (a : Nat) (k : Int) (w : World) (ha : a < 340282366920938463463374607431768211456) :
    Calls Tryd.prog 73 #[numV a, .int .i64 k] w fun e w' => e = .returned (numV (shlN a k)) ∧ Below w.heap.size w w' := by
  obtain ⟨i0, hi0, hz0, hz1, hz2⟩ := info_parts info_int
  by_cases h1 : 127 < k
  · have HE := Lib.hid (shift_far (a := a) (.inl h1))
    go_enter Tryd.func73, Tryd.ntmps73
    go_wp2_with fail
    refine bodyPost_ret (v := .agg #[.int .u64 0, .int .u64 0]) (by simp [results, Tryd.results73, go_sem]) rfl ⟨by rw [HE.out]; rfl, (by repeat (first | (with_reducible exact Below.refl _ _) | (with_reducible assumption) | (with_reducible refine bl_alloc ?_ _) | (with_reducible refine bl_drew ?_) | (with_reducible refine bl_drewN ?_ _) | (with_reducible refine bl_set ?_ (by first | (simp; done) | (simp; omega)) _) | (with_reducible refine bl_trans ?_ ‹_›)))⟩
  by_cases h2 : k < -127
  · have HE := Lib.hid (shift_far (a := a) (.inr h2))
    go_enter Tryd.func73, Tryd.ntmps73
    go_wp2_with fail
    refine bodyPost_ret (v := .agg #[.int .u64 0, .int .u64 0]) (by simp [results, Tryd.results73, go_sem]) rfl ⟨by rw [HE.out]; rfl, (by repeat (first | (with_reducible exact Below.refl _ _) | (with_reducible assumption) | (with_reducible refine bl_alloc ?_ _) | (with_reducible refine bl_drew ?_) | (with_reducible refine bl_drewN ?_ _) | (with_reducible refine bl_set ?_ (by first | (simp; done) | (simp; omega)) _) | (with_reducible refine bl_trans ?_ ‹_›)))⟩
  have HS := Lib.hid (fun i hi => shift_bit (k := k) (i := i) ha hi (by omega) (by omega))
  have hlt := shlN_lt a k ha
  generalize hs : shlN a k = s at *
  clear hs
  go_enter Tryd.func73, Tryd.ntmps73
  go_wp2_with fail
  refine (bits_f _ _ _ (hi_nn _) (hi_lt _) (lo_nn _) (lo_lt _)).mono ?_
  rw [num_hi_lo ha]
  rintro e w1 ⟨gx, cx, rfl, hcx, hgx, hgx2, hxc, _, hb1⟩
  have hz1' := hb1.size
  simp only [size_alloc'] at hz1' hgx
  have hbR : Blk w1 (w.heap.size + 1) 56 #[.int .u64 0, .int .u64 0] := (by repeat (first | (with_reducible assumption) | (with_reducible refine blk_fill (u := .int .u64 0) (v := .int .u64 0) ?_) | (with_reducible refine Blk.drew ?_) | (with_reducible refine Blk.new' _ _ _ _ (by first | (with_reducible rfl) | (simp; done))) | (with_reducible refine Blk.alloc ?_ _) | (with_reducible refine Blk.after ?_ ‹_›) | (with_reducible refine Blk.far ?_ (by first | (simp; done) | (simp; omega)) _)))
  have hbel1 : Below w.heap.size w w1 := (by repeat (first | (with_reducible exact Below.refl _ _) | (with_reducible assumption) | (with_reducible refine bl_alloc ?_ _) | (with_reducible refine bl_drew ?_) | (with_reducible refine bl_drewN ?_ _) | (with_reducible refine bl_set ?_ (by first | (simp; done) | (simp; omega)) _) | (with_reducible refine bl_trans ?_ ‹_›)))
  have HX := Lib.hid hxc
  clear hxc hb1
  have ho := own_empty w1 3 w1.heap.size (Nat.le_refl _)
  go_wp2_with fail
  go_loopw [6, 7] (fun out i wr => ∃ j : Nat, j ≤ 128 ∧ i = .int .i64 j ∧ wr.ownsRow w1.heap.size 3 1 out j (rowV (bitI s) j) ∧ Below w1.heap.size w1 wr) (fun _ i _ => 128 - (intOf i).toNat)
  case atStart => exact ⟨0, by omega, rfl, ho, (by repeat (first | (with_reducible exact Below.refl _ _) | (with_reducible assumption) | (with_reducible refine bl_alloc ?_ _) | (with_reducible refine bl_drew ?_) | (with_reducible refine bl_drewN ?_ _) | (with_reducible refine bl_set ?_ (by first | (simp; done) | (simp; omega)) _) | (with_reducible refine bl_trans ?_ ‹_›)))⟩
  case round =>
    obtain ⟨j, hj, rfl, hown, hbel⟩ := hrel
    by_cases hlt2 : j < 128
    · have dk : decide ((j : Int) < 128) = true := decide_eq_true (by omega)
      have hsb := HS.out j hlt2
      have hz := hbel.size
      by_cases hn : 0 ≤ (j : Int) - k
      · by_cases hm2 : (j : Int) - k < 128
        · rw [if_pos ⟨hn, hm2⟩] at hsb
          have HB := Lib.hid hsb
          clear hsb
          have x0 : wr.cell? ⟨gx, ((j : Int) - k).toNat, none⟩ = some (.int .i64 (bitI a ((j : Int) - k).toNat)) := (hbel.cell (p := ⟨gx, ((j : Int) - k).toNat, none⟩) hgx2).trans (HX.out _ (by omega))
          have dm : decide (0 ≤ (j : Int) - k) = true := decide_eq_true hn
          have dm2 : decide ((j : Int) - k < 128) = true := decide_eq_true hm2
          go_upto_region 11 with (fail)
          clear x0 dm dm2
          go_wp2_with (at_builtin; refine wpList_append_own _ rfl _ _ 95 rfl w1.heap.size 3 i0 (.int .i64 0) 1 8 Tryd.underlying95 hi0 hz0 hz1 hz2 rfl (by decide) _ _ _ rfl (hown.alloc _) ⟨wr.heap.size, 0, none⟩ 1 1 [.int .i64 (bitI a ((j : Int) - k).toNat)] rfl rfl ?q1_1 ?q1_2 ?q1_3 ?q1_4 ?q1_5 ?_)
          (try case q1_1 => exact cell_one _ _ _)
          (try case q1_2 => (first | exact one_cell_int _ | rfl))
          case q1_3 => (first | (simp only [maxLen]; omega) | omega)
          case q1_4 => omega
          case q1_5 => (first | (rw [size_alloc']; omega) | omega)
          intro v' w1 hown' hgrow _
          have hbel1 := below_own hbel hown (Nat.le_refl _) hgrow
          clear hown hgrow
          go_wp2_with fail
          go_roundw
          case rel => exact ⟨j + 1, by omega, by go_num, by rw [rowV_succ, HB.out]; exact hown', hbel1⟩
          case measure => simp [intOf]; omega
        · rw [if_neg (fun h => hm2 h.2)] at hsb
          have HB := Lib.hid hsb
          clear hsb
          have x0 : True := trivial
          have dm : decide (0 ≤ (j : Int) - k) = true := decide_eq_true hn
          have dm2 : decide ((j : Int) - k < 128) = false := decide_eq_false hm2
          go_upto_region 11 with (fail)
          clear x0 dm dm2
          go_wp2_with (at_builtin; refine wpList_append_own _ rfl _ _ 95 rfl w1.heap.size 3 i0 (.int .i64 0) 1 8 Tryd.underlying95 hi0 hz0 hz1 hz2 rfl (by decide) _ _ _ rfl (hown.alloc _) ⟨wr.heap.size, 0, none⟩ 1 1 [.int .i64 (0)] rfl rfl ?q2_1 ?q2_2 ?q2_3 ?q2_4 ?q2_5 ?_)
          (try case q2_1 => exact cell_one _ _ _)
          (try case q2_2 => (first | exact one_cell_int _ | rfl))
          case q2_3 => (first | (simp only [maxLen]; omega) | omega)
          case q2_4 => omega
          case q2_5 => (first | (rw [size_alloc']; omega) | omega)
          intro v' w1 hown' hgrow _
          have hbel1 := below_own hbel hown (Nat.le_refl _) hgrow
          clear hown hgrow
          go_wp2_with fail
          go_roundw
          case rel => exact ⟨j + 1, by omega, by go_num, by rw [rowV_succ, HB.out]; exact hown', hbel1⟩
          case measure => simp [intOf]; omega
      · rw [if_neg (fun h => hn h.1)] at hsb
        have HB := Lib.hid hsb
        clear hsb
        have x0 : True := trivial
        have dm : decide (0 ≤ (j : Int) - k) = false := decide_eq_false hn
        have dm2 : True := trivial
        go_upto_region 11 with (fail)
        clear x0 dm dm2
        go_wp2_with (at_builtin; refine wpList_append_own _ rfl _ _ 95 rfl w1.heap.size 3 i0 (.int .i64 0) 1 8 Tryd.underlying95 hi0 hz0 hz1 hz2 rfl (by decide) _ _ _ rfl (hown.alloc _) ⟨wr.heap.size, 0, none⟩ 1 1 [.int .i64 (0)] rfl rfl ?q3_1 ?q3_2 ?q3_3 ?q3_4 ?q3_5 ?_)
        (try case q3_1 => exact cell_one _ _ _)
        (try case q3_2 => (first | exact one_cell_int _ | rfl))
        case q3_3 => (first | (simp only [maxLen]; omega) | omega)
        case q3_4 => omega
        case q3_5 => (first | (rw [size_alloc']; omega) | omega)
        intro v' w1 hown' hgrow _
        have hbel1 := below_own hbel hown (Nat.le_refl _) hgrow
        clear hown hgrow
        go_wp2_with fail
        go_roundw
        case rel => exact ⟨j + 1, by omega, by go_num, by rw [rowV_succ, HB.out]; exact hown', hbel1⟩
        case measure => simp [intOf]; omega
    · obtain rfl : j = 128 := by omega
      have hzz := hbel.size
      have hbR2 : Blk wr (w.heap.size + 1) 56 #[.int .u64 0, .int .u64 0] := hbR.after hbel
      go_wp2_with fail
      refine (refnum_own hown (fun j _ => rfl)).mono ?_
      rintro e w3 ⟨rfl, hb3⟩
      have hbR3 := hbR2.after hb3
      have hbel3 : Below w.heap.size w w3 := bl_trans (bl_trans hbel1 hbel) hb3
      rw [Nat.mod_eq_of_lt hlt]
      obtain ⟨k0, k1, _⟩ := blk_two hbR3
      have z0 := hbR3.frozen 0
      have z1 := hbR3.frozen 1
      clear hb3 hbel hbel1
      go_wp2_with fail
      refine bodyPost_ret (v := numV s) (by simp [results, Tryd.results73, go_sem, k0, k1]) rfl ⟨rfl, (by repeat (first | (with_reducible exact Below.refl _ _) | (with_reducible assumption) | (with_reducible refine bl_alloc ?_ _) | (with_reducible refine bl_drew ?_) | (with_reducible refine bl_drewN ?_ _) | (with_reducible refine bl_set ?_ (by first | (simp; done) | (simp; omega)) _) | (with_reducible refine bl_trans ?_ ‹_›)))⟩
end Go.Proofs.YtnhaejbakgjelaaDoor
