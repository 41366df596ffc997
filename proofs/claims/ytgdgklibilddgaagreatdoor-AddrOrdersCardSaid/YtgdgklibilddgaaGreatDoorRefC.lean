/- The walks of the reference's sum and difference. -/
import Derived.Test.YtgdgklibilddgaaGreatDoorRefBf
namespace Go.Proofs.YtgdgklibilddgaaGreatDoor
open Go.RowKit

set_option maxRecDepth 100000 in
set_option maxHeartbeats 1600000 in
theorem refadd_c (a b : Nat) (w : World) (ha : a < 340282366920938463463374607431768211456) (hb : b < 340282366920938463463374607431768211456) :
    Calls Tryz.prog 67 #[numV a, numV b] w fun e w' => e = .returned (.tuple #[numV (addN a b), .bool (addF a b)]) ∧ Below w.heap.size w w' := by
  obtain ⟨i0, hi0, hz0, hz1, hz2⟩ := info_parts info_int
  have HE := Lib.hid (carry_end ha hb)
  go_enter Tryz.func67, Tryz.ntmps67
  go_wp2_with fail
  refine (bits_f _ _ _ (hi_nn _) (hi_lt _) (lo_nn _) (lo_lt _)).mono ?_
  rw [num_hi_lo ha]
  rintro e w1 ⟨gx, cx, rfl, hcx, hgx, hgx2, hxc, _, hb1⟩
  obtain ⟨hc1, hf1⟩ := bcell hb1
  have hz1' := hb1.size
  simp only [size_alloc'] at hz1' hgx
  have hs0 : w.heap.size < w1.heap.size := by omega
  have hs1 : w.heap.size + 1 < w1.heap.size := by omega
  have hs2 : w.heap.size + 1 + 1 < w1.heap.size := by omega
  have HX := Lib.hid hxc
  clear hxc
  go_wp2_with fail
  refine (bits_f _ _ _ (hi_nn _) (hi_lt _) (lo_nn _) (lo_lt _)).mono ?_
  rw [num_hi_lo hb]
  rintro e w2 ⟨gy, cy, rfl, hcy, hgy, hgy2, hyc, _, hb2⟩
  have hz2' := hb2.size
  have hbR : Blk w2 (w.heap.size + 1 + 1) 24 #[.int .u64 0, .int .u64 0] := (by repeat (first | (with_reducible assumption) | (with_reducible refine blk_fill (u := .int .u64 0) (v := .int .u64 0) ?_) | (with_reducible refine Blk.drew ?_) | (with_reducible refine Blk.new' _ _ _ _ (by first | (with_reducible rfl) | (simp; done))) | (with_reducible refine Blk.alloc ?_ _) | (with_reducible refine Blk.after ?_ ‹_›) | (with_reducible refine Blk.far ?_ (by first | (simp; done) | (simp; omega)) _)))
  have hbel2 : Below w.heap.size w w2 := (by repeat (first | (with_reducible exact Below.refl _ _) | (with_reducible assumption) | (with_reducible refine bl_alloc ?_ _) | (with_reducible refine bl_drew ?_) | (with_reducible refine bl_drewN ?_ _) | (with_reducible refine bl_set ?_ (by first | (simp; done) | (simp; omega)) _) | (with_reducible refine bl_trans ?_ ‹_›)))
  have hxc : ∀ j, j < 128 → w2.cell? ⟨gx, j, none⟩ = some (.int .i64 (bitI a j)) := fun j hj => (hb2.cell (p := ⟨gx, j, none⟩) hgx2).trans (HX.out j hj)
  have HX2 := Lib.hid hxc
  have HY := Lib.hid hyc
  clear hxc hyc HX hc1 hf1 hb1 hb2
  have hgx3 : gx < w2.heap.size := by omega
  have hgy3 : gy < w2.heap.size := by omega
  clear hs0 hs1 hs2
  have ho := own_empty w2 3 w2.heap.size (Nat.le_refl _)
  go_wp2_with fail
  go_loopw [8, 9, 10] (fun out c i wr => ∃ k : Nat, k ≤ 128 ∧ i = .int .i64 k ∧ c = .int .i64 (carryN a b k : Nat) ∧ wr.ownsRow w2.heap.size 3 1 out k (rowV (bitI (a + b)) k) ∧ Below w2.heap.size w2 wr) (fun _ _ i _ => 128 - (intOf i).toNat)
  case atStart => exact ⟨0, by omega, rfl, by rw [carry_zero]; rfl, ho, (by repeat (first | (with_reducible exact Below.refl _ _) | (with_reducible assumption) | (with_reducible refine bl_alloc ?_ _) | (with_reducible refine bl_drew ?_) | (with_reducible refine bl_drewN ?_ _) | (with_reducible refine bl_set ?_ (by first | (simp; done) | (simp; omega)) _) | (with_reducible refine bl_trans ?_ ‹_›)))⟩
  case round =>
    obtain ⟨k, hk, rfl, rfl, hown, hbel⟩ := hrel
    by_cases hlt : k < 128
    · have x0 : wr.cell? ⟨gx, k, none⟩ = some (.int .i64 (bitI a k)) := (hbel.cell (p := ⟨gx, k, none⟩) hgx3).trans (HX2.out k hlt)
      have y0 : wr.cell? ⟨gy, k, none⟩ = some (.int .i64 (bitI b k)) := (hbel.cell (p := ⟨gy, k, none⟩) hgy3).trans (HY.out k hlt)
      obtain ⟨x1, x2⟩ := bitI_bd a k
      obtain ⟨y1, y2⟩ := bitI_bd b k
      have c1 := carry_bd a b k
      obtain ⟨s1, s2⟩ := add_stepI a b k
      have S1 := Lib.hid s1
      have S2 := Lib.hid s2
      clear s1 s2
      generalize bitI a k = xk at *
      generalize bitI b k = yk at *
      have hz := hbel.size
      have dk : decide ((k : Int) < 128) = true := decide_eq_true (by omega)
      have cb : ((carryN a b k : Nat) : Int) ≤ 1 := by omega
      go_wp2_with fail
      go_region
      have hownq : wr.drew.ownsRow w2.heap.size 3 1 _ k (rowV (bitI (a + b)) k) := hown
      have hbelq : Below w2.heap.size w2 wr.drew := hbel.drew
      have hzq : w2.heap.size ≤ wr.drew.heap.size := hz
      clear hown hbel hz x0 y0
      generalize wr.drew = wq at *
      go_wp2_with (at_builtin; refine wpList_append_own _ rfl _ _ 91 rfl w2.heap.size 3 i0 (.int .i64 0) 1 8 Tryz.underlying91 hi0 hz0 hz1 hz2 rfl (by decide) _ _ _ rfl (hownq.alloc _) ⟨wq.heap.size, 0, none⟩ 1 1 [.int .i64 ((xk + yk + (carryN a b k : Int)) % 2)] rfl rfl ?q1_1 ?q1_2 ?q1_3 ?q1_4 ?q1_5 ?_)
      (try case q1_1 => exact cell_one _ _ _)
      (try case q1_2 => (first | exact one_cell_int _ | rfl))
      case q1_3 => (first | (simp only [maxLen]; omega) | omega)
      case q1_4 => omega
      case q1_5 => (first | (rw [size_alloc']; omega) | omega)
      intro v' w1 hown' hgrow _
      have hbel1 := below_own hbelq hownq (Nat.le_refl _) hgrow
      clear hownq hgrow
      go_wp2_with fail
      go_roundw
      case rel => exact ⟨k + 1, by omega, by go_num, by rw [S2.out], by rw [rowV_succ, ← S1.out]; exact hown', hbel1⟩
      case measure => simp [intOf]; omega
    · obtain rfl : k = 128 := by omega
      have hzz := hbel.size
      have hbR2 : Blk wr (w.heap.size + 1 + 1) 24 #[.int .u64 0, .int .u64 0] := hbR.after hbel
      go_wp2_with fail
      refine (refnum_own hown (fun j _ => rfl)).mono ?_
      rintro e w3 ⟨rfl, hb3⟩
      have hbR3 := hbR2.after hb3
      have hbel3 : Below w.heap.size w w3 := (by repeat (first | (with_reducible exact Below.refl _ _) | (with_reducible assumption) | (with_reducible refine bl_alloc ?_ _) | (with_reducible refine bl_drew ?_) | (with_reducible refine bl_drewN ?_ _) | (with_reducible refine bl_set ?_ (by first | (simp; done) | (simp; omega)) _) | (with_reducible refine bl_trans ?_ ‹_›)))
      obtain ⟨k0, k1, _⟩ := blk_two hbR3
      have z0 := hbR3.frozen 0
      have z1 := hbR3.frozen 1
      go_wp2_with fail
      refine bodyPost_ret (v := .tuple #[numV (addN a b), .bool (((carryN a b 128 : Nat) : Int) == 0)]) (by simp [results, Tryz.results67, go_sem, k0, k1, addN]) rfl ⟨by rw [HE.out], (by repeat (first | (with_reducible exact Below.refl _ _) | (with_reducible assumption) | (with_reducible refine bl_alloc ?_ _) | (with_reducible refine bl_drew ?_) | (with_reducible refine bl_drewN ?_ _) | (with_reducible refine bl_set ?_ (by first | (simp; done) | (simp; omega)) _) | (with_reducible refine bl_trans ?_ ‹_›)))⟩
end Go.Proofs.YtgdgklibilddgaaGreatDoor
