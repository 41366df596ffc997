/- The walks of num's shifts by less than nought, of its rows of ones, lengths, products and orders. -/
import Derived.Test.YtgdgklibilddgaaDoorNumA
namespace Go.Proofs.YtgdgklibilddgaaDoor
open Go.RowKit

theorem size_alloc' (w : World) (o : Obj) : (w.alloc o).heap.size = w.heap.size + 1 := by simp
theorem size_setCell' (w : World) (a : Addr) (v : Value) : (w.setCell a v).heap.size = w.heap.size := by simp
theorem size_drew' (w : World) : w.drew.heap.size = w.heap.size := rfl

theorem shl_c (ah al k : Int) (w : World) (h0_ah : 0 ≤ ah) (h1_ah : ah < 18446744073709551616) (h0_al : 0 ≤ al) (h1_al : al < 18446744073709551616) (k0 : -9223372036854775808 ≤ k) :
    Calls Tryd.prog 42 #[.agg #[.int .u64 ah, .int .u64 al], .int .i64 k] w fun e w' =>
      e = .returned (numV (shlN (num ah al) k)) ∧ Below w.heap.size w w' := by
  rcases Int.lt_or_le k 0 with k1 | k1
  · have d1 : decide (128 ≤ k) = false := by simp; omega
    have d3 : decide (k < 0) = true := by simp; omega
    rcases Int.lt_or_le (-128) k with hk | hk
    · have d2 : decide (k ≤ -128) = false := by simp; omega
      have q : numV (shlN (num ah al) k) = numV (shrN (num ah al) (-k)) := by unfold shrN; rw [Int.neg_neg]
      rw [q]
      clear q
      go_enter Tryd.func42, Tryd.ntmps42
      go_wp2_with (go_at_call 45; refine (shr_pos ah al (-k) _ (by assumption) (by assumption) (by assumption) (by assumption) (by omega)).mono ?_; rintro e w1 ⟨rfl, hb1⟩; obtain ⟨hc1, hf1⟩ := bcell hb1; have hz1 := hb1.size; (try simp only [size_alloc', size_setCell', size_drew'] at hz1))
      refine bodyPost_ret (v := numV (shrN (num ah al) (-k))) (by simp [results, Tryd.results42, go_sem, hc1, hz1]) rfl ⟨rfl, (by repeat (first | (with_reducible exact Below.refl _ _) | (with_reducible assumption) | (with_reducible refine bl_alloc ?_ _) | (with_reducible refine bl_drew ?_) | (with_reducible refine bl_drewN ?_ _) | (with_reducible refine bl_set ?_ (by first | (simp; done) | (simp; omega)) _) | (with_reducible refine bl_trans ?_ ‹_›)))⟩
    · have d2 : decide (k ≤ -128) = true := by simp; omega
      rw [← shl_over (a := num ah al) (k := k) (by omega)]
      go_enter Tryd.func42, Tryd.ntmps42
      go_wp2
      refine bodyPost_ret (v := .agg #[.int .u64 0, .int .u64 0]) (by simp [results, Tryd.results42, go_sem]) rfl ⟨rfl, (by repeat (first | (with_reducible exact Below.refl _ _) | (with_reducible assumption) | (with_reducible refine bl_alloc ?_ _) | (with_reducible refine bl_drew ?_) | (with_reducible refine bl_drewN ?_ _) | (with_reducible refine bl_set ?_ (by first | (simp; done) | (simp; omega)) _) | (with_reducible refine bl_trans ?_ ‹_›)))⟩
  · exact shl_pos ah al k w h0_ah h1_ah h0_al h1_al k1

theorem shr_c (ah al k : Int) (w : World) (h0_ah : 0 ≤ ah) (h1_ah : ah < 18446744073709551616) (h0_al : 0 ≤ al) (h1_al : al < 18446744073709551616) (k0 : -9223372036854775808 ≤ k) :
    Calls Tryd.prog 45 #[.agg #[.int .u64 ah, .int .u64 al], .int .i64 k] w fun e w' =>
      e = .returned (numV (shrN (num ah al) k)) ∧ Below w.heap.size w w' := by
  rcases Int.lt_or_le k 0 with k1 | k1
  · have d1 : decide (128 ≤ k) = false := by simp; omega
    have d3 : decide (k < 0) = true := by simp; omega
    rcases Int.lt_or_le (-128) k with hk | hk
    · have d2 : decide (k ≤ -128) = false := by simp; omega
      have q : numV (shrN (num ah al) k) = numV (shlN (num ah al) (-k)) := by unfold shrN; rfl
      rw [q]
      clear q
      go_enter Tryd.func45, Tryd.ntmps45
      go_wp2_with (go_at_call 42; refine (shl_pos ah al (-k) _ (by assumption) (by assumption) (by assumption) (by assumption) (by omega)).mono ?_; rintro e w1 ⟨rfl, hb1⟩; obtain ⟨hc1, hf1⟩ := bcell hb1; have hz1 := hb1.size; (try simp only [size_alloc', size_setCell', size_drew'] at hz1))
      refine bodyPost_ret (v := numV (shlN (num ah al) (-k))) (by simp [results, Tryd.results45, go_sem, hc1, hz1]) rfl ⟨rfl, (by repeat (first | (with_reducible exact Below.refl _ _) | (with_reducible assumption) | (with_reducible refine bl_alloc ?_ _) | (with_reducible refine bl_drew ?_) | (with_reducible refine bl_drewN ?_ _) | (with_reducible refine bl_set ?_ (by first | (simp; done) | (simp; omega)) _) | (with_reducible refine bl_trans ?_ ‹_›)))⟩
    · have d2 : decide (k ≤ -128) = true := by simp; omega
      rw [← shr_over (a := num ah al) (k := k) (by omega)]
      go_enter Tryd.func45, Tryd.ntmps45
      go_wp2
      refine bodyPost_ret (v := .agg #[.int .u64 0, .int .u64 0]) (by simp [results, Tryd.results45, go_sem]) rfl ⟨rfl, (by repeat (first | (with_reducible exact Below.refl _ _) | (with_reducible assumption) | (with_reducible refine bl_alloc ?_ _) | (with_reducible refine bl_drew ?_) | (with_reducible refine bl_drewN ?_ _) | (with_reducible refine bl_set ?_ (by first | (simp; done) | (simp; omega)) _) | (with_reducible refine bl_trans ?_ ‹_›)))⟩
  · exact shr_pos ah al k w h0_ah h1_ah h0_al h1_al k1

theorem ones_c (k : Int) (w : World) :
    Calls Tryd.prog 87 #[.int .i64 k] w fun e w' =>
      e = .returned (numV (onesN k)) ∧ Below w.heap.size w w' := by
  rcases Int.lt_or_le k 1 with k1 | k1
  · have d1 : decide (k < 1) = true := by simp; omega
    have q : numV (onesN k) = .agg #[.int .u64 0, .int .u64 0] := by unfold onesN; rw [if_pos k1]; rfl
    rw [q]
    go_enter Tryd.func87, Tryd.ntmps87
    go_wp2
    refine bodyPost_ret (v := .agg #[.int .u64 0, .int .u64 0]) (by simp [results, Tryd.results87, go_sem]) rfl ⟨rfl, (by repeat (first | (with_reducible exact Below.refl _ _) | (with_reducible assumption) | (with_reducible refine bl_alloc ?_ _) | (with_reducible refine bl_drew ?_) | (with_reducible refine bl_drewN ?_ _) | (with_reducible refine bl_set ?_ (by first | (simp; done) | (simp; omega)) _) | (with_reducible refine bl_trans ?_ ‹_›)))⟩
  · have d1 : decide (k < 1) = false := by simp; omega
    rcases Int.lt_or_le k 128 with k2 | k2
    · have d2 : decide (128 ≤ k) = false := by simp; omega
      have q : numV (onesN k) = numV (notN (num (hi (shlN (num (hi (notN (num 0 0))) (lo (notN (num 0 0)))) k)) (lo (shlN (num (hi (notN (num 0 0))) (lo (notN (num 0 0)))) k)))) := by
        rw [ones_words k1 k2]
      rw [q]
      clear q
      go_enter Tryd.func87, Tryd.ntmps87
      go_wp2_with fail
      refine (not_c 0 0 _ (by omega) (by omega) (by omega) (by omega)).mono ?_
      rintro e w1 ⟨rfl, hb1⟩; obtain ⟨hc1, hf1⟩ := bcell hb1; have hz1 := hb1.size; (try simp only [size_alloc', size_setCell', size_drew'] at hz1); have hs1_0 : w.heap.size < w1.heap.size := (by omega)
      go_wp2_with fail
      refine (shl_c _ _ _ _ (hi_nn _) (hi_lt _) (lo_nn _) (lo_lt _) (by omega)).mono ?_
      rintro e w2 ⟨rfl, hb2⟩; obtain ⟨hc2, hf2⟩ := bcell hb2; have hz2 := hb2.size; (try simp only [size_alloc', size_setCell', size_drew'] at hz2); have hs2_0 : w.heap.size < w2.heap.size := (by omega)
      go_wp2_with fail
      refine (not_c _ _ _ (hi_nn _) (hi_lt _) (lo_nn _) (lo_lt _)).mono ?_
      rintro e w3 ⟨rfl, hb3⟩; obtain ⟨hc3, hf3⟩ := bcell hb3; have hz3 := hb3.size; (try simp only [size_alloc', size_setCell', size_drew'] at hz3); have hs3_0 : w.heap.size < w3.heap.size := (by omega)
      go_wp2_with fail
      refine bodyPost_ret (v := numV _) (by simp [results, Tryd.results87, go_sem, hc1, hs1_0, hc2, hs2_0, hc3, hs3_0]) rfl ⟨rfl, (by repeat (first | (with_reducible exact Below.refl _ _) | (with_reducible assumption) | (with_reducible refine bl_alloc ?_ _) | (with_reducible refine bl_drew ?_) | (with_reducible refine bl_drewN ?_ _) | (with_reducible refine bl_set ?_ (by first | (simp; done) | (simp; omega)) _) | (with_reducible refine bl_trans ?_ ‹_›)))⟩
    · have d2 : decide (128 ≤ k) = true := by simp; omega
      have q : numV (onesN k) = numV (notN (num 0 0)) := by unfold onesN; rw [if_neg (by omega), if_pos k2]; rfl
      rw [q]
      clear q
      go_enter Tryd.func87, Tryd.ntmps87
      go_wp2_with fail
      refine (not_c 0 0 _ (by omega) (by omega) (by omega) (by omega)).mono ?_
      rintro e w1 ⟨rfl, hb1⟩; obtain ⟨hc1, hf1⟩ := bcell hb1; have hz1 := hb1.size; (try simp only [size_alloc', size_setCell', size_drew'] at hz1)
      go_wp2_with fail
      refine bodyPost_ret (v := numV _) (by simp [results, Tryd.results87, go_sem, hc1, hz1]) rfl ⟨rfl, (by repeat (first | (with_reducible exact Below.refl _ _) | (with_reducible assumption) | (with_reducible refine bl_alloc ?_ _) | (with_reducible refine bl_drew ?_) | (with_reducible refine bl_drewN ?_ _) | (with_reducible refine bl_set ?_ (by first | (simp; done) | (simp; omega)) _) | (with_reducible refine bl_trans ?_ ‹_›)))⟩
end Go.Proofs.YtgdgklibilddgaaDoor
