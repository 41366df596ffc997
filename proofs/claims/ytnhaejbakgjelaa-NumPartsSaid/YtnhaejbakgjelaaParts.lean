/- The walk of NumParts. -/
import Derived.Test.YtnhaejbakgjelaaAwk
import Derived.Test.YtnhaejbakgjelaaRefG
import Derived.Test.YtnhaejbakgjelaaLd
namespace Go.Proofs.Ytnhaejbakgjelaa
open Go.RowKit

theorem parts_back {a k : Nat} (h0 : k ≠ 0) (ha : a < 340282366920938463463374607431768211456) :
    timesF (overQ a k) k = true ∧ addN (timesN (overQ a k) k) (overR a k) = a ∧ addF (timesN (overQ a k) k) (overR a k) = true ∧ overR a k < k := by
  have h1 := Nat.div_add_mod a k
  have h2 := Nat.mod_lt a (Nat.pos_of_ne_zero h0)
  unfold overQ overR
  rw [if_neg h0, if_neg h0]
  unfold timesF timesN addN addF
  rw [Nat.mul_comm (a / k) k]
  generalize k * (a / k) = z at *
  generalize a % k = r at *
  refine ⟨by simp; omega, by omega, by simp; omega, h2⟩
theorem overQ_lt {a k : Nat} (ha : a < 340282366920938463463374607431768211456) : overQ a k < 340282366920938463463374607431768211456 := by
  unfold overQ; split
  · omega
  · exact Nat.lt_of_le_of_lt (Nat.div_le_self _ _) ha
theorem overR_lt {a k : Nat} (hk : k < 18446744073709551616) : overR a k < 18446744073709551616 := by
  unfold overR; split
  · omega
  · have := Nat.mod_lt a (show 0 < k by omega); omega
theorem timesN_lt (a k : Nat) : timesN a k < 340282366920938463463374607431768211456 := Nat.mod_lt _ (by omega)

set_option maxRecDepth 20000 in
set_option maxHeartbeats 3200000 in
theorem numParts_walk (a k : Nat) (w : World) (ha : a < 340282366920938463463374607431768211456) (hk : k < 18446744073709551616) :
    Calls Try.prog 4 #[numV a, .int .u64 k] w fun e w' => e = .returned (.bool true) ∧ Below w.heap.size w w' := by
  go_enter Try.func4, Try.ntmps4
  go_wp2_with fail
  refine (awake_c _).mono ?_
  rintro e w1 ⟨rfl, hb1⟩; obtain ⟨hc1, hf1⟩ := bcell hb1; have hz1 := hb1.size; (try simp only [size_alloc', size_setCell', size_drew'] at hz1); have hs1_0 : w.heap.size < w1.heap.size := (by omega)
  go_wp2_with fail
  refine (times_c _ _ k _ (hi_nn _) (hi_lt _) (lo_nn _) (lo_lt _) (by omega) (by omega)).mono ?_
  rw [num_hi_lo ha, Int.toNat_natCast]
  rintro e w2 ⟨rfl, hb2⟩; obtain ⟨hc2, hf2⟩ := bcell hb2; have hz2 := hb2.size; (try simp only [size_alloc', size_setCell', size_drew'] at hz2); have hs2_0 : w.heap.size < w2.heap.size := (by omega)
  go_wp2_with fail
  refine (reftimes_c a k _ ha hk).mono ?_
  rintro e w3 ⟨rfl, hb3⟩; obtain ⟨hc3, hf3⟩ := bcell hb3; have hz3 := hb3.size; (try simp only [size_alloc', size_setCell', size_drew'] at hz3); have hs3_0 : w.heap.size < w3.heap.size := (by omega); have hs3_1 : w2.heap.size < w3.heap.size := (by omega)
  go_wp2_with fail
  refine (over_c _ _ k _ (hi_nn _) (hi_lt _) (lo_nn _) (lo_lt _) (by omega) (by omega)).mono ?_
  rw [num_hi_lo ha, Int.toNat_natCast]
  rintro e w4 ⟨rfl, hb4⟩; obtain ⟨hc4, hf4⟩ := bcell hb4; have hz4 := hb4.size; (try simp only [size_alloc', size_setCell', size_drew'] at hz4); have hs4_0 : w.heap.size < w4.heap.size := (by omega); have hs4_1 : w2.heap.size < w4.heap.size := (by omega); have hs4_2 : w3.heap.size < w4.heap.size := (by omega)
  go_wp2_with fail
  refine (refover_c a k _ ha hk).mono ?_
  rintro e w5 ⟨rfl, hb5⟩; obtain ⟨hc5, hf5⟩ := bcell hb5; have hz5 := hb5.size; (try simp only [size_alloc', size_setCell', size_drew'] at hz5); have hs5_0 : w.heap.size < w5.heap.size := (by omega); have hs5_1 : w2.heap.size < w5.heap.size := (by omega); have hs5_2 : w3.heap.size < w5.heap.size := (by omega); have hs5_3 : w4.heap.size < w5.heap.size := (by omega)
  go_upto_region 7 with (fail)
  generalize hW : (w5.alloc (.cells #[.int .u64 (hi (overQ a k)), .int .u64 (lo (overQ a k))] 24)) = W
  have bA : Blk W w.heap.size 24 #[.int .u64 (hi a), .int .u64 (lo a)] := by rw [← hW]; exact (by repeat (first | (with_reducible assumption) | (with_reducible refine blk_fill (u := .int .u64 0) (v := .int .u64 0) ?_) | (with_reducible refine Blk.drew ?_) | (with_reducible refine Blk.new' _ _ _ _ (by first | (with_reducible rfl) | (simp; done))) | (with_reducible refine Blk.alloc ?_ _) | (with_reducible refine Blk.after ?_ ‹_›) | (with_reducible refine Blk.far ?_ (by first | (simp; done) | (simp; omega)) _)))
  have bX : Blk W w2.heap.size 24 #[.int .u64 (hi (timesN a k)), .int .u64 (lo (timesN a k))] := by rw [← hW]; exact (by repeat (first | (with_reducible assumption) | (with_reducible refine blk_fill (u := .int .u64 0) (v := .int .u64 0) ?_) | (with_reducible refine Blk.drew ?_) | (with_reducible refine Blk.new' _ _ _ _ (by first | (with_reducible rfl) | (simp; done))) | (with_reducible refine Blk.alloc ?_ _) | (with_reducible refine Blk.after ?_ ‹_›) | (with_reducible refine Blk.far ?_ (by first | (simp; done) | (simp; omega)) _)))
  have bY : Blk W w3.heap.size 24 #[.int .u64 (hi (timesN a k)), .int .u64 (lo (timesN a k))] := by rw [← hW]; exact (by repeat (first | (with_reducible assumption) | (with_reducible refine blk_fill (u := .int .u64 0) (v := .int .u64 0) ?_) | (with_reducible refine Blk.drew ?_) | (with_reducible refine Blk.new' _ _ _ _ (by first | (with_reducible rfl) | (simp; done))) | (with_reducible refine Blk.alloc ?_ _) | (with_reducible refine Blk.after ?_ ‹_›) | (with_reducible refine Blk.far ?_ (by first | (simp; done) | (simp; omega)) _)))
  have bQ : Blk W w4.heap.size 24 #[.int .u64 (hi (overQ a k)), .int .u64 (lo (overQ a k))] := by rw [← hW]; exact (by repeat (first | (with_reducible assumption) | (with_reducible refine blk_fill (u := .int .u64 0) (v := .int .u64 0) ?_) | (with_reducible refine Blk.drew ?_) | (with_reducible refine Blk.new' _ _ _ _ (by first | (with_reducible rfl) | (simp; done))) | (with_reducible refine Blk.alloc ?_ _) | (with_reducible refine Blk.after ?_ ‹_›) | (with_reducible refine Blk.far ?_ (by first | (simp; done) | (simp; omega)) _)))
  have bR : Blk W w5.heap.size 24 #[.int .u64 (hi (overQ a k)), .int .u64 (lo (overQ a k))] := by rw [← hW]; exact (by repeat (first | (with_reducible assumption) | (with_reducible refine blk_fill (u := .int .u64 0) (v := .int .u64 0) ?_) | (with_reducible refine Blk.drew ?_) | (with_reducible refine Blk.new' _ _ _ _ (by first | (with_reducible rfl) | (simp; done))) | (with_reducible refine Blk.alloc ?_ _) | (with_reducible refine Blk.after ?_ ‹_›) | (with_reducible refine Blk.far ?_ (by first | (simp; done) | (simp; omega)) _)))
  have hbel : Below w.heap.size w W := by rw [← hW]; exact (by repeat (first | (with_reducible exact Below.refl _ _) | (with_reducible assumption) | (with_reducible refine bl_alloc ?_ _) | (with_reducible refine bl_drew ?_) | (with_reducible refine bl_drewN ?_ _) | (with_reducible refine bl_set ?_ (by first | (simp; done) | (simp; omega)) _) | (with_reducible refine bl_trans ?_ ‹_›)))
  clear hW hb1 hc1 hf1 hz1 hs1_0 hb2 hc2 hf2 hz2 hs2_0 hb3 hc3 hf3 hz3 hs3_0 hs3_1 hb4 hc4 hf4 hz4 hs4_0 hs4_1 hs4_2 hb5 hc5 hf5 hz5 hs5_0 hs5_1 hs5_2 hs5_3
  generalize w2.heap.size = gx at *
  generalize w3.heap.size = gy at *
  generalize w4.heap.size = gq at *
  generalize w5.heap.size = gr at *
  generalize timesN a k = xv at *
  generalize timesF a k = xf at *
  obtain ⟨ka0, ka1, _⟩ := blk_two bA
  obtain ⟨kx0, kx1, _⟩ := blk_two bX
  obtain ⟨ky0, ky1, _⟩ := blk_two bY
  obtain ⟨kq0, kq1, _⟩ := blk_two bQ
  obtain ⟨kr0, kr1, _⟩ := blk_two bR
  by_cases h0 : k = 0
  · subst h0
    have q0 : overQ a 0 = 0 := rfl
    have r0 : overR a 0 = 0 := rfl
    rw [q0] at kq0 kq1 kr0 kr1 bQ bR
    rw [q0, r0]
    clear q0 r0
    go_wp2_with fail
    go_ret
    exact ⟨rfl, hbel⟩
  · have d0 : ((k : Int) == 0) = false := by simp; omega
    obtain ⟨p1, p2, p3, p4⟩ := parts_back h0 ha
    have P1 := Lib.hid p1
    have P2 := Lib.hid p2
    have P3 := Lib.hid p3
    have d4 : decide ((overR a k : Int) < (k : Int)) = true := decide_eq_true (by omega)
    have hq := overQ_lt (k := k) ha
    have hr := overR_lt (a := a) hk
    have ht := timesN_lt (overQ a k) k
    clear p1 p2 p3
    go_wp2_with fail
    refine (times_c _ _ k _ (hi_nn _) (hi_lt _) (lo_nn _) (lo_lt _) (by omega) (by omega)).mono ?_
    rw [num_hi_lo hq, Int.toNat_natCast, P1.out]
    rintro e w6 ⟨rfl, hb6⟩
    have bA6 := bA.after hb6
    have hbel6 := bl_trans hbel hb6
    clear bA bX bY bQ bR hbel hb6 ka0 ka1 kx0 kx1 ky0 ky1 kq0 kq1 kr0 kr1
    go_upto_region 12 with (fail)
    generalize hW : (w6.alloc (.cells #[.int .u64 (hi (timesN (overQ a k) k)), .int .u64 (lo (timesN (overQ a k) k))] 24)) = W7
    have bA7 : Blk W7 w.heap.size 24 #[.int .u64 (hi a), .int .u64 (lo a)] := by rw [← hW]; exact (by repeat (first | (with_reducible assumption) | (with_reducible refine blk_fill (u := .int .u64 0) (v := .int .u64 0) ?_) | (with_reducible refine Blk.drew ?_) | (with_reducible refine Blk.new' _ _ _ _ (by first | (with_reducible rfl) | (simp; done))) | (with_reducible refine Blk.alloc ?_ _) | (with_reducible refine Blk.after ?_ ‹_›) | (with_reducible refine Blk.far ?_ (by first | (simp; done) | (simp; omega)) _)))
    have bZ7 : Blk W7 w6.heap.size 24 #[.int .u64 (hi (timesN (overQ a k) k)), .int .u64 (lo (timesN (overQ a k) k))] := by rw [← hW]; exact (by repeat (first | (with_reducible assumption) | (with_reducible refine blk_fill (u := .int .u64 0) (v := .int .u64 0) ?_) | (with_reducible refine Blk.drew ?_) | (with_reducible refine Blk.new' _ _ _ _ (by first | (with_reducible rfl) | (simp; done))) | (with_reducible refine Blk.alloc ?_ _) | (with_reducible refine Blk.after ?_ ‹_›) | (with_reducible refine Blk.far ?_ (by first | (simp; done) | (simp; omega)) _)))
    have hbel7 : Below w.heap.size w W7 := by rw [← hW]; exact bl_alloc hbel6 _
    clear hW bA6 hbel6
    generalize w6.heap.size = gz at *
    have hA7 := bA7.lt
    have hZ7 := bZ7.lt
    go_cut [15, 16] (fun s15 s16 wc => ∃ g : Nat, s15 = .pointer (some ⟨g, 0, none⟩) ∧ s16 = .bool true ∧ Blk wc g 24 #[.int .u64 (hi a), .int .u64 (lo a)] ∧ Blk wc w.heap.size 24 #[.int .u64 (hi a), .int .u64 (lo a)] ∧ Below w.heap.size w wc)
    case first =>
      go_region_held3 (fun w' => (w'.cell? ⟨gz, 0, none⟩ = some (.int .u64 (hi (timesN (overQ a k) k))) ∧ w'.cell? ⟨gz, 1, none⟩ = some (.int .u64 (lo (timesN (overQ a k) k))) ∧ Blk w' gz 24 #[.int .u64 (hi (timesN (overQ a k) k)), .int .u64 (lo (timesN (overQ a k) k))]) ∧ (w'.cell? ⟨w.heap.size, 0, none⟩ = some (.int .u64 (hi a)) ∧ w'.cell? ⟨w.heap.size, 1, none⟩ = some (.int .u64 (lo a)) ∧ Blk w' w.heap.size 24 #[.int .u64 (hi a), .int .u64 (lo a)])) (exact ⟨blk_two (by repeat (first | (with_reducible assumption) | (with_reducible refine blk_fill (u := .int .u64 0) (v := .int .u64 0) ?_) | (with_reducible refine Blk.drew ?_) | (with_reducible refine Blk.new' _ _ _ _ (by first | (with_reducible rfl) | (simp; done))) | (with_reducible refine Blk.alloc ?_ _) | (with_reducible refine Blk.after ?_ ‹_›) | (with_reducible refine Blk.far ?_ (by first | (simp; done) | (simp; omega)) _))), blk_two (by repeat (first | (with_reducible assumption) | (with_reducible refine blk_fill (u := .int .u64 0) (v := .int .u64 0) ?_) | (with_reducible refine Blk.drew ?_) | (with_reducible refine Blk.new' _ _ _ _ (by first | (with_reducible rfl) | (simp; done))) | (with_reducible refine Blk.alloc ?_ _) | (with_reducible refine Blk.after ?_ ‹_›) | (with_reducible refine Blk.far ?_ (by first | (simp; done) | (simp; omega)) _)))⟩)
        (first
        | (go_at_call 18; refine (of_c _ _ (by omega) (by omega)).mono ?_; rw [Int.toNat_natCast]; rintro e w8 ⟨rfl, hb8⟩; obtain ⟨hc8, hf8⟩ := bcell hb8; have hz8 := hb8.size; (try simp only [size_alloc', size_setCell', size_drew'] at hz8); (try have hs8 : W7.heap.size < w8.heap.size := by omega))
        | (go_at_call 7; refine (add_c _ _ _ _ _ (hi_nn _) (hi_lt _) (lo_nn _) (lo_lt _) (hi_nn _) (hi_lt _) (lo_nn _) (lo_lt _)).mono ?_; rw [num_hi_lo ht, num_hi_lo (show overR a k < 340282366920938463463374607431768211456 by omega), P2.out, P3.out]; rintro e w9 ⟨rfl, hb9⟩; obtain ⟨hc9, hf9⟩ := bcell hb9; have hz9 := hb9.size; (try simp only [size_alloc', size_setCell', size_drew'] at hz9); (try have hs9 : W7.heap.size < w9.heap.size := by omega); (try have hs10 : w8.heap.size < w9.heap.size := by omega)))
      all_goals
        go_wp2_with fail
        go_meet
        case rel => exact ⟨_, rfl, rfl, (by repeat (first | (with_reducible assumption) | (with_reducible refine blk_fill (u := .int .u64 0) (v := .int .u64 0) ?_) | (with_reducible refine Blk.drew ?_) | (with_reducible refine Blk.new' _ _ _ _ (by first | (with_reducible rfl) | (simp; done))) | (with_reducible refine Blk.alloc ?_ _) | (with_reducible refine Blk.after ?_ ‹_›) | (with_reducible refine Blk.far ?_ (by first | (simp; done) | (simp; omega)) _))), (by repeat (first | (with_reducible assumption) | (with_reducible refine blk_fill (u := .int .u64 0) (v := .int .u64 0) ?_) | (with_reducible refine Blk.drew ?_) | (with_reducible refine Blk.new' _ _ _ _ (by first | (with_reducible rfl) | (simp; done))) | (with_reducible refine Blk.alloc ?_ _) | (with_reducible refine Blk.after ?_ ‹_›) | (with_reducible refine Blk.far ?_ (by first | (simp; done) | (simp; omega)) _))), (by repeat (first | (with_reducible exact Below.refl _ _) | (with_reducible assumption) | (with_reducible refine bl_alloc ?_ _) | (with_reducible refine bl_drew ?_) | (with_reducible refine bl_drewN ?_ _) | (with_reducible refine bl_set ?_ (by first | (simp; done) | (simp; omega)) _) | (with_reducible refine bl_trans ?_ ‹_›)))⟩
    case rest =>
      clear bA7 bZ7 hbel7 hA7 hZ7
      obtain ⟨gw, rfl, rfl, bW, bA, hbel⟩ := hcut
      obtain ⟨ka0, ka1, _⟩ := blk_two bA
      obtain ⟨kw0, kw1, _⟩ := blk_two bW
      go_wp2_with fail
      go_ret
      exact ⟨rfl, hbel⟩
end Go.Proofs.Ytnhaejbakgjelaa
