/- The walks of num's lengths and orders, of cmp's Compare and Or. -/
import Derived.Test.YtgdgklibilddgaaDoorNumB
import Derived.LoopTactic
import Derived.Lib.ItoaNum
import Derived.Deep.RegionWith
namespace Go.Proofs.YtgdgklibilddgaaDoor
open Go.RowKit

theorem log2_of {x b : Nat} (h0 : x ≠ 0) (h1 : 2 ^ (b - 1) ≤ x) (h2 : x < 2 ^ b) (hb : 1 ≤ b) : Nat.log2 x + 1 = b := by
  have e : Nat.log2 x = b - 1 := (Nat.log2_eq_iff h0).2 ⟨h1, by rw [show b - 1 + 1 = b from by omega]; exact h2⟩
  omega
theorem bitLen_lenN (x : Nat) (h : x < 18446744073709551616) : Lib.bitLen x = lenN x := by
  unfold lenN Lib.bitLen
  by_cases h0 : x = 0
  · subst h0; simp [Lib.bitLenAux]
  · rw [if_neg h0]
    obtain ⟨a, b, c⟩ := Lib.bitLenAux_bounds 64 x (by rw [two64]; exact h) h0
    exact (log2_of h0 b c a).symm
theorem lenN_lo {H L : Nat} (hH : H = 0) : lenN L = lenN (H * 18446744073709551616 + L) := by rw [hH]; simp
theorem lenN_hi {H L : Nat} (hH : H ≠ 0) (hL : L < 18446744073709551616) : 64 + lenN H = lenN (H * 18446744073709551616 + L) := by
  unfold lenN
  rw [if_neg hH, if_neg (by omega)]
  have h1 := Nat.log2_self_le hH
  have h2 : H < 2 ^ (Nat.log2 H + 1) := Nat.lt_log2_self
  have e : Nat.log2 (H * 18446744073709551616 + L) = Nat.log2 H + 64 := by
    refine (Nat.log2_eq_iff (by omega)).2 ⟨?_, ?_⟩
    · rw [Nat.pow_add, two64]; exact Nat.le_trans (Nat.mul_le_mul_right _ h1) (Nat.le_add_right _ _)
    · rw [show Nat.log2 H + 64 + 1 = Nat.log2 H + 1 + 64 from by omega, Nat.pow_add, two64]
      have := Nat.mul_le_mul_right 18446744073709551616 (Nat.succ_le_of_lt h2)
      clear h1 h2
      generalize 2 ^ (Nat.log2 H + 1) = x at *
      omega
  omega
theorem lenN_le {x : Nat} {b : Nat} (h : x < 2 ^ b) : lenN x ≤ b := by
  unfold lenN
  split
  · omega
  · rename_i h0
    have := Nat.log2_self_le h0
    rcases Nat.lt_or_ge (Nat.log2 x) b with h3 | h3
    · omega
    · exact absurd (Nat.lt_of_le_of_lt this h) (by simp; exact Nat.pow_le_pow_right (by omega) h3)

set_option maxRecDepth 100000 in
theorem len_c (ah al : Int) (w : World) (h0_ah : 0 ≤ ah) (h1_ah : ah < 18446744073709551616) (h0_al : 0 ≤ al) (h1_al : al < 18446744073709551616) :
    Calls Tryd.prog 56 #[.agg #[.int .u64 ah, .int .u64 al]] w fun e w' =>
      e = .returned (.int .i64 (lenN (num ah al))) ∧ Below w.heap.size w w' := by
  by_cases hH : ah = 0
  · have q : lenN (num ah al) = Lib.bitLen al.toNat := by rw [bitLen_lenN al.toNat (by omega), lenN_lo (H := ah.toNat) (L := al.toNat) (by omega)]; rfl
    rw [q]
    clear q
    have d : decide ((0 : Int) < ah) = false := by simp; omega
    clear hH
    go_enter Tryd.func56, Tryd.ntmps56
    go_wp2_with fail
    refine (Tryd.bits_Len64 al _ (by omega) (by omega)).mono ?_; rintro e w1 ⟨rfl, rfl⟩
    go_wp2_with fail
    go_ret
    exact ⟨rfl, (by repeat (first | (with_reducible exact Below.refl _ _) | (with_reducible assumption) | (with_reducible refine bl_alloc ?_ _) | (with_reducible refine bl_drew ?_) | (with_reducible refine bl_drewN ?_ _) | (with_reducible refine bl_set ?_ (by first | (simp; done) | (simp; omega)) _) | (with_reducible refine bl_trans ?_ ‹_›)))⟩
  · have q : (lenN (num ah al) : Int) = 64 + Lib.bitLen ah.toNat := by
      rw [bitLen_lenN ah.toNat (by omega)]
      have := lenN_hi (H := ah.toNat) (L := al.toNat) (by omega) (by omega)
      unfold num
      rw [← this]; simp
    rw [q]
    clear q
    have hle : Lib.bitLen ah.toNat ≤ 64 := by rw [bitLen_lenN ah.toNat (by omega)]; exact lenN_le (by rw [two64]; omega)
    have d : decide ((0 : Int) < ah) = true := by simp; omega
    clear hH
    go_enter Tryd.func56, Tryd.ntmps56
    go_wp2_with fail
    refine (Tryd.bits_Len64 ah _ (by omega) (by omega)).mono ?_; rintro e w1 ⟨rfl, rfl⟩
    go_wp2_with fail
    go_ret
    exact ⟨rfl, (by repeat (first | (with_reducible exact Below.refl _ _) | (with_reducible assumption) | (with_reducible refine bl_alloc ?_ _) | (with_reducible refine bl_drew ?_) | (with_reducible refine bl_drewN ?_ _) | (with_reducible refine bl_set ?_ (by first | (simp; done) | (simp; omega)) _) | (with_reducible refine bl_trans ?_ ‹_›)))⟩

def cmpI (x y : Int) : Int := if x < y then -1 else if y < x then 1 else 0
set_option maxRecDepth 100000 in
theorem compare_c (x y : Int) (w : World) :
    Calls Tryd.prog 70 #[.int .u64 x, .int .u64 y] w fun e w' => e = .returned (.int .i64 (cmpI x y)) ∧ w = w' := by
  unfold cmpI
  by_cases h1 : x < y
  · have d1 : decide (x < y) = true := by simpa using h1
    rw [if_pos h1]
    go_enter Tryd.func70, Tryd.ntmps70
    go_wp2
    go_ret
    exact ⟨rfl, rfl⟩
  · have d1 : decide (x < y) = false := by simpa using h1
    rw [if_neg h1]
    by_cases h2 : y < x
    · have d2 : decide (y < x) = true := by simpa using h2
      rw [if_pos h2]
      go_enter Tryd.func70, Tryd.ntmps70
      go_wp2
      go_ret
      exact ⟨rfl, rfl⟩
    · have d2 : decide (y < x) = false := by simpa using h2
      rw [if_neg h2]
      go_enter Tryd.func70, Tryd.ntmps70
      go_wp2
      go_ret
      exact ⟨rfl, rfl⟩

def orI (a b : Int) : Int := if a = 0 then b else a
set_option maxRecDepth 100000 in
theorem or_c (a b : Int) (g : Nat) (w : World) (h0 : w.cell? ⟨g, 0, none⟩ = some (.int .i64 a)) (h1 : w.cell? ⟨g, 1, none⟩ = some (.int .i64 b)) :
    Calls Tryd.prog 69 #[.slice (some ⟨g, 0, none⟩) 2 2] w fun e w' => e = .returned (.int .i64 (orI a b)) ∧ w = w' := by
  unfold orI
  by_cases ha : a = 0
  · rw [if_pos ha]
    subst ha
    by_cases hb : b = 0
    · subst hb
      go_enter Tryd.func69, Tryd.ntmps69
      go_wp2
      refine wp_loop_rounds 3 ?_
      rw [rounds_succ]
      go_wp2
      rw [rounds_succ]
      go_wp2
      rw [rounds_succ]
      go_wp2
      go_ret
      exact ⟨rfl, rfl⟩
    · have d2 : (b != 0) = true := by simpa using hb
      go_enter Tryd.func69, Tryd.ntmps69
      go_wp2
      refine wp_loop_rounds 2 ?_
      rw [rounds_succ]
      go_wp2
      rw [rounds_succ]
      go_wp2
      go_ret
      exact ⟨rfl, rfl⟩
  · rw [if_neg ha]
    have d2 : (a != 0) = true := by simpa using ha
    go_enter Tryd.func69, Tryd.ntmps69
    go_wp2
    refine wp_loop_rounds 1 ?_
    rw [rounds_succ]
    go_wp2
    go_ret
    exact ⟨rfl, rfl⟩

theorem cmp_words {ah al bh bl : Int} (h0_ah : 0 ≤ ah) (h1_ah : ah < 18446744073709551616) (h0_al : 0 ≤ al) (h1_al : al < 18446744073709551616) (h0_bh : 0 ≤ bh) (h1_bh : bh < 18446744073709551616) (h0_bl : 0 ≤ bl) (h1_bl : bl < 18446744073709551616) : orI (cmpI ah bh) (cmpI al bl) = cmpN (num ah al) (num bh bl) := by
  have e1 : num ah al = num bh bl ↔ ah = bh ∧ al = bl := by unfold num; omega
  have e2 : num ah al < num bh bl ↔ ah < bh ∨ ah = bh ∧ al < bl := by unfold num; omega
  unfold cmpN orI cmpI
  rcases Int.lt_trichotomy ah bh with h | h | h
  · have f1 := e2.2 (.inl h)
    simp [f1, h]
  · have f3 : ¬ ah < bh := by omega
    have f4 : ¬ bh < ah := by omega
    rcases Int.lt_trichotomy al bl with k | k | k
    · have f1 := e2.2 (.inr ⟨h, k⟩)
      simp [f1, f3, f4, k]
    · have f2 := e1.2 ⟨h, k⟩
      have f1 : ¬ num ah al < num bh bl := by omega
      have f5 : ¬ al < bl := by omega
      have f6 : ¬ bl < al := by omega
      rw [if_neg f3, if_neg f4, if_pos rfl, if_neg f5, if_neg f6, if_neg f1, if_pos f2]
    · have f1 : ¬ num ah al < num bh bl := fun q => by have := e2.1 q; omega
      have f2 : ¬ num ah al = num bh bl := fun q => by have := e1.1 q; omega
      have f5 : ¬ al < bl := by omega
      rw [if_neg f3, if_neg f4, if_pos rfl, if_neg f5, if_pos k, if_neg f1, if_neg f2]
  · have f1 : ¬ num ah al < num bh bl := fun q => by have := e2.1 q; omega
    have f2 : ¬ num ah al = num bh bl := fun q => by have := e1.1 q; omega
    have f3 : ¬ ah < bh := by omega
    rw [if_neg f3, if_pos h, if_neg (by omega), if_neg f1, if_neg f2]

theorem two_new (W : World) (x y : Value) (t : TypeId) (g : Nat) (hg : g = W.heap.size) :
    (W.alloc (.cells #[x, y] t)).drew.cell? ⟨g, 0, none⟩ = some x ∧ (W.alloc (.cells #[x, y] t)).drew.cell? ⟨g, 1, none⟩ = some y := by
  subst hg
  constructor
  · show (W.alloc (.cells #[x, y] t)).cell? ⟨W.heap.size, 0, none⟩ = some x
    simp [World.cell?_alloc_new]
  · show (W.alloc (.cells #[x, y] t)).cell? ⟨W.heap.size, 1, none⟩ = some y
    simp [World.cell?_alloc_new]

end Go.Proofs.YtgdgklibilddgaaDoor
