/- The walks of the bitmaps' small functions. -/
import Derived.Test.YtnhaejbakgjelaaDoorBlk
import Derived.Test.YtnhaejbakgjelaaDoorPop
import Derived.Laws.Externs
import Derived.Laws.ResultCell
import Derived.Lib.Hide
import Derived.Deep.RegionHeld3
import Derived.Shelf.Spec.TrailingZeros
namespace Go.Proofs.YtnhaejbakgjelaaDoor
open Go.RowKit

theorem ret_int {k : IntKind} {a b : Int} (h : a = b) : Ending.returned (.int k a) = .returned (.int k b) := by rw [h]
theorem ret_bool {a b : Bool} (h : a = b) : Ending.returned (.bool a) = .returned (.bool b) := by rw [h]
theorem ret_tup2 {a b a' b' : Value} (h : a = a') (h2 : b = b') : Ending.returned (.tuple #[a, b]) = .returned (.tuple #[a', b']) := by rw [h, h2]
theorem int_eq {k : IntKind} {a b : Int} (h : a = b) : Value.int k a = .int k b := by rw [h]
theorem two_lt {j : Nat} (h : j < 64) : (0 : Int) < 2 ^ j ∧ (2 : Int) ^ j < 18446744073709551616 := by
  have h1 : 2 ^ j < 2 ^ 64 := Nat.pow_lt_pow_right (by omega) h
  have h2 := Nat.two_pow_pos j
  rw [show ((2 : Int) ^ j) = ((2 ^ j : Nat) : Int) from by simp]
  generalize 2 ^ j = x at *
  omega
theorem wrap_pow {j : Nat} (h : j < 64) : IntKind.u64.wrap (2 ^ j) = 2 ^ j := by
  obtain ⟨h1, h2⟩ := two_lt h
  rw [IntKind.wrap_u64]
  generalize (2 : Int) ^ j = x at *
  omega

theorem at_c (i : Nat) (w : World) (_hi : i < 9223372036854775808) :
    Calls Tryd.prog 39 #[.int .i64 i] w fun e w' => e = .returned (.tuple #[.int .i64 (i / 64 : Nat), .int .u64 (W (fun x => x == i) (i / 64) : Nat)]) ∧ w.drew = w' := by
  have hp : ((W (fun x => x == i) (i / 64) : Nat) : Int) = 2 ^ (i % 64) := by
    have := W_one (k := i / 64) (j := i % 64) (by omega)
    rw [show 64 * (i / 64) + i % 64 = i from by omega] at this
    rw [← this]; simp
  have hw := wrap_pow (Nat.mod_lt i (show 0 < 64 by omega))
  go_enter Tryd.func39, Tryd.ntmps39
  go_wp2
  go_region
  all_goals go_wp2
  all_goals go_ret2
  all_goals exact ⟨ret_tup2 (int_eq (by simp)) (int_eq (hw.trans hp.symm)), rfl⟩

theorem is_nil (i : Int) (w : World) :
    Calls Tryd.prog 38 #[.pointer none, .int .i64 i] w fun e w' => e = .returned (.bool false) ∧ w = w' := by
  go_enter Tryd.func38, Tryd.ntmps38
  go_wp2
  all_goals go_ret
  all_goals exact ⟨rfl, rfl⟩
theorem is_c (g n : Nat) (i : Int) (w : World) (h0 : w.cell? ⟨g, 0, none⟩ = some (.int .i64 n)) :
    Calls Tryd.prog 38 #[.pointer (some ⟨g, 0, none⟩), .int .i64 i] w fun e w' => e = .returned (.bool (decide (0 ≤ i ∧ i < n))) ∧ w = w' := by
  by_cases h1 : 0 ≤ i
  · by_cases h2 : i < n
    · have d1 : decide (0 ≤ i) = true := decide_eq_true h1
      have d2 : decide (i < n) = true := decide_eq_true h2
      go_enter Tryd.func38, Tryd.ntmps38
      go_wp2
      go_ret
      exact ⟨ret_bool (decide_eq_true ⟨h1, h2⟩).symm, rfl⟩
    · have d1 : decide (0 ≤ i) = true := decide_eq_true h1
      have d2 : decide (i < n) = false := decide_eq_false h2
      go_enter Tryd.func38, Tryd.ntmps38
      go_wp2
      go_ret
      exact ⟨rfl, rfl⟩
  · have d1 : decide (0 ≤ i) = false := decide_eq_false h1
    go_enter Tryd.func38, Tryd.ntmps38
    go_wp2
    go_ret
    exact ⟨rfl, rfl⟩

theorem mask_lo {k from_ : Nat} (h1 : k * 64 ≤ from_) (h2 : from_ < k * 64 + 64) : IntKind.u64.wrap (18446744073709551615 * 2 ^ (from_ - k * 64)) = ((W (fun x => decide (from_ ≤ x)) k : Nat) : Int) := by
  have h := W_from (k := k) (j := from_ - k * 64) (by omega)
  rw [show 64 * k + (from_ - k * 64) = from_ from by omega] at h
  rw [← h]
  obtain ⟨a, b⟩ := two_lt (show from_ - k * 64 < 64 by omega)
  rw [IntKind.wrap_u64]
  have e : ((18446744073709551616 - 2 ^ (from_ - k * 64) : Nat) : Int) = 18446744073709551616 - 2 ^ (from_ - k * 64) := by
    have : 2 ^ (from_ - k * 64) < 2 ^ 64 := Nat.pow_lt_pow_right (by omega) (by omega)
    rw [Int.natCast_sub (by omega)]; simp
  rw [e]
  generalize (2 : Int) ^ (from_ - k * 64) = x at *
  omega
theorem mask_lo0 {k from_ : Nat} (h1 : from_ ≤ k * 64) : (18446744073709551615 : Int) = ((W (fun x => decide (from_ ≤ x)) k : Nat) : Int) := by
  have h := W_from (k := k) (j := 0) (by omega)
  rw [W_congr (f := fun x => decide (from_ ≤ x)) (g := fun i => decide (64 * k + 0 ≤ i)) (fun j _ => by simp; omega), ← h]
  rfl
theorem mask_hi {k to_ : Nat} (h1 : k * 64 ≤ to_) (h2 : to_ < k * 64 + 64) : (18446744073709551615 : Int) / 2 ^ (63 - (to_ - k * 64)) = ((W (fun x => decide (x ≤ to_)) k : Nat) : Int) := by
  have h := W_to (k := k) (j := to_ - k * 64) (by omega)
  rw [show 64 * k + (to_ - k * 64) = to_ from by omega] at h
  rw [← h]
  generalize hj : to_ - k * 64 = j
  have hj2 : j < 64 := by omega
  have e : (18446744073709551615 : Nat) / 2 ^ (63 - j) = 2 ^ (j + 1) - 1 := by
    have p0 := Nat.two_pow_pos (63 - j)
    have p1 : 2 ^ (j + 1) * 2 ^ (63 - j) = 18446744073709551616 := by rw [← Nat.pow_add, show j + 1 + (63 - j) = 64 from by omega]
    have p2 := Nat.two_pow_pos (j + 1)
    generalize 2 ^ (63 - j) = a at *
    generalize 2 ^ (j + 1) = b at *
    refine Nat.div_eq_of_lt_le ?_ ?_
    · rw [Nat.sub_mul, p1]; omega
    · rw [show b - 1 + 1 = b from by omega, p1]; omega
  rw [← e]
  simp
theorem mask_hi0 {k to_ : Nat} (h1 : k * 64 + 63 ≤ to_) : (18446744073709551615 : Int) = ((W (fun x => decide (x ≤ to_)) k : Nat) : Int) := by
  have h := W_to (k := k) (j := 63) (by omega)
  rw [W_congr (f := fun x => decide (x ≤ to_)) (g := fun i => decide (i ≤ 64 * k + 63)) (fun j hj => by rw [Bool.eq_iff_iff]; simp; omega), ← h]
  rfl
theorem mask_c (k from_ to_ : Nat) (w : World) (h1 : from_ / 64 ≤ k) (h2 : k ≤ to_ / 64) (_h3 : from_ ≤ to_) (h4 : to_ < 9223372036854775808) :
    Calls Tryd.prog 56 #[.int .i64 k, .int .i64 from_, .int .i64 to_] w fun e w' => e = .returned (.int .u64 (W (fun x => decide (from_ ≤ x) && decide (x ≤ to_)) k : Nat)) ∧ w.drew = w' := by
  by_cases ha : from_ < k * 64
  · by_cases hb : 63 < to_ - k * 64
    · go_enter Tryd.func56, Tryd.ntmps56
      go_wp2
      go_region
      go_wp2
      go_ret
      exact ⟨ret_int ((congrArg (bits .and .u64 · _) (mask_lo0 (k := k) (by omega))).trans ((congrArg (bits .and .u64 _ ·) (mask_hi0 (k := k) (to_ := to_) (by omega))).trans (i_and _ _ k))), rfl⟩
    · go_enter Tryd.func56, Tryd.ntmps56
      go_wp2
      go_region
      go_wp2
      go_ret
      exact ⟨ret_int ((congrArg (bits .and .u64 · _) (mask_lo0 (k := k) (by omega))).trans ((congrArg (bits .and .u64 _ ·) (mask_hi (k := k) (to_ := to_) (by omega) (by omega))).trans (i_and _ _ k))), rfl⟩
  · by_cases hb : 63 < to_ - k * 64
    · go_enter Tryd.func56, Tryd.ntmps56
      go_wp2
      go_region
      go_wp2
      go_ret
      exact ⟨ret_int ((congrArg (bits .and .u64 · _) (mask_lo (k := k) (by omega) (by omega))).trans ((congrArg (bits .and .u64 _ ·) (mask_hi0 (k := k) (to_ := to_) (by omega))).trans (i_and _ _ k))), rfl⟩
    · go_enter Tryd.func56, Tryd.ntmps56
      go_wp2
      go_region
      go_wp2
      go_ret
      exact ⟨ret_int ((congrArg (bits .and .u64 · _) (mask_lo (k := k) (by omega) (by omega))).trans ((congrArg (bits .and .u64 _ ·) (mask_hi (k := k) (to_ := to_) (by omega) (by omega))).trans (i_and _ _ k))), rfl⟩

theorem pop1 {x : Nat} (hx : x < 18446744073709551616) : IntKind.u64.wrap (bits .and .u64 (↑x / 2) 6148914691236517205 + bits .and .u64 ↑x 6148914691236517205) = ((c4 32 x : Nat) : Int) := by
  have h := (c_bounds x hx).1
  unfold c4 at *
  rw [mk4_32] at *
  rw [show ((x : Int) / 2) = ((x / 2 : Nat) : Int) from by omega, show (6148914691236517205 : Int) = ((6148914691236517205 : Nat) : Int) from rfl, u64_and_nat _ _ (by omega) (by omega), u64_and_nat _ _ hx (by omega), IntKind.wrap_u64]
  omega
theorem pop2 {x : Nat} (hx : x < 18446744073709551616) (h : c16 16 x < 18446744073709551616) : IntKind.u64.wrap (bits .and .u64 (↑x / 4) 3689348814741910323 + bits .and .u64 ↑x 3689348814741910323) = ((c16 16 x : Nat) : Int) := by
  unfold c16 at *
  rw [mk16_16] at *
  rw [show ((x : Int) / 4) = ((x / 4 : Nat) : Int) from by omega, show (3689348814741910323 : Int) = ((3689348814741910323 : Nat) : Int) from rfl, u64_and_nat _ _ (by omega) (by omega), u64_and_nat _ _ hx (by omega), IntKind.wrap_u64]
  omega
theorem pop3 {x : Nat} (hx : x / 16 + x < 18446744073709551616) : bits .and .u64 (↑x / 16 + ↑x) 1085102592571150095 = ((c256 8 x : Nat) : Int) := by
  unfold c256
  rw [mk256_8]
  rw [show ((x : Int) / 16 + x) = ((x / 16 + x : Nat) : Int) from by omega, show (1085102592571150095 : Int) = ((1085102592571150095 : Nat) : Int) from rfl, u64_and_nat _ _ hx (by omega)]
set_option maxRecDepth 20000 in
theorem ones64_c (x : Nat) (w : World) (hx : x < 18446744073709551616) :
    Calls Tryd.prog 37 #[.int .u64 x] w fun e w' => e = .returned (.int .i64 (fs 2 64 x)) ∧ w = w' := by
  obtain ⟨b1, b2, b3⟩ := c_bounds x hx
  obtain ⟨p1, p2⟩ := pop_all x
  obtain ⟨l1, l2, l3, l4, l5⟩ := last256 p1
  have e1 := pop1 hx
  have e2 := pop2 b1 b2
  have e3 := pop3 b3
  rw [p2] at l5
  have P := Lib.hid l5
  clear l5 p1 p2
  generalize c4 32 x = y1 at *
  generalize c16 16 y1 = y2 at *
  generalize c256 8 y2 = y3 at *
  generalize fs 2 64 x = r at *
  go_enter Tryd.func37, Tryd.ntmps37
  go_wp2
  go_ret
  refine ⟨ret_int ?_, rfl⟩
  rw [← P.out]
  rw [i64_and127]
  simp only [Int.natCast_emod, Int.natCast_add, Int.natCast_ediv]
  rfl
theorem ones_c (f : Nat → Bool) (k : Nat) (w : World) :
    Calls Tryd.prog 37 #[.int .u64 (W f k : Nat)] w fun e w' => e = .returned (.int .i64 (cnt f (64 * k) 64)) ∧ w = w' := by
  rw [← pop_W]; exact ones64_c _ w (W_lt f k)

def Tab (w : World) : Prop := TabAt 0 Lib.deBruijn64tab w
set_option maxHeartbeats 1000000 in
theorem tz64_core (x k idx : Nat) (w : World) (hx0 : ((x : Int) == 0) = false)
    (key : IntKind.u64.wrap (bits BinOp.and IntKind.u64 (x : Int) (IntKind.u64.wrap (-(x : Int))) * 285870213051353865) / 288230376151711744 = (idx : Int))
    (hi : idx < 64) (_hk : k < 64) (hcell : w.cell? ⟨0, idx, none⟩ = some (.int .u8 k)) :
    Calls Tryd.prog 57 #[.int .u64 x] w fun e w' => e = .returned (.int .i64 k) ∧ w = w' := by
  go_enter Tryd.func57, Tryd.ntmps57
  go_wp2_with (simp only [key])
  go_ret
  exact ⟨rfl, rfl⟩
theorem tz_c (x : Nat) (w : World) (hx0 : x ≠ 0) (hx : x < 18446744073709551616) (hT : Tab w) :
    Calls Tryd.prog 57 #[.int .u64 x] w fun e w' => e = .returned (.int .i64 (Lib.ctz 64 x)) ∧ w = w' := by
  obtain ⟨hlow, hk⟩ := Lib.lowest_bit 64 x hx0 hx
  obtain ⟨hi, htab⟩ := Lib.deBruijn64_at _ hk
  have hcell := hT _ hi
  rw [htab] at hcell
  exact tz64_core x _ _ w (by simp; omega) (tz64_key x _ hx hx0 hlow) hi hk hcell
end Go.Proofs.YtnhaejbakgjelaaDoor
