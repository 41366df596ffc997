/- Plain laws of the long division of two words by one, half a word at a time. -/
import Derived.Test.YtnhaejbakgjelaaDoorNumP2
namespace Go.Proofs.YtnhaejbakgjelaaDoor
open Go.RowKit

theorem dv_first {u v1 v0 V d : Int} (hV : V = v1 * 4294967296 + v0) (hv1 : 2147483648 ≤ v1) (hv0 : 0 ≤ v0) (hv0' : v0 < 4294967296) (hu : 0 ≤ u) (huV : u < V) (hd : 0 ≤ d) (hd' : d < 4294967296) :
    (u * 4294967296 + d) / V ≤ u / v1 ∧ u / v1 ≤ 4294967297 ∧ 0 ≤ u / v1 ∧ 0 ≤ u / v1 * v1 ∧ u / v1 * v1 ≤ u ∧ u - u / v1 * v1 < v1 := by
  have a1 : 0 ≤ u / v1 := Int.ediv_nonneg hu (by omega)
  have a2 : u / v1 * v1 ≤ u := Int.ediv_mul_le u (by omega)
  have a3 : 0 ≤ u / v1 * v1 := Int.mul_nonneg a1 (by omega)
  have a4 : u < (u / v1 + 1) * v1 := Int.lt_ediv_add_one_mul_self u (by omega)
  refine ⟨?_, ?_, a1, a3, a2, ?_⟩
  · refine Int.le_of_lt_add_one (Int.ediv_lt_of_lt_mul (by omega) ?_)
    have e : (u / v1 + 1) * V = (u / v1 + 1) * v1 * 4294967296 + (u / v1 + 1) * v0 := by rw [hV, Int.mul_add, ← Int.mul_assoc]
    have a5 : 0 ≤ (u / v1 + 1) * v0 := Int.mul_nonneg (by omega) hv0
    rw [e]
    generalize (u / v1 + 1) * v1 = x at *
    generalize (u / v1 + 1) * v0 = y at *
    omega
  · refine Int.le_of_lt_add_one (Int.ediv_lt_of_lt_mul (by omega) ?_)
    omega
  · rw [Int.add_mul, Int.one_mul] at a4
    omega

theorem dv_more {u v1 v0 V d q rh : Int} (hV : V = v1 * 4294967296 + v0) (hV0 : 0 < V) (hq : q * v1 + rh = u) (huV : u < V) (hd' : d < 4294967296) (ht : 4294967296 ≤ q ∨ 4294967296 * rh + d < q * v0) :
    (u * 4294967296 + d) / V ≤ q - 1 := by
  refine Int.le_of_lt_add_one (Int.ediv_lt_of_lt_mul hV0 ?_)
  rw [Int.sub_add_cancel]
  rcases ht with ht | ht
  · have : 4294967296 * V ≤ q * V := Int.mul_le_mul_of_nonneg_right ht (by omega)
    omega
  · have e : q * V = q * v1 * 4294967296 + q * v0 := by rw [hV, Int.mul_add, ← Int.mul_assoc]
    rw [e]
    generalize q * v1 = x at *
    generalize q * v0 = y at *
    omega

theorem dv_done {u v1 v0 V d q rh : Int} (hV : V = v1 * 4294967296 + v0) (hV0 : 0 < V) (hq : q * v1 + rh = u) (hle : (u * 4294967296 + d) / V ≤ q) (ht : q * v0 ≤ 4294967296 * rh + d) :
    q = (u * 4294967296 + d) / V := by
  refine Int.le_antisymm (Int.le_ediv_of_mul_le hV0 ?_) hle
  have e : q * V = q * v1 * 4294967296 + q * v0 := by rw [hV, Int.mul_add, ← Int.mul_assoc]
  rw [e]
  generalize q * v1 = x at *
  generalize q * v0 = y at *
  omega

theorem dv_break {u v1 v0 V d q rh : Int} (hV : V = v1 * 4294967296 + v0) (hV0 : 0 < V) (hv0 : 0 ≤ v0) (hv0' : v0 < 4294967296) (hd : 0 ≤ d) (hq : q * v1 + rh = u) (hq0 : 0 ≤ q) (hqB : q ≤ 4294967296) (hrh : 4294967296 ≤ rh)
    (hle : (u * 4294967296 + d) / V ≤ q) : q = (u * 4294967296 + d) / V := by
  refine dv_done hV hV0 hq hle ?_
  have a1 : q * v0 ≤ 4294967296 * v0 := Int.mul_le_mul_of_nonneg_right hqB hv0
  omega

/-- one step taken whole: what is left -/
theorem dv_left {u V d : Int} (hV0 : 0 < V) (hV1 : V < 18446744073709551616) :
    IntKind.u64.wrap (IntKind.u64.wrap (IntKind.u64.wrap (u * 4294967296) + d) - IntKind.u64.wrap ((u * 4294967296 + d) / V * V)) = (u * 4294967296 + d) % V := by
  have e : ∀ x : Int, IntKind.u64.wrap x = x % 18446744073709551616 := fun _ => rfl
  have a := Int.mul_ediv_add_emod (u * 4294967296 + d) V
  have b := Int.emod_nonneg (u * 4294967296 + d) (show V ≠ 0 by omega)
  have c := Int.emod_lt_of_pos (u * 4294967296 + d) hV0
  rw [Int.mul_comm V] at a
  simp only [e]
  generalize (u * 4294967296 + d) / V * V = x at *
  generalize (u * 4294967296 + d) % V = y at *
  omega

/-- the numbers that the division begins with -/
theorem dv_prep {h l y s : Nat} (hs : 2 ^ 63 ≤ y * 2 ^ s) (hs2 : y * 2 ^ s < 2 ^ 64) (hh : h < y) (hl : l < 18446744073709551616) (hs64 : s ≤ 63) :
    IntKind.u64.wrap ((y : Int) * 2 ^ s) = ((y * 2 ^ s : Nat) : Int) ∧
    bits .and .u64 ((y * 2 ^ s : Nat) : Int) 4294967295 = ((y * 2 ^ s % 4294967296 : Nat) : Int) ∧
    bits .or .u64 (IntKind.u64.wrap ((h : Int) * 2 ^ s)) ((l : Int) / 2 ^ (64 - s)) = (((h * 18446744073709551616 + l) * 2 ^ s / 18446744073709551616 : Nat) : Int) ∧
    IntKind.u64.wrap ((l : Int) * 2 ^ s) = (((h * 18446744073709551616 + l) * 2 ^ s % 18446744073709551616 : Nat) : Int) ∧
    (h * 18446744073709551616 + l) * 2 ^ s / 18446744073709551616 < y * 2 ^ s := by
  have hsm : ∀ x : Nat, x % 18446744073709551616 < 18446744073709551616 := fun x => Nat.mod_lt _ (by omega)
  have hp : 0 < 2 ^ s := Nat.two_pow_pos _
  have a1 : (h * 18446744073709551616 + l) * 2 ^ s / 18446744073709551616 < y * 2 ^ s := by
    rw [Nat.div_lt_iff_lt_mul (by omega), Nat.mul_right_comm]
    exact Nat.mul_lt_mul_of_pos_right (by omega) hp
  have a2 : y * 2 ^ s < 18446744073709551616 := by rw [← two64]; exact hs2
  have hlt : l / 2 ^ (64 - s) < 18446744073709551616 := Nat.lt_of_le_of_lt (Nat.div_le_self _ _) hl
  refine ⟨?_, ?_, ?_, ?_, a1⟩
  · rw [mulpow, wrap_nat, Nat.mod_eq_of_lt a2]
  · have := u64_and_nat (y * 2 ^ s) 4294967295 a2 (by omega)
    rw [show ((4294967295 : Nat) : Int) = 4294967295 from rfl] at this
    rw [this, show (4294967295 : Nat) = 2 ^ 32 - 1 from by decide, Nat.and_two_pow_sub_one_eq_mod]
  · rw [mulpow, wrap_nat, divpow, u64_or_nat _ _ (hsm _) hlt, or_shift (by omega) hl, Nat.mod_eq_of_lt (Nat.lt_trans a1 a2)]
  · rw [mulpow, wrap_nat]
    rw [Nat.add_mul, Nat.mul_right_comm, Nat.mul_add_mod_self_right]

theorem dv_and (x : Nat) (hx : x < 18446744073709551616) : bits .and .u64 (x : Int) 4294967295 = ((x % 4294967296 : Nat) : Int) := by
  have := u64_and_nat x 4294967295 hx (by omega)
  rw [show ((4294967295 : Nat) : Int) = 4294967295 from rfl] at this
  rw [this, show (4294967295 : Nat) = 2 ^ 32 - 1 from by decide, Nat.and_two_pow_sub_one_eq_mod]

/-- two half steps are the whole division -/
theorem dv_join {A V y P u d1 d0 : Nat} (hP : 0 < P) (hV : V = y * P) (hV0 : 0 < V) (hA : A * P = (u * 4294967296 + d1) * 4294967296 + d0) (huV : u < V) (hd1 : d1 < 4294967296) (hd0 : d0 < 4294967296) :
    (u * 4294967296 + d1) / V * 4294967296 + ((u * 4294967296 + d1) % V * 4294967296 + d0) / V = A / y ∧ ((u * 4294967296 + d1) % V * 4294967296 + d0) % V / P = A % y ∧
    (u * 4294967296 + d1) / V < 4294967296 ∧ ((u * 4294967296 + d1) % V * 4294967296 + d0) / V < 4294967296 := by
  have e1 : A / y = A * P / V := by rw [hV, Nat.mul_div_mul_right _ _ hP]
  have e2 : A * P % V = A % y * P := by rw [hV, Nat.mul_mod_mul_right]
  have e3 : A % y = A * P % V / P := by rw [e2, Nat.mul_div_cancel _ hP]
  have hr : (u * 4294967296 + d1) % V < V := Nat.mod_lt _ hV0
  have a := Nat.div_add_mod (u * 4294967296 + d1) V
  have b1 : (u * 4294967296 + d1) / V < 4294967296 := by
    rw [Nat.div_lt_iff_lt_mul hV0, Nat.mul_comm]; omega
  have b2 : ((u * 4294967296 + d1) % V * 4294967296 + d0) / V < 4294967296 := by
    rw [Nat.div_lt_iff_lt_mul hV0, Nat.mul_comm]; omega
  rw [e1, e3, hA]
  have e4 : (u * 4294967296 + d1) * 4294967296 + d0 = V * ((u * 4294967296 + d1) / V * 4294967296) + ((u * 4294967296 + d1) % V * 4294967296 + d0) := by
    rw [← Nat.mul_assoc]
    generalize V * ((u * 4294967296 + d1) / V) = x at *
    generalize (u * 4294967296 + d1) % V = z at *
    omega
  rw [e4, Nat.mul_add_div hV0, Nat.mul_add_mod]
  exact ⟨rfl, rfl, b1, b2⟩

theorem dv_split (x : Nat) : x = (x / 18446744073709551616 * 4294967296 + x % 18446744073709551616 / 4294967296) * 4294967296 + x % 18446744073709551616 % 4294967296 := by omega
theorem dv_d1 (x : Nat) : x % 18446744073709551616 / 4294967296 < 4294967296 := by omega
theorem dv_d0 (x : Nat) : x % 18446744073709551616 % 4294967296 < 4294967296 := by omega
theorem dv_cast {V u d1 d0 A y P : Nat} (j1 : (u * 4294967296 + d1) / V * 4294967296 + ((u * 4294967296 + d1) % V * 4294967296 + d0) / V = A / y)
    (j2 : ((u * 4294967296 + d1) % V * 4294967296 + d0) % V / P = A % y) (j3 : (u * 4294967296 + d1) / V < 4294967296) (j4 : ((u * 4294967296 + d1) % V * 4294967296 + d0) / V < 4294967296) :
    ((u : Int) * 4294967296 + d1) / V * 4294967296 + (((u : Int) * 4294967296 + d1) % V * 4294967296 + d0) / V = (A : Int) / y ∧
      (((u : Int) * 4294967296 + d1) % V * 4294967296 + d0) % V / P = (A : Int) % y ∧
      ((u : Int) * 4294967296 + d1) / V < 4294967296 ∧ (((u : Int) * 4294967296 + d1) % V * 4294967296 + d0) / V < 4294967296 := by
  have k1 : (u : Int) * 4294967296 + d1 = ((u * 4294967296 + d1 : Nat) : Int) := by omega
  rw [k1]
  have k2 : ((u * 4294967296 + d1 : Nat) : Int) % V * 4294967296 + (d0 : Int) = (((u * 4294967296 + d1) % V * 4294967296 + d0 : Nat) : Int) := by
    rw [← Int.natCast_emod]; omega
  rw [k2, ← Int.natCast_ediv, ← Int.natCast_ediv, ← Int.natCast_emod, ← Int.natCast_ediv, ← Int.natCast_ediv, ← Int.natCast_emod, ← j1, ← j2]
  exact ⟨by omega, rfl, by omega, by omega⟩
theorem dv_bounds (x V : Nat) (h1 : 9223372036854775808 ≤ V) (h2 : V < 18446744073709551616) (h5 : x / 18446744073709551616 < V) :
    (V : Int) = (V : Int) / 4294967296 * 4294967296 + ((V % 4294967296 : Nat) : Int) ∧ 2147483648 ≤ (V : Int) / 4294967296 ∧ (V : Int) / 4294967296 < 4294967296 ∧ 0 ≤ ((V % 4294967296 : Nat) : Int) ∧ ((V % 4294967296 : Nat) : Int) < 4294967296 ∧
      0 ≤ ((x / 18446744073709551616 : Nat) : Int) ∧ ((x / 18446744073709551616 : Nat) : Int) < V ∧ (V : Int) < 18446744073709551616 ∧ 0 ≤ ((x % 18446744073709551616 / 4294967296 : Nat) : Int) ∧ ((x % 18446744073709551616 / 4294967296 : Nat) : Int) < 4294967296 ∧
      0 ≤ ((x % 18446744073709551616 % 4294967296 : Nat) : Int) ∧ ((x % 18446744073709551616 % 4294967296 : Nat) : Int) < 4294967296 := by
  refine ⟨by omega, by omega, by omega, by omega, by omega, by omega, by omega, by omega, by omega, by omega, by omega, by omega⟩

set_option maxRecDepth 10000 in
theorem dv_all {h l y : Int} {s : Nat} (h0 : 1 ≤ h) (h1 : h < y) (l0 : 0 ≤ l) (l1 : l < 18446744073709551616) (hs : 2 ^ 63 ≤ y.toNat * 2 ^ s) (hs2 : y.toNat * 2 ^ s < 2 ^ 64) (hs64 : s ≤ 63) :
    ∃ V v1 v0 u d1 d0 : Int, IntKind.u64.wrap (y * 2 ^ s) = V ∧ V / 4294967296 = v1 ∧ bits .and .u64 V 4294967295 = v0 ∧ bits .or .u64 (IntKind.u64.wrap (h * 2 ^ s)) (l / 2 ^ (64 - s)) = u ∧
      IntKind.u64.wrap (l * 2 ^ s) / 4294967296 = d1 ∧ bits .and .u64 (IntKind.u64.wrap (l * 2 ^ s)) 4294967295 = d0 ∧
      V = v1 * 4294967296 + v0 ∧ 2147483648 ≤ v1 ∧ v1 < 4294967296 ∧ 0 ≤ v0 ∧ v0 < 4294967296 ∧ 0 ≤ u ∧ u < V ∧ V < 18446744073709551616 ∧ 0 ≤ d1 ∧ d1 < 4294967296 ∧ 0 ≤ d0 ∧ d0 < 4294967296 ∧
      (u * 4294967296 + d1) / V * 4294967296 + ((u * 4294967296 + d1) % V * 4294967296 + d0) / V = (h * 18446744073709551616 + l) / y ∧
      ((u * 4294967296 + d1) % V * 4294967296 + d0) % V / 2 ^ s = (h * 18446744073709551616 + l) % y ∧
      (u * 4294967296 + d1) / V < 4294967296 ∧ ((u * 4294967296 + d1) % V * 4294967296 + d0) / V < 4294967296 := by
  obtain ⟨H, rfl⟩ := Int.eq_ofNat_of_zero_le (show 0 ≤ h by omega)
  obtain ⟨L, rfl⟩ := Int.eq_ofNat_of_zero_le l0
  obtain ⟨Y, rfl⟩ := Int.eq_ofNat_of_zero_le (show 0 ≤ y by omega)
  rw [Int.toNat_natCast] at hs hs2
  obtain ⟨p1, p2, p3, p4, p5⟩ := dv_prep (h := H) (l := L) (y := Y) (s := s) hs hs2 (by omega) (by omega) hs64
  have hV2 : Y * 2 ^ s < 18446744073709551616 := by rw [← two64]; exact hs2
  have hV1 : 9223372036854775808 ≤ Y * 2 ^ s := by rw [show (9223372036854775808 : Nat) = 2 ^ 63 from by decide]; exact hs
  have hn0 : (H * 18446744073709551616 + L) * 2 ^ s % 18446744073709551616 < 18446744073709551616 := Nat.mod_lt _ (by omega)
  have p6 := dv_and _ hn0
  rw [p1, p3, p4]
  have hj := @dv_join (H * 18446744073709551616 + L) (Y * 2 ^ s) Y (2 ^ s) ((H * 18446744073709551616 + L) * 2 ^ s / 18446744073709551616) ((H * 18446744073709551616 + L) * 2 ^ s % 18446744073709551616 / 4294967296) ((H * 18446744073709551616 + L) * 2 ^ s % 18446744073709551616 % 4294967296) (Nat.two_pow_pos _) rfl (by omega)
    (dv_split _) p5 (dv_d1 _) (dv_d0 _)
  obtain ⟨j1, j2, j3, j4⟩ := hj
  obtain ⟨c1, c2, c3, c4⟩ := dv_cast j1 j2 j3 j4
  obtain ⟨b1, b2, b3, b4, b5, b6, b7, b8, b9, b10, b11, b12⟩ := dv_bounds ((H * 18446744073709551616 + L) * 2 ^ s) (Y * 2 ^ s) hV1 hV2 p5
  have e1 : (((H * 18446744073709551616 + L) * 2 ^ s % 18446744073709551616 : Nat) : Int) / 4294967296 = (((H * 18446744073709551616 + L) * 2 ^ s % 18446744073709551616 / 4294967296 : Nat) : Int) := rfl
  have e2 : ((H : Int) * 18446744073709551616 + L) = ((H * 18446744073709551616 + L : Nat) : Int) := rfl
  have e3 : ((2 : Int) ^ s) = ((2 ^ s : Nat) : Int) := by simp
  rw [e2, e3]
  exact ⟨((Y * 2 ^ s : Nat) : Int), ((Y * 2 ^ s : Nat) : Int) / 4294967296, ((Y * 2 ^ s % 4294967296 : Nat) : Int), (((H * 18446744073709551616 + L) * 2 ^ s / 18446744073709551616 : Nat) : Int), (((H * 18446744073709551616 + L) * 2 ^ s % 18446744073709551616 / 4294967296 : Nat) : Int), (((H * 18446744073709551616 + L) * 2 ^ s % 18446744073709551616 % 4294967296 : Nat) : Int), Eq.refl _, Eq.refl _, p2, Eq.refl _, e1, p6, b1, b2, b3, b4, b5, b6, b7, b8, b9, b10, b11, b12, c1, c2, c3, c4⟩
end Go.Proofs.YtnhaejbakgjelaaDoor
