/- Plain laws of rows of bits. -/
import Derived.Test.YtgdgklibilddgaaDoorNumP2
namespace Go.Proofs.YtgdgklibilddgaaDoor
open Go.RowKit

def bitI (n i : Nat) : Int := ((n / 2 ^ i % 2 : Nat) : Int)
def shrI (a : Int) (k : Nat) : Int := a / 2 ^ k
def rowV (f : Nat → Int) (k : Nat) : List Value := (List.range k).map fun j => Value.int .i64 (f j)
theorem rowV_succ (f : Nat → Int) (k : Nat) : rowV f (k + 1) = rowV f k ++ [.int .i64 (f k)] := by simp [rowV, List.range_succ]
theorem rowV_length (f : Nat → Int) (k : Nat) : (rowV f k).length = k := by simp [rowV]
theorem rowV_get (f : Nat → Int) {k j : Nat} (h : j < k) : (rowV f k)[j]? = some (.int .i64 (f j)) := by simp [rowV, h]
theorem bitI_bd (n i : Nat) : 0 ≤ bitI n i ∧ bitI n i ≤ 1 := by unfold bitI; omega
theorem shrI_zero (a : Int) : shrI a 0 = a := by simp [shrI]
theorem shrI_succ (a : Int) (k : Nat) : shrI a k / 2 = shrI a (k + 1) := by
  unfold shrI; rw [Int.pow_succ, ← Int.ediv_ediv_of_nonneg (by rw [pow_cast]; exact Int.natCast_nonneg _)]
theorem shrI_bd {a : Int} (h0 : 0 ≤ a) (h1 : a < 18446744073709551616) (k : Nat) : 0 ≤ shrI a k ∧ shrI a k < 18446744073709551616 := by
  obtain ⟨A, rfl⟩ := Int.eq_ofNat_of_zero_le h0
  unfold shrI
  rw [divpow]
  have := Nat.div_le_self A (2 ^ k)
  generalize A / 2 ^ k = x at *
  omega
theorem bit_lo {h l : Int} (h0 : 0 ≤ h) (l0 : 0 ≤ l) {k : Nat} (hk : k < 64) : bitI (num h l) k = shrI l k % 2 := by
  obtain ⟨H, rfl⟩ := Int.eq_ofNat_of_zero_le h0
  obtain ⟨L, rfl⟩ := Int.eq_ofNat_of_zero_le l0
  unfold bitI shrI num
  simp only [Int.toNat_natCast]
  rw [divpow]
  have e : (H * 18446744073709551616 + L) / 2 ^ k = H * 2 ^ (63 - k) * 2 + L / 2 ^ k := by
    have hp : 18446744073709551616 = 2 ^ (63 - k) * 2 * 2 ^ k := by
      rw [← Nat.pow_succ, ← Nat.pow_add, show (63 - k).succ + k = 64 from by omega]
    rw [hp, ← Nat.mul_assoc, ← Nat.mul_assoc, Nat.add_comm, Nat.add_mul_div_right _ _ (Nat.two_pow_pos _), Nat.add_comm]
  rw [e]
  generalize H * 2 ^ (63 - k) = x
  generalize L / 2 ^ k = y
  omega
theorem bit_hi {h l : Int} (h0 : 0 ≤ h) (l0 : 0 ≤ l) (l1 : l < 18446744073709551616) (k : Nat) : bitI (num h l) (64 + k) = shrI h k % 2 := by
  obtain ⟨H, rfl⟩ := Int.eq_ofNat_of_zero_le h0
  obtain ⟨L, rfl⟩ := Int.eq_ofNat_of_zero_le l0
  unfold bitI shrI num
  simp only [Int.toNat_natCast]
  rw [divpow, Nat.pow_add, ← Nat.div_div_eq_div_mul, two64, show (H * 18446744073709551616 + L) / 18446744073709551616 = H from by omega]
  omega

/-! a number out of its bits -/
def sumB (f : Nat → Int) (from_ : Nat) : Nat → Nat
  | 0 => 0
  | c + 1 => sumB f (from_ + 1) c * 2 + (f from_).toNat
theorem sumB_lt {f : Nat → Int} (hf : ∀ j, f j ≤ 1) : ∀ (c from_ : Nat), sumB f from_ c < 2 ^ c
  | 0, _ => by simp [sumB]
  | c + 1, from_ => by
    have := sumB_lt hf c (from_ + 1)
    have := hf from_
    rw [sumB, Nat.pow_succ]
    omega
theorem sumB_bits {f : Nat → Int} {n : Nat} (hf : ∀ j, f j = bitI n j) : ∀ (c from_ : Nat), sumB f from_ c = n / 2 ^ from_ % 2 ^ c
  | 0, from_ => by simp [sumB, Nat.mod_one]
  | c + 1, from_ => by
    rw [sumB, sumB_bits hf c (from_ + 1), hf]
    unfold bitI
    rw [Int.toNat_natCast, Nat.pow_succ 2 from_, ← Nat.div_div_eq_div_mul, Nat.pow_succ', Nat.mod_mul]
    omega
theorem sumB_congr {f g : Nat → Int} : ∀ (c from_ : Nat), (∀ j, from_ ≤ j → j < from_ + c → f j = g j) → sumB f from_ c = sumB g from_ c
  | 0, _, _ => rfl
  | c + 1, from_, h => by
    rw [sumB, sumB, h from_ (Nat.le_refl _) (by omega), sumB_congr c (from_ + 1) fun j h1 h2 => h j (by omega) (by omega)]
theorem sumB_join (f : Nat → Int) (d : Nat) : ∀ (c from_ : Nat), sumB f from_ (c + d) = sumB f (from_ + c) d * 2 ^ c + sumB f from_ c
  | 0, from_ => by simp [sumB]
  | c + 1, from_ => by
    rw [show c + 1 + d = (c + d) + 1 from by omega, sumB, sumB_join f d c (from_ + 1), sumB, Nat.pow_succ, show from_ + 1 + c = from_ + (c + 1) from by omega, Nat.add_mul, Nat.mul_assoc, Nat.add_assoc]
end Go.Proofs.YtgdgklibilddgaaDoor
