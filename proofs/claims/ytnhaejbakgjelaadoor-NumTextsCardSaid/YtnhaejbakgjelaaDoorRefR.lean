/- Plain laws of lengths and shifts bit by bit, of products and quotients bit by bit. -/
import Derived.Test.YtnhaejbakgjelaaDoorRefQ
import Derived.Test.YtnhaejbakgjelaaDoorNumC
namespace Go.Proofs.YtnhaejbakgjelaaDoor
open Go.RowKit

theorem bitI_or (n i : Nat) : bitI n i = 0 ∨ bitI n i = 1 := by unfold bitI; omega
theorem lenN_top {i r : Nat} (h : r < 2 ^ i) : lenN (2 ^ i + r) = i + 1 := by
  have hp := Nat.two_pow_pos i
  have e : Nat.log2 (2 ^ i + r) = i := (Nat.log2_eq_iff (by omega)).2 ⟨by omega, by rw [Nat.pow_succ]; omega⟩
  unfold lenN
  rw [if_neg (by omega), e]
theorem len_step {a i : Nat} : (bitI a i = 1 → lenN (a % 2 ^ (i + 1)) = i + 1) ∧ (bitI a i = 0 → lenN (a % 2 ^ (i + 1)) = lenN (a % 2 ^ i)) := by
  have hm := Nat.mod_lt a (Nat.two_pow_pos i)
  rw [Nat.pow_succ, Nat.mod_mul]
  unfold bitI
  constructor
  · intro h
    rw [show a / 2 ^ i % 2 = 1 from by omega, Nat.mul_one, Nat.add_comm, lenN_top hm]
  · intro h
    rw [show a / 2 ^ i % 2 = 0 from by omega, Nat.mul_zero, Nat.add_zero]
theorem lenN_bd {a k : Nat} : lenN (a % 2 ^ k) ≤ k := lenN_le (Nat.mod_lt _ (Nat.two_pow_pos k))
theorem bitI_high {a j : Nat} (ha : a < 340282366920938463463374607431768211456) (h : 128 ≤ j) : bitI a j = 0 := by
  have h1 : 2 ^ 128 ≤ 2 ^ j := Nat.pow_le_pow_right (by omega) h
  rw [two128] at h1
  unfold bitI
  rw [Nat.div_eq_of_lt (by omega)]
  rfl
/-- the bits of a number that is shifted -/
theorem shift_bit {a i : Nat} {k : Int} (ha : a < 340282366920938463463374607431768211456) (hi : i < 128) (h1 : k ≤ 127) (h2 : -127 ≤ k) :
    bitI (shlN a k) i = if 0 ≤ (i : Int) - k ∧ (i : Int) - k < 128 then bitI a ((i : Int) - k).toNat else 0 := by
  unfold shlN
  rw [if_neg (by omega)]
  by_cases hk : k < 0
  · rw [if_pos hk]
    obtain ⟨m, rfl⟩ : ∃ m : Nat, k = -(m : Int) := ⟨(-k).toNat, by omega⟩
    rw [show (- -(m : Int)).toNat = m from by omega, show ((i : Int) - -(m : Int)).toNat = m + i from by omega]
    have e : bitI (a / 2 ^ m) i = bitI a (m + i) := by unfold bitI; rw [Nat.div_div_eq_div_mul, ← Nat.pow_add]
    rw [e]
    split
    · rfl
    · exact bitI_high ha (by omega)
  · rw [if_neg hk]
    obtain ⟨m, rfl⟩ : ∃ m : Nat, k = (m : Int) := ⟨k.toNat, by omega⟩
    rw [Int.toNat_natCast]
    by_cases hm : m ≤ i
    · rw [if_pos (by omega), show ((i : Int) - (m : Int)).toNat = i - m from by omega]
      unfold bitI
      rw [← two128, show (128 : Nat) = i + (1 + (127 - i)) from by omega, Nat.pow_add, Nat.mod_mul_right_div_self, Nat.pow_add, Nat.pow_one, Nat.mod_mul_right_mod]
      have e : 2 ^ i = 2 ^ m * 2 ^ (i - m) := by rw [← Nat.pow_add]; congr 1; omega
      rw [e, ← Nat.div_div_eq_div_mul, Nat.mul_div_cancel _ (Nat.two_pow_pos m)]
    · rw [if_neg (by omega)]
      unfold bitI
      rw [← two128, show (128 : Nat) = i + (1 + (127 - i)) from by omega, Nat.pow_add, Nat.mod_mul_right_div_self, Nat.pow_add, Nat.pow_one, Nat.mod_mul_right_mod]
      have e : 2 ^ m = 2 ^ (m - i - 1) * 2 * 2 ^ i := by rw [← Nat.pow_succ, ← Nat.pow_add]; congr 1; omega
      rw [e, ← Nat.mul_assoc, Nat.mul_div_cancel _ (Nat.two_pow_pos i), ← Nat.mul_assoc]
      omega
theorem shift_far {a : Nat} {k : Int} (h : 127 < k ∨ k < -127) : shlN a k = 0 := by
  unfold shlN; rw [if_pos (by omega)]
theorem shlN_small {a : Nat} {k : Nat} (hk : k < 128) : shlN a (k : Int) = a * 2 ^ k % 340282366920938463463374607431768211456 := by
  unfold shlN; rw [if_neg (by omega), if_neg (by omega), Int.toNat_natCast]

/-! products -/
def tN (a k i : Nat) : Nat := a * (k % 2 ^ i)
theorem tN_zero (a k : Nat) : tN a k 0 = 0 := by simp [tN, Nat.mod_one]
theorem tN_step0 {a k i : Nat} (h : bitI k i = 0) : tN a k (i + 1) = tN a k i := by
  unfold tN; unfold bitI at h
  rw [Nat.pow_succ, Nat.mod_mul, show k / 2 ^ i % 2 = 0 from by omega, Nat.mul_zero, Nat.add_zero]
theorem tN_step1 {a k i : Nat} (h : bitI k i = 1) : tN a k (i + 1) = tN a k i + a * 2 ^ i := by
  unfold tN; unfold bitI at h
  rw [Nat.pow_succ, Nat.mod_mul, show k / 2 ^ i % 2 = 1 from by omega, Nat.mul_one, Nat.mul_add]
theorem tN_end {a k : Nat} (h : k < 18446744073709551616) : tN a k 64 = a * k := by
  unfold tN; rw [two64, Nat.mod_eq_of_lt h]
theorem lt_lenN' (a : Nat) : a < 2 ^ lenN a := by
  unfold lenN
  split
  · rename_i h; subst h; simp
  · exact Nat.lt_log2_self
theorem len_fits {a i : Nat} (hi : i ≤ 128) : ((lenN a : Int) + (i : Int) ≤ 128) ↔ a * 2 ^ i < 340282366920938463463374607431768211456 := by
  constructor
  · intro h
    rw [← two128]
    calc a * 2 ^ i < 2 ^ lenN a * 2 ^ i := Nat.mul_lt_mul_of_pos_right (lt_lenN' a) (Nat.two_pow_pos _)
      _ = 2 ^ (lenN a + i) := (Nat.pow_add _ _ _).symm
      _ ≤ 2 ^ 128 := Nat.pow_le_pow_right (by omega) (by omega)
  · intro h
    by_cases h0 : a = 0
    · subst h0; simp [lenN]; omega
    · have h1 : 2 ^ Nat.log2 a * 2 ^ i ≤ a * 2 ^ i := Nat.mul_le_mul_right _ (Nat.log2_self_le h0)
      rw [← Nat.pow_add] at h1
      rw [← two128] at h
      have h2 : Nat.log2 a + i < 128 := (Nat.pow_lt_pow_iff_right (by omega : 1 < 2)).1 (Nat.lt_of_le_of_lt h1 h)
      unfold lenN; rw [if_neg h0]; omega
def tF (a k i : Nat) : Bool := decide (tN a k i < 340282366920938463463374607431768211456)
theorem tF_zero (a k : Nat) : tF a k 0 = true := by unfold tF; rw [tN_zero]; decide
theorem tF_step0 {a k i : Nat} (h : bitI k i = 0) : tF a k (i + 1) = tF a k i := by unfold tF; rw [tN_step0 h]
def tM (a k i : Nat) : Nat := tN a k i % 340282366920938463463374607431768211456
theorem tM_zero (a k : Nat) : tM a k 0 = 0 := by unfold tM; rw [tN_zero]
theorem tM_step0 {a k i : Nat} (h : bitI k i = 0) : tM a k (i + 1) = tM a k i := by unfold tM; rw [tN_step0 h]
theorem tM_lt (a k i : Nat) : tM a k i < 340282366920938463463374607431768211456 := Nat.mod_lt _ (by omega)
theorem tM_step {a k i : Nat} (hi : i < 128) (h : bitI k i = 1) : addN (tM a k i) (shlN a (i : Int)) = tM a k (i + 1) := by
  unfold tM
  rw [tN_step1 h, shlN_small hi]
  unfold addN
  generalize tN a k i = x
  generalize a * 2 ^ i = y
  omega
theorem tF_step {a k i : Nat} (hi : i < 128) (h : bitI k i = 1) :
    ((tF a k i && decide ((lenN a : Int) + (i : Int) ≤ 128)) && addF (tM a k i) (shlN a (i : Int))) = tF a k (i + 1) := by
  unfold tF addF tM
  rw [tN_step1 h, shlN_small hi, Bool.eq_iff_iff]
  simp only [Bool.and_eq_true, decide_eq_true_eq]
  rw [len_fits (by omega)]
  generalize tN a k i = x
  generalize a * 2 ^ i = y
  omega
theorem times_end {a k : Nat} (h : k < 18446744073709551616) : tM a k 64 = timesN a k ∧ tF a k 64 = timesF a k := by
  unfold tF tM timesN timesF; rw [tN_end h]; exact ⟨rfl, rfl⟩

/-! quotients: what is left of the i highest bits -/
def ovL (a k i : Nat) : Nat := a / 2 ^ i % k
theorem ov_high {a k : Nat} (ha : a < 340282366920938463463374607431768211456) : ovL a k 128 = 0 := by
  unfold ovL; rw [two128, Nat.div_eq_of_lt ha, Nat.zero_mod]
theorem ov_bit {a i : Nat} : a / 2 ^ i = a / 2 ^ (i + 1) * 2 + (bitI a i).toNat := by
  rw [Nat.pow_succ, ← Nat.div_div_eq_div_mul]
  unfold bitI
  omega
theorem ov_step {a k i : Nat} (hk : 0 < k) : ovL a k i = (ovL a k (i + 1) * 2 + (bitI a i).toNat) - (if k ≤ ovL a k (i + 1) * 2 + (bitI a i).toNat then k else 0) ∧
    bitI (a / k) i = (if k ≤ ovL a k (i + 1) * 2 + (bitI a i).toNat then 1 else 0) := by
  have hb := ov_bit (a := a) (i := i)
  have hc := (bitI_bd a i).2
  have e1 : a / k / 2 ^ i = a / 2 ^ i / k := by rw [Nat.div_div_eq_div_mul, Nat.mul_comm, ← Nat.div_div_eq_div_mul]
  unfold ovL
  have hc2 : (bitI a i).toNat ≤ 1 := by omega
  generalize (bitI a i).toNat = c at *
  have hm := Nat.div_add_mod (a / 2 ^ (i + 1)) k
  have hl := Nat.mod_lt (a / 2 ^ (i + 1)) hk
  have e2 : a / 2 ^ i = k * (a / 2 ^ (i + 1) / k * 2) + (a / 2 ^ (i + 1) % k * 2 + c) := by
    rw [hb, ← Nat.mul_assoc]
    generalize k * (a / 2 ^ (i + 1) / k) = z at *
    omega
  have e3 : bitI (a / k) i = ((a / 2 ^ i / k % 2 : Nat) : Int) := by unfold bitI; rw [e1]
  rw [e3, e2, Nat.mul_add_mod, Nat.mul_add_div hk]
  generalize a / 2 ^ (i + 1) % k = r at *
  generalize a / 2 ^ (i + 1) / k = q at *
  clear e1 e2 e3 hb hm
  by_cases h : k ≤ r * 2 + c
  · rw [if_pos h, if_pos h, show r * 2 + c = (r * 2 + c - k) + k from by omega, Nat.add_mod_right, Nat.mod_eq_of_lt (by omega), Nat.add_div_right _ hk, Nat.div_eq_of_lt (by omega)]
    omega
  · rw [if_neg h, if_neg h, Nat.mod_eq_of_lt (by omega), Nat.div_eq_of_lt (by omega)]
    omega
theorem ov_lt {a k i : Nat} (hk : 0 < k) : ovL a k i < k := Nat.mod_lt _ hk
theorem ov_end {a k : Nat} : ovL a k 0 = a % k := by unfold ovL; rw [Nat.pow_zero, Nat.div_one]
end Go.Proofs.YtnhaejbakgjelaaDoor
