/- Plain laws on shifts of numbers of 128 bits. -/
import Derived.Test.YtgdgklibilddgaaDoorNumP
namespace Go.Proofs.YtgdgklibilddgaaDoor
open Go.RowKit

theorem numV_nat {A B N : Nat} (hA : A < 18446744073709551616) (hB : B < 18446744073709551616) (h : A * 18446744073709551616 + B = N) :
    Value.agg #[.int .u64 (A : Int), .int .u64 (B : Int)] = numV N := by
  refine numV_of (by omega) (by omega) (by omega) (by omega) ?_
  unfold num; simp only [Int.toNat_natCast]; exact h
theorem wrap_nat (x : Nat) : IntKind.u64.wrap (x : Int) = ((x % 18446744073709551616 : Nat) : Int) := by
  rw [wrap_u64 (by omega)]; omega
theorem mulpow (a k : Nat) : (a : Int) * 2 ^ k = ((a * 2 ^ k : Nat) : Int) := by
  rw [Int.natCast_mul, Int.natCast_pow]; rfl
theorem divpow (a k : Nat) : (a : Int) / 2 ^ k = ((a / 2 ^ k : Nat) : Int) := by
  rw [Int.natCast_ediv, Int.natCast_pow]; rfl
theorem two64 : (2 : Nat) ^ 64 = 18446744073709551616 := by decide

theorem join_mod (x : Nat) : x / 18446744073709551616 % 18446744073709551616 * 18446744073709551616 + x % 18446744073709551616 = x % 340282366920938463463374607431768211456 := by omega
theorem join_div {x : Nat} : x / 18446744073709551616 * 18446744073709551616 + x % 18446744073709551616 = x := by omega

theorem shl_nat {h l k : Nat} (hk : k < 64) (hl : l < 18446744073709551616) :
    ((h * 2 ^ k % 18446744073709551616) ||| (l / 2 ^ (64 - k))) * 18446744073709551616 + l * 2 ^ k % 18446744073709551616 = (h * 18446744073709551616 + l) * 2 ^ k % 340282366920938463463374607431768211456 := by
  rw [or_shift hk hl]
  have c4 : l * 2 ^ k % 18446744073709551616 = (h * 18446744073709551616 + l) * 2 ^ k % 18446744073709551616 := by
    rw [Nat.add_mul, Nat.mul_right_comm, Nat.mul_add_mod_self_right]
  rw [c4]
  exact join_mod _

theorem or_lt {a b : Nat} (ha : a < 18446744073709551616) (hb : b < 18446744073709551616) : a ||| b < 18446744073709551616 := by
  rw [← two64] at *; exact Nat.or_lt_two_pow ha hb

theorem shl_words {h l k : Nat} (h1 : h < 18446744073709551616) (h2 : l < 18446744073709551616) (k1 : k < 64) :
    Value.agg #[.int .u64 (bits .or .u64 (IntKind.u64.wrap ((h : Int) * 2 ^ k)) ((l : Int) / 2 ^ (64 - k))), .int .u64 (IntKind.u64.wrap ((l : Int) * 2 ^ k))] = numV (shlN (h * 18446744073709551616 + l) k) := by
  have hlt : l / 2 ^ (64 - k) < 18446744073709551616 := Nat.lt_of_le_of_lt (Nat.div_le_self _ _) h2
  have hm : ∀ x : Nat, x % 18446744073709551616 < 18446744073709551616 := fun x => Nat.mod_lt _ (by omega)
  rw [mulpow, mulpow, divpow, wrap_nat, wrap_nat, u64_or_nat _ _ (hm _) hlt]
  refine numV_nat (or_lt (hm _) hlt) (hm _) ?_
  rw [shl_nat k1 h2]
  unfold shlN
  rw [if_neg (by omega), if_neg (by omega), Int.toNat_natCast]

theorem shl_words_up {h l k : Nat} (k1 : k < 64) :
    Value.agg #[.int .u64 (IntKind.u64.wrap ((l : Int) * 2 ^ k)), .int .u64 0] = numV (shlN (h * 18446744073709551616 + l) ((k : Int) + 64)) := by
  have hm : ∀ x : Nat, x % 18446744073709551616 < 18446744073709551616 := fun x => Nat.mod_lt _ (by omega)
  rw [mulpow, wrap_nat]
  refine numV_nat (B := 0) (hm _) (by omega) ?_
  unfold shlN
  rw [if_neg (by omega), if_neg (by omega), show ((k : Int) + 64).toNat = k + 64 from by omega]
  rw [Nat.pow_add, ← Nat.mul_assoc, two64]
  have e3 : (h * 18446744073709551616 + l) * 2 ^ k = h * 2 ^ k * 18446744073709551616 + l * 2 ^ k := by rw [Nat.add_mul, Nat.mul_right_comm]
  rw [e3]
  clear e3 hm
  generalize h * 2 ^ k = x
  generalize l * 2 ^ k = y
  omega

theorem or_shift_r {h l k : Nat} (hk : k < 64) (hl : l < 18446744073709551616) :
    (l / 2 ^ k) ||| (h * 2 ^ (64 - k) % 18446744073709551616) = (h * 18446744073709551616 + l) / 2 ^ k % 18446744073709551616 := by
  have hp := pow_split (k := k) (by omega)
  have hlt : l / 2 ^ k < 2 ^ (64 - k) := by
    rw [Nat.div_lt_iff_lt_mul (Nat.two_pow_pos _), hp]; exact hl
  have e1 : h * 2 ^ (64 - k) % 18446744073709551616 = 2 ^ (64 - k) * (h % 2 ^ k) := by
    rw [← hp, Nat.mul_comm (2 ^ (64 - k)) (2 ^ k), Nat.mul_mod_mul_right, Nat.mul_comm]
  rw [e1, Nat.or_comm, ← Nat.two_pow_add_eq_or_of_lt hlt]
  have e2 : (h * 18446744073709551616 + l) / 2 ^ k = h * 2 ^ (64 - k) + l / 2 ^ k := by
    rw [← hp, ← Nat.mul_assoc, Nat.add_comm, Nat.add_mul_div_right _ _ (Nat.two_pow_pos _), Nat.add_comm]
  rw [e2, ← hp]
  have e3 : h * 2 ^ (64 - k) + l / 2 ^ k = 2 ^ (64 - k) * h + l / 2 ^ k := by rw [Nat.mul_comm]
  rw [e3, Nat.mod_mul, Nat.mul_add_mod, Nat.mod_eq_of_lt hlt, Nat.mul_add_div (Nat.two_pow_pos _), Nat.div_eq_of_lt hlt, Nat.add_zero, Nat.add_comm]

def shrN (a : Nat) (k : Int) : Nat := shlN a (-k)
theorem shrN_nat {a k : Nat} (k1 : k < 128) (ha : a < 340282366920938463463374607431768211456) : shrN a k = a / 2 ^ k := by
  unfold shrN shlN
  rw [if_neg (by omega)]
  by_cases hK : k = 0
  · subst hK; simp; omega
  · rw [if_pos (by omega), show (- -(k : Int)).toNat = k from by omega]

theorem div_join {h l k : Nat} (hl : l < 18446744073709551616) : h / 2 ^ k = (h * 18446744073709551616 + l) / 2 ^ k / 18446744073709551616 := by
  rw [Nat.div_div_eq_div_mul, Nat.mul_comm (2 ^ k), ← Nat.div_div_eq_div_mul]
  congr 1; omega

theorem shr_words {h l k : Nat} (h1 : h < 18446744073709551616) (h2 : l < 18446744073709551616) (k1 : k < 64) :
    Value.agg #[.int .u64 ((h : Int) / 2 ^ k), .int .u64 (bits .or .u64 ((l : Int) / 2 ^ k) (IntKind.u64.wrap ((h : Int) * 2 ^ (64 - k))))] = numV (shrN (h * 18446744073709551616 + l) k) := by
  have hlt : l / 2 ^ k < 18446744073709551616 := Nat.lt_of_le_of_lt (Nat.div_le_self _ _) h2
  have hlt2 : h / 2 ^ k < 18446744073709551616 := Nat.lt_of_le_of_lt (Nat.div_le_self _ _) h1
  have hm : ∀ x : Nat, x % 18446744073709551616 < 18446744073709551616 := fun x => Nat.mod_lt _ (by omega)
  rw [mulpow, divpow, divpow, wrap_nat, u64_or_nat _ _ hlt (hm _)]
  refine numV_nat hlt2 (or_lt hlt (hm _)) ?_
  rw [or_shift_r k1 h2, shrN_nat (by omega) (by omega), div_join (h := h) (l := l) (k := k) h2]
  exact join_div

theorem shr_words_up {h l k : Nat} (h1 : h < 18446744073709551616) (h2 : l < 18446744073709551616) (k1 : k < 64) :
    Value.agg #[.int .u64 0, .int .u64 ((h : Int) / 2 ^ k)] = numV (shrN (h * 18446744073709551616 + l) ((k : Int) + 64)) := by
  have hlt2 : h / 2 ^ k < 18446744073709551616 := Nat.lt_of_le_of_lt (Nat.div_le_self _ _) h1
  rw [divpow]
  refine numV_nat (A := 0) (by omega) hlt2 ?_
  rw [show ((k : Int) + 64) = ((64 + k : Nat) : Int) from by omega, shrN_nat (by omega) (by omega), Nat.pow_add, two64, ← Nat.div_div_eq_div_mul]
  rw [show (h * 18446744073709551616 + l) / 18446744073709551616 = h from by omega, Nat.zero_mul, Nat.zero_add]

theorem shlN_lt (a : Nat) (k : Int) (ha : a < 340282366920938463463374607431768211456) : shlN a k < 340282366920938463463374607431768211456 := by
  unfold shlN
  split
  · omega
  · split
    · exact Nat.lt_of_le_of_lt (Nat.div_le_self _ _) ha
    · exact Nat.mod_lt _ (by omega)
theorem shl_over {a : Nat} {k : Int} (h : 128 ≤ k ∨ k ≤ -128) : Value.agg #[.int .u64 0, .int .u64 0] = numV (shlN a k) := by
  unfold shlN; rw [if_pos h]; rfl
theorem shr_over {a : Nat} {k : Int} (h : 128 ≤ k ∨ k ≤ -128) : Value.agg #[.int .u64 0, .int .u64 0] = numV (shrN a k) := by
  unfold shrN shlN; rw [if_pos (by omega)]; rfl

theorem times_nat {H L K M up ll ov hh : Nat} (hM : 0 < M) (Hu : L * K / M = up) (Hl : L * K % M = ll) (Hv : H * K / M = ov) (Hm : H * K % M = hh) :
    (H * M + L) * K = (ov * M + hh + up) * M + ll := by
  have e1 := Nat.div_add_mod (L * K) M
  have e2 := Nat.div_add_mod (H * K) M
  rw [Hu, Hl] at e1
  rw [Hv, Hm] at e2
  rw [Nat.add_mul, Nat.mul_right_comm, ← e1, ← e2, Nat.mul_comm M ov, Nat.mul_comm M up, Nat.add_mul (ov * M + hh) up M, Nat.add_assoc]

theorem times_words {H L K up ll ov hh : Nat} (Hu : L * K / 18446744073709551616 = up) (Hl : L * K % 18446744073709551616 = ll) (Hv : H * K / 18446744073709551616 = ov) (Hm : H * K % 18446744073709551616 = hh) :
    Value.agg #[.int .u64 (addL hh up 0), .int .u64 ll] = numV (timesN (num H L) (K : Int).toNat) ∧ ((ov == 0) && (addC hh up 0 == 0)) = timesF (num H L) (K : Int).toNat ∧ (hh : Int) < 18446744073709551616 := by
  have h := times_nat (M := 18446744073709551616) (by omega) Hu Hl Hv Hm
  have e : num H L * K = (ov * 18446744073709551616 + hh + up) * 18446744073709551616 + ll := by unfold num; simpa using h
  have b1 : ll < 18446744073709551616 := by rw [← Hl]; exact Nat.mod_lt _ (by omega)
  have b2 : hh < 18446744073709551616 := by rw [← Hm]; exact Nat.mod_lt _ (by omega)
  clear h Hu Hl Hv Hm
  refine ⟨?_, ?_, by omega⟩
  · have e2 : addL hh up 0 = (((hh + up) % 18446744073709551616 : Nat) : Int) := by unfold addL; omega
    rw [e2]
    refine numV_nat (Nat.mod_lt _ (by omega)) b1 ?_
    unfold timesN
    rw [Int.toNat_natCast, e]
    clear e e2
    omega
  · unfold timesF
    rw [Int.toNat_natCast, e, Bool.eq_iff_iff]
    simp only [Bool.and_eq_true, beq_iff_eq, decide_eq_true_eq]
    unfold addC
    clear e
    omega

theorem ones_words {k : Int} (k1 : 1 ≤ k) (k2 : k < 128) :
    onesN k = notN (num (hi (shlN (num (hi (notN (num 0 0))) (lo (notN (num 0 0)))) k)) (lo (shlN (num (hi (notN (num 0 0))) (lo (notN (num 0 0)))) k))) := by
  have e0 : notN (num 0 0) = 340282366920938463463374607431768211455 := by decide
  rw [e0, num_hi_lo (n := 340282366920938463463374607431768211455) (by omega), num_hi_lo (shlN_lt _ _ (by omega))]
  obtain ⟨K, rfl⟩ := Int.eq_ofNat_of_zero_le (show 0 ≤ k by omega)
  unfold onesN shlN notN
  rw [if_neg (by omega), if_neg (by omega), if_neg (by omega), if_neg (by omega), Int.toNat_natCast]
  have hp : 2 ^ K * 2 ^ (128 - K) = 340282366920938463463374607431768211456 := by
    rw [← Nat.pow_add, show K + (128 - K) = 128 from by omega]
  have h1 : 0 < 2 ^ K := Nat.two_pow_pos _
  have h2 : 0 < 2 ^ (128 - K) := Nat.two_pow_pos _
  have e1 : 340282366920938463463374607431768211455 * 2 ^ K = 340282366920938463463374607431768211456 * (2 ^ K - 1) + (340282366920938463463374607431768211456 - 2 ^ K) := by
    have : 2 ^ K ≤ 340282366920938463463374607431768211456 := by rw [← hp]; exact Nat.le_mul_of_pos_right _ h2
    generalize 2 ^ K = x at *
    omega
  have h3 : 2 ^ K ≤ 340282366920938463463374607431768211456 := by rw [← hp]; exact Nat.le_mul_of_pos_right _ h2
  rw [e1, Nat.mul_add_mod]
  clear e1 hp h2 e0
  generalize 2 ^ K = x at *
  omega
end Go.Proofs.YtgdgklibilddgaaDoor
