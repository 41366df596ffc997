/- Plain laws of sums, differences and orders bit by bit. -/
import Derived.Test.YtgdgklibilddgaaDoorRefP
namespace Go.Proofs.YtgdgklibilddgaaDoor
open Go.RowKit

def carryN (a b k : Nat) : Nat := (a % 2 ^ k + b % 2 ^ k) / 2 ^ k
theorem carry_zero (a b : Nat) : carryN a b 0 = 0 := by simp [carryN, Nat.mod_one]
theorem carry_bd (a b k : Nat) : carryN a b k ≤ 1 := by
  unfold carryN
  have h := Nat.two_pow_pos k
  have h1 := Nat.mod_lt a h
  have h2 := Nat.mod_lt b h
  have : (a % 2 ^ k + b % 2 ^ k) / 2 ^ k < 2 := by rw [Nat.div_lt_iff_lt_mul h]; omega
  omega
theorem add_bit (a b k : Nat) : (a / 2 ^ k % 2 + b / 2 ^ k % 2 + carryN a b k) % 2 = (a + b) / 2 ^ k % 2 := by
  have h := Nat.two_pow_pos k
  have e : (a + b) / 2 ^ k = a / 2 ^ k + b / 2 ^ k + carryN a b k := by
    have e1 := Nat.div_add_mod a (2 ^ k)
    have e2 := Nat.div_add_mod b (2 ^ k)
    have e3 : a + b = 2 ^ k * (a / 2 ^ k + b / 2 ^ k) + (a % 2 ^ k + b % 2 ^ k) := by rw [Nat.mul_add]; omega
    rw [e3, Nat.mul_add_div h]; rfl
  rw [e]; omega
theorem add_carry (a b k : Nat) : (a / 2 ^ k % 2 + b / 2 ^ k % 2 + carryN a b k) / 2 = carryN a b (k + 1) := by
  have h := Nat.two_pow_pos k
  unfold carryN
  rw [Nat.pow_succ, Nat.mod_mul, Nat.mod_mul, ← Nat.div_div_eq_div_mul]
  have e : a % 2 ^ k + 2 ^ k * (a / 2 ^ k % 2) + (b % 2 ^ k + 2 ^ k * (b / 2 ^ k % 2)) = 2 ^ k * (a / 2 ^ k % 2 + b / 2 ^ k % 2) + (a % 2 ^ k + b % 2 ^ k) := by rw [Nat.mul_add]; omega
  rw [e, Nat.mul_add_div h]
theorem add_stepI (a b k : Nat) : (bitI a k + bitI b k + (carryN a b k : Int)) % 2 = bitI (a + b) k ∧ (bitI a k + bitI b k + (carryN a b k : Int)) / 2 = (carryN a b (k + 1) : Int) := by
  have h1 := add_bit a b k
  have h2 := add_carry a b k
  unfold bitI
  omega
theorem two128 : (2 : Nat) ^ 128 = 340282366920938463463374607431768211456 := by decide
theorem carry_end {a b : Nat} (ha : a < 340282366920938463463374607431768211456) (hb : b < 340282366920938463463374607431768211456) : ((carryN a b 128 : Int) == 0) = addF a b := by
  unfold carryN addF
  rw [two128, Nat.mod_eq_of_lt ha, Nat.mod_eq_of_lt hb, Bool.eq_iff_iff]
  simp only [beq_iff_eq, decide_eq_true_eq]
  omega

/-- a row of bits that is cut off behind the n-th -/
def cutI (n : Nat) (f : Nat → Int) (j : Nat) : Int := if j < n then f j else 0
theorem cutI_lt {n : Nat} {f : Nat → Int} {j : Nat} (h : j < n) : cutI n f j = f j := by unfold cutI; rw [if_pos h]
theorem cutI_ge {n : Nat} {f : Nat → Int} {j : Nat} (h : n ≤ j) : cutI n f j = 0 := by unfold cutI; rw [if_neg (by omega)]
theorem cutI_bd {n : Nat} {f : Nat → Int} (h : ∀ j, j < n → 0 ≤ f j ∧ f j ≤ 1) (j : Nat) : 0 ≤ cutI n f j ∧ cutI n f j ≤ 1 := by
  unfold cutI; split
  · exact h j (by assumption)
  · omega
theorem sum_cut (x : Nat) : sumB (cutI 128 (bitI x)) 0 128 = x % 340282366920938463463374607431768211456 := by
  rw [sumB_congr (g := bitI x) 128 0 (fun j _ h => cutI_lt (by omega)), sumB_bits (fun _ => rfl), Nat.pow_zero, Nat.div_one, two128]
theorem sum_cut_of {f : Nat → Int} {x : Nat} (h : ∀ j, j < 128 → f j = bitI x j) : sumB (cutI 128 f) 0 128 = x % 340282366920938463463374607431768211456 := by
  rw [← sum_cut x]
  exact sumB_congr 128 0 fun j _ hj => by rw [cutI_lt (by omega), cutI_lt (by omega), h j (by omega)]

/-! the borrow -/
def borrowN (a b k : Nat) : Nat := if a % 2 ^ k < b % 2 ^ k then 1 else 0
theorem borrow_zero (a b : Nat) : borrowN a b 0 = 0 := by simp [borrowN, Nat.mod_one]
theorem borrow_bd (a b k : Nat) : borrowN a b k ≤ 1 := by unfold borrowN; split <;> omega
theorem borrow_step (a b k : Nat) : (borrowN a b (k + 1) : Int) = if bitI a k - bitI b k - (borrowN a b k : Int) < 0 then 1 else 0 := by
  have h := Nat.two_pow_pos k
  have h1 := Nat.mod_lt a h
  have h2 := Nat.mod_lt b h
  unfold borrowN bitI
  rw [Nat.pow_succ, Nat.mod_mul, Nat.mod_mul]
  have ba : a / 2 ^ k % 2 < 2 := Nat.mod_lt _ (by omega)
  have bb : b / 2 ^ k % 2 < 2 := Nat.mod_lt _ (by omega)
  generalize a / 2 ^ k % 2 = x at *
  generalize b / 2 ^ k % 2 = y at *
  generalize a % 2 ^ k = p at *
  generalize b % 2 ^ k = q at *
  generalize 2 ^ k = z at *
  have hx : x = 0 ∨ x = 1 := by omega
  have hy : y = 0 ∨ y = 1 := by omega
  rcases hx with rfl | rfl <;> rcases hy with rfl | rfl <;> (repeat' split) <;> omega
theorem sub_bit {a b k : Nat} (hk : k < 128) (hb : b < 340282366920938463463374607431768211456) :
    (bitI a k - bitI b k - (borrowN a b k : Int)) % 2 = bitI (a + 340282366920938463463374607431768211456 - b) k := by
  have h := Nat.two_pow_pos k
  have h1 := Nat.mod_lt a h
  have h2 := Nat.mod_lt b h
  have e1 := Nat.div_add_mod a (2 ^ k)
  have e2 := Nat.div_add_mod b (2 ^ k)
  have hp : 340282366920938463463374607431768211456 = 2 ^ k * (2 ^ (127 - k) * 2) := by
    rw [← Nat.pow_succ, ← Nat.pow_add, show k + (127 - k).succ = 128 from by omega]
  have hb2 : b / 2 ^ k < 2 ^ (127 - k) * 2 := by rw [Nat.div_lt_iff_lt_mul h, Nat.mul_comm, ← hp]; exact hb
  have e : (a + 340282366920938463463374607431768211456 - b) / 2 ^ k = a / 2 ^ k + 2 ^ (127 - k) * 2 - b / 2 ^ k - borrowN a b k := by
    rw [hp]
    unfold borrowN
    generalize 2 ^ (127 - k) * 2 = m at *
    generalize a / 2 ^ k = x at *
    generalize b / 2 ^ k = y at *
    split
    · rename_i hlt
      have : a + 2 ^ k * m - b = 2 ^ k * (x + m - y - 1) + (2 ^ k + a % 2 ^ k - b % 2 ^ k) := by
        have e5 : 2 ^ k * (x + m - y - 1) = 2 ^ k * x + 2 ^ k * m - 2 ^ k * y - 2 ^ k := by
          rw [Nat.mul_sub, Nat.mul_sub, Nat.mul_add, Nat.mul_one]
        have e6 : 2 ^ k * y + 2 ^ k ≤ 2 ^ k * m := by rw [← Nat.mul_succ]; exact Nat.mul_le_mul_left _ hb2
        generalize 2 ^ k * x = X at *
        generalize 2 ^ k * y = Y at *
        generalize 2 ^ k * m = M at *
        omega
      rw [this, Nat.mul_add_div h, Nat.div_eq_of_lt (by omega), Nat.add_zero]
    · rename_i hlt
      have : a + 2 ^ k * m - b = 2 ^ k * (x + m - y) + (a % 2 ^ k - b % 2 ^ k) := by
        have e5 : 2 ^ k * (x + m - y) = 2 ^ k * x + 2 ^ k * m - 2 ^ k * y := by rw [Nat.mul_sub, Nat.mul_add]
        have e6 : 2 ^ k * y ≤ 2 ^ k * m := Nat.mul_le_mul_left _ (by omega)
        generalize 2 ^ k * x = X at *
        generalize 2 ^ k * y = Y at *
        generalize 2 ^ k * m = M at *
        omega
      rw [this, Nat.mul_add_div h, Nat.div_eq_of_lt (by omega), Nat.add_zero, Nat.sub_zero]
  have hbd := borrow_bd a b k
  unfold bitI
  rw [e]
  clear e hp e1 e2 h1 h2
  generalize borrowN a b k = c at *
  generalize a / 2 ^ k = x at *
  generalize b / 2 ^ k = y at *
  generalize 2 ^ (127 - k) = z at *
  omega
theorem borrow_end {a b : Nat} (ha : a < 340282366920938463463374607431768211456) (hb : b < 340282366920938463463374607431768211456) : ((borrowN a b 128 : Int) == 0) = subF a b := by
  unfold borrowN subF
  rw [two128, Nat.mod_eq_of_lt ha, Nat.mod_eq_of_lt hb, Bool.eq_iff_iff]
  simp only [beq_iff_eq, decide_eq_true_eq]
  split <;> omega
theorem sub_mod (a b : Nat) : (a + 340282366920938463463374607431768211456 - b) % 340282366920938463463374607431768211456 = subN a b := rfl
theorem cmp_same {a b j : Nat} (h : a / 2 ^ (j + 1) = b / 2 ^ (j + 1)) (e : bitI a j = bitI b j) : a / 2 ^ j = b / 2 ^ j := by
  rw [Nat.pow_succ, ← Nat.div_div_eq_div_mul, ← Nat.div_div_eq_div_mul] at h
  unfold bitI at e
  omega
theorem cmp_bits {a b j : Nat} (h : a / 2 ^ (j + 1) = b / 2 ^ (j + 1)) (e : bitI a j ≠ bitI b j) : bitI a j - bitI b j = cmpN a b := by
  rw [Nat.pow_succ, ← Nat.div_div_eq_div_mul, ← Nat.div_div_eq_div_mul] at h
  have hp := Nat.two_pow_pos j
  have h1 : a / 2 ^ j < b / 2 ^ j → a < b := fun q => Nat.lt_of_not_le fun r => by have := Nat.div_le_div_right (c := 2 ^ j) r; omega
  have h2 : b / 2 ^ j < a / 2 ^ j → b < a := fun q => Nat.lt_of_not_le fun r => by have := Nat.div_le_div_right (c := 2 ^ j) r; omega
  unfold bitI at e ⊢
  unfold cmpN
  rcases Nat.lt_trichotomy (a / 2 ^ j) (b / 2 ^ j) with q | q | q
  · rw [if_pos (h1 q)]; omega
  · omega
  · have := h2 q
    rw [if_neg (by omega), if_neg (by omega)]; omega
theorem cmp_eq {a b : Nat} (h : a / 2 ^ 0 = b / 2 ^ 0) : cmpN a b = 0 := by
  rw [Nat.pow_zero, Nat.div_one, Nat.div_one] at h
  unfold cmpN; rw [if_neg (by omega), if_pos h]
end Go.Proofs.YtgdgklibilddgaaDoor
