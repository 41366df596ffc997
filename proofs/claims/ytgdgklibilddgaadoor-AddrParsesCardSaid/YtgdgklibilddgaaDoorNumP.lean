/- Plain laws on numbers of 128 bits, in two words of 64: no program in sight. -/
import Derived.Laws.BitsAllLaws
import Derived.WalkKit
namespace Go.Proofs.YtgdgklibilddgaaDoor
open Go.RowKit

def hi (n : Nat) : Int := ((n / 18446744073709551616 % 18446744073709551616 : Nat) : Int)
def lo (n : Nat) : Int := ((n % 18446744073709551616 : Nat) : Int)
abbrev numV (n : Nat) : Value := .agg #[.int .u64 (hi n), .int .u64 (lo n)]
def num (h l : Int) : Nat := h.toNat * 18446744073709551616 + l.toNat

theorem hi_nn (n : Nat) : 0 ≤ hi n := by unfold hi; omega
theorem hi_lt (n : Nat) : hi n < 18446744073709551616 := by unfold hi; omega
theorem lo_nn (n : Nat) : 0 ≤ lo n := by unfold lo; omega
theorem lo_lt (n : Nat) : lo n < 18446744073709551616 := by unfold lo; omega
theorem num_hi_lo {n : Nat} (h : n < 340282366920938463463374607431768211456) : num (hi n) (lo n) = n := by unfold num hi lo; omega
theorem num_lt {h l : Int} (h1 : h < 18446744073709551616) (h2 : l < 18446744073709551616) : num h l < 340282366920938463463374607431768211456 := by unfold num; omega
theorem hi_num {h l : Int} (h0 : 0 ≤ h) (h1 : h < 18446744073709551616) (l0 : 0 ≤ l) (h2 : l < 18446744073709551616) : hi (num h l) = h := by unfold num hi; omega
theorem lo_num {h l : Int} (l0 : 0 ≤ l) (h2 : l < 18446744073709551616) : lo (num h l) = l := by unfold num lo; omega
theorem numV_of {A B : Int} {N : Nat} (a0 : 0 ≤ A) (a1 : A < 18446744073709551616) (b0 : 0 ≤ B) (b1 : B < 18446744073709551616) (h : num A B = N) : Value.agg #[.int .u64 A, .int .u64 B] = numV N := by
  subst h; simp only [numV, hi_num a0 a1 b0 b1, lo_num b0 b1]
theorem hi_lo_eq {a b : Nat} (ha : a < 340282366920938463463374607431768211456) (hb : b < 340282366920938463463374607431768211456) : (hi a = hi b ∧ lo a = lo b) ↔ a = b := by
  constructor
  · rintro ⟨h1, h2⟩; rw [← num_hi_lo ha, ← num_hi_lo hb, h1, h2]
  · rintro rfl; exact ⟨rfl, rfl⟩

/-! The carry's and the borrow's words. -/
def addL (x y c : Int) : Int := (x + y + c) % 18446744073709551616
def addC (x y c : Int) : Int := (x + y + c) / 18446744073709551616
def subL (x y b : Int) : Int := (x - y - b) % 18446744073709551616
def subB (x y b : Int) : Int := if x < y + b then 1 else 0
theorem addC_bd {x y c : Int} (h1 : 0 ≤ x) (h2 : x < 18446744073709551616) (h3 : 0 ≤ y) (h4 : y < 18446744073709551616) (h5 : 0 ≤ c) (h6 : c ≤ 1) : 0 ≤ addC x y c ∧ addC x y c ≤ 1 := by
  unfold addC; omega
theorem subB_bd (x y c : Int) : 0 ≤ subB x y c ∧ subB x y c ≤ 1 := by
  unfold subB; split <;> omega
theorem addL_bd (x y c : Int) : 0 ≤ addL x y c ∧ addL x y c < 18446744073709551616 := by unfold addL; omega
theorem subL_bd (x y c : Int) : 0 ≤ subL x y c ∧ subL x y c < 18446744073709551616 := by unfold subL; omega

/-! What the functions compute. -/
def addN (a b : Nat) : Nat := (a + b) % 340282366920938463463374607431768211456
def addF (a b : Nat) : Bool := decide (a + b < 340282366920938463463374607431768211456)
def subN (a b : Nat) : Nat := (a + 340282366920938463463374607431768211456 - b) % 340282366920938463463374607431768211456
def subF (a b : Nat) : Bool := decide (b ≤ a)
def shlN (a : Nat) (k : Int) : Nat :=
  if 128 ≤ k ∨ k ≤ -128 then 0 else if k < 0 then a / 2 ^ (-k).toNat else a * 2 ^ k.toNat % 340282366920938463463374607431768211456
def notN (a : Nat) : Nat := 340282366920938463463374607431768211455 - a
def onesN (k : Int) : Nat := if k < 1 then 0 else if 128 ≤ k then 340282366920938463463374607431768211455 else 2 ^ k.toNat - 1
def lenN (a : Nat) : Nat := if a = 0 then 0 else Nat.log2 a + 1
def cmpN (a b : Nat) : Int := if a < b then -1 else if a = b then 0 else 1
def timesN (a k : Nat) : Nat := a * k % 340282366920938463463374607431768211456
def timesF (a k : Nat) : Bool := decide (a * k < 340282366920938463463374607431768211456)
def overQ (a k : Nat) : Nat := if k = 0 then 0 else a / k
def overR (a k : Nat) : Nat := if k = 0 then 0 else a % k

theorem add_words {ah al bh bl : Int} (h1 : 0 ≤ ah) (h2 : ah < 18446744073709551616) (h3 : 0 ≤ al) (h4 : al < 18446744073709551616)
    (h5 : 0 ≤ bh) (h6 : bh < 18446744073709551616) (h7 : 0 ≤ bl) (h8 : bl < 18446744073709551616) :
    Value.agg #[.int .u64 (addL ah bh (addC al bl 0)), .int .u64 (addL al bl 0)] = numV (addN (num ah al) (num bh bl)) ∧ (addC ah bh (addC al bl 0) == 0) = addF (num ah al) (num bh bl) := by
  constructor
  · refine numV_of (addL_bd _ _ _).1 (addL_bd _ _ _).2 (addL_bd _ _ _).1 (addL_bd _ _ _).2 ?_
    unfold num addN addL addC; omega
  · unfold addF; rw [Bool.eq_iff_iff]; simp only [beq_iff_eq, decide_eq_true_eq]
    unfold num addC; omega

theorem sub_words {ah al bh bl : Int} (h1 : 0 ≤ ah) (h2 : ah < 18446744073709551616) (h3 : 0 ≤ al) (h4 : al < 18446744073709551616)
    (h5 : 0 ≤ bh) (h6 : bh < 18446744073709551616) (h7 : 0 ≤ bl) (h8 : bl < 18446744073709551616) :
    Value.agg #[.int .u64 (subL ah bh (subB al bl 0)), .int .u64 (subL al bl 0)] = numV (subN (num ah al) (num bh bl)) ∧ (subB ah bh (subB al bl 0) == 0) = subF (num ah al) (num bh bl) := by
  have hb : subB al bl 0 = if al < bl then 1 else 0 := by unfold subB; simp
  constructor
  · refine numV_of (subL_bd _ _ _).1 (subL_bd _ _ _).2 (subL_bd _ _ _).1 (subL_bd _ _ _).2 ?_
    rw [hb]; unfold num subN subL; split <;> omega
  · unfold subF; rw [Bool.eq_iff_iff]; simp only [beq_iff_eq, decide_eq_true_eq]
    rw [hb]; unfold num subB
    split <;> split <;> simp <;> omega

theorem xor_max (a : Int) (h1 : 0 ≤ a) (h2 : a < 18446744073709551616) : bits .xor .u64 IntKind.u64.max a = 18446744073709551615 - a := by
  have e : IntKind.u64.max = 18446744073709551615 := by decide
  rw [e, u64_xor _ _ (by omega) (by omega) h1 h2]
  have : ((18446744073709551615 : Int).toNat ^^^ a.toNat) = 2 ^ 64 - (a.toNat + 1) := by
    rw [show (18446744073709551615 : Int).toNat = 2 ^ 64 - 1 from by decide]
    apply Nat.eq_of_testBit_eq
    intro i
    rw [Nat.testBit_xor, Nat.testBit_two_pow_sub_one, Nat.testBit_two_pow_sub_succ (by omega)]
    by_cases hi : i < 64
    · simp [hi]
    · simp [hi, Nat.testBit_lt_two_pow (show a.toNat < 2 ^ i from Nat.lt_of_lt_of_le (by omega : a.toNat < 2 ^ 64) (Nat.pow_le_pow_right (by omega) (by omega)))]
  rw [this]; omega

theorem not_words {ah al : Int} (h1 : 0 ≤ ah) (h2 : ah < 18446744073709551616) (h3 : 0 ≤ al) (h4 : al < 18446744073709551616) :
    Value.agg #[.int .u64 (bits .xor .u64 IntKind.u64.max ah), .int .u64 (bits .xor .u64 IntKind.u64.max al)] = numV (notN (num ah al)) := by
  rw [xor_max ah h1 h2, xor_max al h3 h4]
  refine numV_of (by omega) (by omega) (by omega) (by omega) ?_
  unfold num notN; omega

theorem wrap_u64 {x : Int} (h : 0 ≤ x) : IntKind.u64.wrap x = x % 18446744073709551616 := by
  rfl

theorem pow_cast (k : Nat) : ((2 : Int) ^ k) = ((2 ^ k : Nat) : Int) := by simp

theorem pow_split {k : Nat} (hk : k ≤ 64) : 2 ^ (64 - k) * 2 ^ k = 18446744073709551616 := by
  rw [← Nat.pow_add, show 64 - k + k = 64 from by omega]

/-- the low word's upper bits lie behind the high word's lower bits -/
theorem or_shift {h l k : Nat} (hk : k < 64) (hl : l < 18446744073709551616) :
    (h * 2 ^ k % 18446744073709551616) ||| (l / 2 ^ (64 - k)) = (h * 18446744073709551616 + l) * 2 ^ k / 18446744073709551616 % 18446744073709551616 := by
  have hp := pow_split (k := k) (by omega)
  have hlt : l / 2 ^ (64 - k) < 2 ^ k := by
    rw [Nat.div_lt_iff_lt_mul (Nat.two_pow_pos _), Nat.mul_comm, hp]; exact hl
  have e1 : h * 2 ^ k % 18446744073709551616 = 2 ^ k * (h % 2 ^ (64 - k)) := by
    rw [← hp, Nat.mul_mod_mul_right, Nat.mul_comm]
  rw [e1, ← Nat.two_pow_add_eq_or_of_lt hlt]
  have e2 : (h * 18446744073709551616 + l) * 2 ^ k / 18446744073709551616 = h * 2 ^ k + l / 2 ^ (64 - k) := by
    have e4 : l * 2 ^ k / 18446744073709551616 = l / 2 ^ (64 - k) := by rw [← hp, Nat.mul_div_mul_right _ _ (Nat.two_pow_pos _)]
    rw [Nat.add_mul, Nat.mul_right_comm, Nat.add_comm, Nat.add_mul_div_right _ _ (by omega), Nat.add_comm, e4]
  rw [e2, ← hp, Nat.mul_comm (2 ^ (64 - k)) (2 ^ k)]
  have e3 : (h * 2 ^ k + l / 2 ^ (64 - k)) = 2 ^ k * h + l / 2 ^ (64 - k) := by rw [Nat.mul_comm]
  rw [e3, Nat.mod_mul, Nat.mul_add_mod, Nat.mod_eq_of_lt hlt, Nat.mul_add_div (Nat.two_pow_pos _), Nat.div_eq_of_lt hlt, Nat.add_zero, Nat.add_comm]


end Go.Proofs.YtgdgklibilddgaaDoor
