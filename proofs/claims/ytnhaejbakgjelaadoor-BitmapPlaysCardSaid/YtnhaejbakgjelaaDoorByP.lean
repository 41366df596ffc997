/- Plain laws of bitmaps: their bytes. No program in sight. -/
import Derived.Test.YtnhaejbakgjelaaDoorBmP
import Derived.IntWalk
namespace Go.Proofs.YtnhaejbakgjelaaDoor

/-- n bits from a on, the lowest first -/
def b8 (f : Nat → Bool) (a : Nat) : Nat → Nat
  | 0 => 0
  | n + 1 => 2 ^ n * (f (a + n)).toNat + b8 f a n
theorem b8_lt (f : Nat → Bool) (a : Nat) : ∀ n, b8 f a n < 2 ^ n
  | 0 => by simp [b8]
  | n + 1 => by
    have := b8_lt f a n
    rw [b8, Nat.pow_succ]
    cases f (a + n) <;> simp <;> omega
theorem b8_bit (f : Nat → Bool) (a : Nat) : ∀ n j, (b8 f a n).testBit j = (decide (j < n) && f (a + j))
  | 0, j => by simp [b8]
  | n + 1, j => by
    rw [b8]
    have hl := b8_lt f a n
    have ih := b8_bit f a n j
    rcases Nat.lt_trichotomy j n with h | h | h
    · have d1 : decide (j < n) = true := decide_eq_true h
      have d2 : decide (j < n + 1) = true := decide_eq_true (by omega)
      rw [d1] at ih
      rw [d2]
      cases hb : f (a + n)
      · simpa using ih
      · simp only [Bool.toNat_true, Nat.mul_one]
        rw [Nat.testBit_two_pow_add_gt h]; exact ih
    · subst h
      have d1 : decide (j < j) = false := by simp
      have d2 : decide (j < j + 1) = true := by simp
      rw [d1] at ih
      rw [d2]
      cases hb : f (a + j)
      · simpa using ih
      · simp only [Bool.toNat_true, Nat.mul_one]
        rw [Nat.testBit_two_pow_add_eq, ih]; rfl
    · have d2 : decide (j < n + 1) = false := decide_eq_false (by omega)
      rw [d2, Bool.false_and]
      refine Nat.testBit_lt_two_pow (Nat.lt_of_lt_of_le (m := 2 ^ (n + 1)) ?_ (Nat.pow_le_pow_right (by omega) (by omega)))
      rw [Nat.pow_succ]
      cases f (a + n) <;> simp <;> omega
/-- the byte of the bits from a on -/
def by8 (f : Nat → Bool) (a : Nat) : Nat := b8 f a 8
theorem by8_lt (f : Nat → Bool) (a : Nat) : by8 f a < 256 := b8_lt f a 8
theorem by8_word (f : Nat → Bool) (t : Nat) : W f (8 * t / 64) / 2 ^ (8 * t % 64) % 256 = by8 f (8 * t) := by
  apply Nat.eq_of_testBit_eq
  intro j
  unfold by8
  rw [show (256 : Nat) = 2 ^ 8 from rfl, Nat.testBit_mod_two_pow, Nat.testBit_div_two_pow, W_bit, b8_bit]
  by_cases hj : j < 8
  · have e : 64 * (8 * t / 64) + (8 * t % 64 + j) = 8 * t + j := by omega
    rw [Nat.add_comm j, e]
    have h2 : 8 * t % 64 + j < 64 := by omega
    simp [hj, h2]
  · simp [hj]
attribute [irreducible] by8
/-- the bytes of a map's size -/
def hdr (n : Nat) : List Int := [((n / 16777216 % 256 : Nat) : Int), ((n / 65536 % 256 : Nat) : Int), ((n / 256 % 256 : Nat) : Int), ((n % 256 : Nat) : Int)]
def body (f : Nat → Bool) (m : Nat) : List Int := (List.range m).map fun t => ((by8 f (8 * t) : Nat) : Int)
theorem body_succ (f : Nat → Bool) (m : Nat) : body f (m + 1) = body f m ++ [((by8 f (8 * m) : Nat) : Int)] := by simp [body, List.range_succ]
def bytesOf (f : Nat → Bool) (n : Nat) : List Int := hdr n ++ body f ((n + 7) / 8)
theorem bytesOf_length (f : Nat → Bool) (n : Nat) : (bytesOf f n).length = 4 + (n + 7) / 8 := by simp [bytesOf, hdr, body]; omega
theorem u8_wrap (x : Nat) : IntKind.u8.wrap (x : Int) = ((x % 256 : Nat) : Int) := by rw [IntKind.wrap_u8']; omega
theorem byte_word (f : Nat → Bool) (t : Nat) : IntKind.u8.wrap ((W f (8 * t / 64) : Int) / 2 ^ (8 * t % 64)) = ((by8 f (8 * t) : Nat) : Int) := by
  rw [← by8_word, show ((W f (8 * t / 64) : Int) / 2 ^ (8 * t % 64)) = ((W f (8 * t / 64) / 2 ^ (8 * t % 64) : Nat) : Int) from by simp, u8_wrap]
end Go.Proofs.YtnhaejbakgjelaaDoor
