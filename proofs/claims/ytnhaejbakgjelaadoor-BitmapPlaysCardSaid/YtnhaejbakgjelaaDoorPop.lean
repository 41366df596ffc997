/- Plain laws: how many bits of a word are ones, the parallel way. No program in sight. -/
import Derived.Test.YtnhaejbakgjelaaDoorBmP
namespace Go.Proofs.YtnhaejbakgjelaaDoor

/-- the sum of n digits to the base B -/
def fs (B : Nat) : Nat → Nat → Nat
  | 0, _ => 0
  | n + 1, x => x % B + fs B n (x / B)
def mk4 : Nat → Nat | 0 => 0 | n + 1 => 4 * mk4 n + 1
def mk16 : Nat → Nat | 0 => 0 | n + 1 => 16 * mk16 n + 3
def mk256 : Nat → Nat | 0 => 0 | n + 1 => 256 * mk256 n + 15
theorem mk4_32 : mk4 32 = 6148914691236517205 := by decide
theorem mk16_16 : mk16 16 = 3689348814741910323 := by decide
theorem mk256_8 : mk256 8 = 1085102592571150095 := by decide
theorem and_parts (e x y : Nat) : x &&& y = 2 ^ e * (x / 2 ^ e &&& y / 2 ^ e) + (x % 2 ^ e &&& y % 2 ^ e) := by
  rw [← Nat.and_div_two_pow, ← Nat.and_mod_two_pow, Nat.div_add_mod]
def c4 (n x : Nat) : Nat := (x / 2 &&& mk4 n) + (x &&& mk4 n)
def c16 (n x : Nat) : Nat := (x / 4 &&& mk16 n) + (x &&& mk16 n)
def c256 (n x : Nat) : Nat := (x / 16 + x) &&& mk256 n
theorem c4_succ (n x : Nat) : c4 (n + 1) x = 4 * c4 n (x / 4) + (x % 4 / 2 + x % 2) := by
  unfold c4
  rw [and_parts 2 (x / 2), and_parts 2 x, mk4]
  rw [show (2 : Nat) ^ 2 = 4 from rfl, show (4 * mk4 n + 1) / 4 = mk4 n from by omega, show (4 * mk4 n + 1) % 4 = 1 from by omega, nat_mask1, nat_mask1,
    show x / 2 / 4 = x / 4 / 2 from by omega]
  omega
theorem c16_succ (n x : Nat) : c16 (n + 1) x = 16 * c16 n (x / 16) + (x % 16 / 4 + x % 4) := by
  unfold c16
  rw [and_parts 4 (x / 4), and_parts 4 x, mk16]
  rw [show (2 : Nat) ^ 4 = 16 from rfl, show (16 * mk16 n + 3) / 16 = mk16 n from by omega, show (16 * mk16 n + 3) % 16 = 3 from by omega, nat_mask2, nat_mask2,
    show x / 4 / 16 = x / 16 / 4 from by omega]
  omega
theorem fs4 : ∀ n x, fs 4 n (c4 n x) = fs 2 (2 * n) x
  | 0, _ => rfl
  | n + 1, x => by
    rw [show 2 * (n + 1) = 2 * n + 1 + 1 from by omega, fs, fs, fs, c4_succ, show (4 * c4 n (x / 4) + (x % 4 / 2 + x % 2)) / 4 = c4 n (x / 4) from by omega, fs4 n (x / 4), Nat.div_div_eq_div_mul, show 2 * 2 = 4 from rfl]
    generalize fs 2 (2 * n) (x / 4) = y
    generalize c4 n (x / 4) = z
    have a1 : x % 4 / 2 = x / 2 % 2 := by omega
    rw [a1]
    have b1 := Nat.mod_lt (x / 2) (show 0 < 2 by omega)
    have b2 := Nat.mod_lt x (show 0 < 2 by omega)
    generalize x / 2 % 2 = u at *
    generalize x % 2 = v at *
    omega
theorem fs16 : ∀ n x, fs 16 n (c16 n x) = fs 4 (2 * n) x
  | 0, _ => rfl
  | n + 1, x => by
    rw [show 2 * (n + 1) = 2 * n + 1 + 1 from by omega, fs, fs, fs, c16_succ, show (16 * c16 n (x / 16) + (x % 16 / 4 + x % 4)) / 16 = c16 n (x / 16) from by omega, fs16 n (x / 16), Nat.div_div_eq_div_mul, show 4 * 4 = 16 from rfl]
    generalize fs 4 (2 * n) (x / 16) = y
    generalize c16 n (x / 16) = z
    have a1 : x % 16 / 4 = x / 4 % 4 := by omega
    rw [a1]
    have b1 := Nat.mod_lt (x / 4) (show 0 < 4 by omega)
    have b2 := Nat.mod_lt x (show 0 < 4 by omega)
    generalize x / 4 % 4 = u at *
    generalize x % 4 = v at *
    omega
/-- digits to the base 4 of at most 2, to the base 16 of at most 4 -/
def D4 : Nat → Nat → Prop | 0, x => x = 0 | n + 1, x => x % 4 ≤ 2 ∧ D4 n (x / 4)
def D16 : Nat → Nat → Prop | 0, x => x = 0 | n + 1, x => x % 16 ≤ 4 ∧ D16 n (x / 16)
theorem D4_c4 : ∀ n x, D4 n (c4 n x)
  | 0, x => by simp [D4, c4, mk4]
  | n + 1, x => by
    rw [c4_succ]
    refine ⟨?_, ?_⟩
    · have b1 : x % 4 / 2 ≤ 1 := by omega
      have b2 : x % 2 ≤ 1 := by omega
      generalize x % 4 / 2 = u at *
      generalize x % 2 = v at *
      omega
    rw [show (4 * c4 n (x / 4) + (x % 4 / 2 + x % 2)) / 4 = c4 n (x / 4) from by omega]
    exact D4_c4 n _
theorem D16_c16 : ∀ n x, D4 (2 * n) x → D16 n (c16 n x)
  | 0, x, _ => by simp [D16, c16, mk16]
  | n + 1, x, h => by
    rw [show 2 * (n + 1) = 2 * n + 1 + 1 from by omega] at h
    obtain ⟨h1, h2, h3⟩ := h
    rw [Nat.div_div_eq_div_mul] at h3
    rw [c16_succ]
    refine ⟨?_, ?_⟩
    · have b1 : x % 16 / 4 = x / 4 % 4 := by omega
      rw [b1]
      generalize x / 4 % 4 = u at *
      generalize x % 4 = v at *
      generalize c16 n (x / 16) = z
      omega
    rw [show (16 * c16 n (x / 16) + (x % 16 / 4 + x % 4)) / 16 = c16 n (x / 16) from by omega]
    exact D16_c16 n _ h3
theorem c256_succ (n x : Nat) (h1 : x % 16 ≤ 4) (h2 : x / 16 % 16 ≤ 4) (h3 : x / 256 % 16 ≤ 4) : c256 (n + 1) x = 256 * c256 n (x / 256) + (x % 16 + x / 16 % 16) := by
  unfold c256
  have k1 : x = 256 * (x / 256) + 16 * (x / 16 % 16) + x % 16 := by omega
  have k2 : x / 16 = 16 * (x / 256) + x / 16 % 16 := by omega
  have k3 : x / 256 = 16 * (x / 256 / 16) + x / 256 % 16 := by omega
  generalize x / 16 % 16 = u at *
  generalize x / 16 = x1 at *
  generalize x / 256 % 16 = v at *
  generalize x % 16 = t at *
  generalize x / 256 / 16 = x3 at *
  have k4 : (x1 + x) / 256 = x3 + x / 256 := by omega
  have k5 : (x1 + x) % 256 % 16 = t + u := by omega
  rw [and_parts 8 (x1 + x), mk256]
  rw [show (2 : Nat) ^ 8 = 256 from rfl, show (256 * mk256 n + 15) / 256 = mk256 n from by omega, show (256 * mk256 n + 15) % 256 = 15 from by omega, nat_mask4, k4, k5]
theorem D16_low {n x : Nat} (h : D16 n x) : x % 16 ≤ 4 := by
  cases n with
  | zero => have : x = 0 := h; omega
  | succ n => exact h.1
/-- digits to the base 256 of at most 8 -/
def D256 : Nat → Nat → Prop | 0, x => x = 0 | n + 1, x => x % 256 ≤ 8 ∧ D256 n (x / 256)
theorem all256 : ∀ n x, D16 (2 * n) x → D256 n (c256 n x) ∧ fs 256 n (c256 n x) = fs 16 (2 * n) x
  | 0, x, h => ⟨by simp [D256, c256, mk256], rfl⟩
  | n + 1, x, h => by
    rw [show 2 * (n + 1) = 2 * n + 1 + 1 from by omega] at h ⊢
    obtain ⟨h1, h2, h3⟩ := h
    rw [Nat.div_div_eq_div_mul] at h3
    have h4 := D16_low h3
    obtain ⟨q1, q2⟩ := all256 n _ h3
    rw [c256_succ n x h1 h2 h4]
    have e : (256 * c256 n (x / 256) + (x % 16 + x / 16 % 16)) / 256 = c256 n (x / 256) := by omega
    refine ⟨⟨by omega, by rw [e]; exact q1⟩, ?_⟩
    rw [fs, fs, fs, e, q2, Nat.div_div_eq_div_mul]
    omega
theorem last256 {z : Nat} (h : D256 8 z) : z < 18446744073709551616 ∧ z + z / 256 < 18446744073709551616 ∧ (z + z / 256) + (z + z / 256) / 65536 < 18446744073709551616 ∧
    ((z + z / 256) + (z + z / 256) / 65536) + ((z + z / 256) + (z + z / 256) / 65536) / 4294967296 < 9223372036854775808 ∧
    (((z + z / 256) + (z + z / 256) / 65536) + ((z + z / 256) + (z + z / 256) / 65536) / 4294967296) % 128 = fs 256 8 z := by
  obtain ⟨h0, h1, h2, h3, h4, h5, h6, h7, h8⟩ := h
  change z / 256 / 256 / 256 / 256 / 256 / 256 / 256 / 256 = 0 at h8
  simp only [fs]
  generalize e0 : z % 256 = d0 at *
  generalize f0 : z / 256 = z1 at *
  generalize e1 : z1 % 256 = d1 at *
  generalize f1 : z1 / 256 = z2 at *
  generalize e2 : z2 % 256 = d2 at *
  generalize f2 : z2 / 256 = z3 at *
  generalize e3 : z3 % 256 = d3 at *
  generalize f3 : z3 / 256 = z4 at *
  generalize e4 : z4 % 256 = d4 at *
  generalize f4 : z4 / 256 = z5 at *
  generalize e5 : z5 % 256 = d5 at *
  generalize f5 : z5 / 256 = z6 at *
  generalize e6 : z6 % 256 = d6 at *
  generalize f6 : z6 / 256 = z7 at *
  generalize e7 : z7 % 256 = d7 at *
  have g7 : z7 = d7 := by omega
  have g6 : z6 = d6 + 256 * d7 := by omega
  have g5 : z5 = d5 + 256 * d6 + 65536 * d7 := by omega
  have g4 : z4 = d4 + 256 * d5 + 65536 * d6 + 16777216 * d7 := by omega
  have g3 : z3 = d3 + 256 * d4 + 65536 * d5 + 16777216 * d6 + 4294967296 * d7 := by omega
  have g2 : z2 = d2 + 256 * d3 + 65536 * d4 + 16777216 * d5 + 4294967296 * d6 + 1099511627776 * d7 := by omega
  have g1 : z1 = d1 + 256 * d2 + 65536 * d3 + 16777216 * d4 + 4294967296 * d5 + 1099511627776 * d6 + 281474976710656 * d7 := by omega
  have g0 : z = d0 + 256 * d1 + 65536 * d2 + 16777216 * d3 + 4294967296 * d4 + 1099511627776 * d5 + 281474976710656 * d6 + 72057594037927936 * d7 := by omega
  clear e0 e1 e2 e3 e4 e5 e6 e7 f0 f1 f2 f3 f4 f5 f6 h8
  have k1 : (z + z1) / 65536 = (d2 + d3) + 256 * (d3 + d4) + 65536 * (d4 + d5) + 16777216 * (d5 + d6) + 4294967296 * (d6 + d7) + 1099511627776 * d7 := by omega
  have k2 : (z + z1 + (z + z1) / 65536) / 4294967296 = (d4 + d5 + d6 + d7) + 256 * (d5 + d6 + d7) + 65536 * (d6 + d7) + 16777216 * d7 := by omega
  rw [k2, k1]
  clear k1 k2
  omega
/-- what OnesCount64 reckons -/
theorem pop_all (x : Nat) : D256 8 (c256 8 (c16 16 (c4 32 x))) ∧ fs 256 8 (c256 8 (c16 16 (c4 32 x))) = fs 2 64 x := by
  obtain ⟨a, b⟩ := all256 8 (c16 16 (c4 32 x)) (D16_c16 16 _ (D4_c4 32 x))
  refine ⟨a, b.trans ?_⟩
  rw [fs16 16, fs4 32]
theorem fs2_bits : ∀ n x k (f : Nat → Bool), (∀ j, j < n → x.testBit j = f (k + j)) → fs 2 n x = cnt f k n
  | 0, _, _, _, _ => rfl
  | n + 1, x, k, f, h => by
    have h0 := h 0 (by omega)
    have e : cnt f k (n + 1) = (f k).toNat + cnt f (k + 1) n := by
      rw [Nat.add_comm n 1, cnt_join]; simp [cnt]
    rw [fs, e, fs2_bits n (x / 2) (k + 1) f fun j hj => by rw [Nat.testBit_div_two, h (j + 1) (by omega)]; congr 1; omega]
    rw [Nat.add_zero] at h0
    rw [← h0, Nat.testBit_zero]
    by_cases hp : x % 2 = 1
    · simp [hp]
    · rw [show x % 2 = 0 from by omega]; rfl
theorem pop_W (f : Nat → Bool) (k : Nat) : fs 2 64 (W f k) = cnt f (64 * k) 64 :=
  fs2_bits 64 _ _ f fun j hj => by rw [W_bit]; simp [hj]
theorem c_bounds (x : Nat) (hx : x < 18446744073709551616) : c4 32 x < 18446744073709551616 ∧ c16 16 (c4 32 x) < 18446744073709551616 ∧ c16 16 (c4 32 x) / 16 + c16 16 (c4 32 x) < 18446744073709551616 := by
  have a1 : c4 32 x < 18446744073709551616 := by
    unfold c4
    have h1 := Nat.and_le_left (n := x / 2) (m := mk4 32)
    have h2 : x &&& mk4 32 ≤ mk4 32 := Nat.and_le_right
    rw [mk4_32] at *
    omega
  refine ⟨a1, ?_⟩
  generalize c4 32 x = y at *
  unfold c16
  have h1 : y / 4 &&& mk16 16 ≤ mk16 16 := Nat.and_le_right
  have h2 : y &&& mk16 16 ≤ mk16 16 := Nat.and_le_right
  rw [mk16_16] at *
  omega
end Go.Proofs.YtnhaejbakgjelaaDoor
