/- Plain laws of bitmaps: a word of 64 bits out of a row of truths. No program in sight. -/
import Derived.Laws.BitsAllLaws
import Derived.Lib.TrailingZeros
namespace Go.Proofs.YtnhaejbakgjelaaDoor

/-- the n low bits of word k -/
def wd (f : Nat → Bool) (k : Nat) : Nat → Nat
  | 0 => 0
  | n + 1 => 2 ^ n * (f (64 * k + n)).toNat + wd f k n
/-- word k of a row of truths -/
def W (f : Nat → Bool) (k : Nat) : Nat := wd f k 64
theorem wd_lt (f : Nat → Bool) (k : Nat) : ∀ n, wd f k n < 2 ^ n
  | 0 => by simp [wd]
  | n + 1 => by
    have := wd_lt f k n
    rw [wd, Nat.pow_succ]
    cases f (64 * k + n) <;> simp <;> omega
theorem W_lt' (f : Nat → Bool) (k : Nat) : W f k < 2 ^ 64 := wd_lt f k 64
theorem W_lt (f : Nat → Bool) (k : Nat) : W f k < 18446744073709551616 := wd_lt f k 64
theorem wd_bit (f : Nat → Bool) (k : Nat) : ∀ n j, (wd f k n).testBit j = (decide (j < n) && f (64 * k + j))
  | 0, j => by simp [wd]
  | n + 1, j => by
    rw [wd]
    have hl := wd_lt f k n
    have ih := wd_bit f k n j
    rcases Nat.lt_trichotomy j n with h | h | h
    · have d1 : decide (j < n) = true := decide_eq_true h
      have d2 : decide (j < n + 1) = true := decide_eq_true (by omega)
      rw [d1] at ih
      rw [d2]
      cases hb : f (64 * k + n)
      · simpa using ih
      · simp only [Bool.toNat_true, Nat.mul_one]
        rw [Nat.testBit_two_pow_add_gt h]; exact ih
    · subst h
      have d1 : decide (j < j) = false := by simp
      have d2 : decide (j < j + 1) = true := by simp
      rw [d1] at ih
      rw [d2]
      cases hb : f (64 * k + j)
      · simpa using ih
      · simp only [Bool.toNat_true, Nat.mul_one]
        rw [Nat.testBit_two_pow_add_eq, ih]; rfl
    · have d2 : decide (j < n + 1) = false := decide_eq_false (by omega)
      rw [d2, Bool.false_and]
      refine Nat.testBit_lt_two_pow (Nat.lt_of_lt_of_le (m := 2 ^ (n + 1)) ?_ (Nat.pow_le_pow_right (by omega) (by omega)))
      rw [Nat.pow_succ]
      cases f (64 * k + n) <;> simp <;> omega
theorem W_bit (f : Nat → Bool) (k j : Nat) : (W f k).testBit j = (decide (j < 64) && f (64 * k + j)) := wd_bit f k 64 j
attribute [irreducible] W
theorem W_of {x k : Nat} {f : Nat → Bool} (hx : x < 2 ^ 64) (h : ∀ j, j < 64 → x.testBit j = f (64 * k + j)) : x = W f k := by
  apply Nat.eq_of_testBit_eq
  intro j
  rw [W_bit]
  by_cases hj : j < 64
  · rw [h j hj]; simp [hj]
  · rw [Nat.testBit_lt_two_pow (Nat.lt_of_lt_of_le hx (Nat.pow_le_pow_right (by omega) (by omega)))]; simp [hj]
theorem W_congr {f g : Nat → Bool} {k : Nat} (h : ∀ j, j < 64 → f (64 * k + j) = g (64 * k + j)) : W f k = W g k :=
  W_of (W_lt' f k) fun j hj => by rw [W_bit, h j hj]; simp [hj]
theorem W_zero {f : Nat → Bool} {k : Nat} (h : ∀ j, j < 64 → f (64 * k + j) = false) : W f k = 0 :=
  (W_of (x := 0) (by decide) fun j hj => by rw [h j hj]; simp).symm
theorem W_or (f g : Nat → Bool) (k : Nat) : W f k ||| W g k = W (fun i => f i || g i) k :=
  W_of (Nat.or_lt_two_pow (W_lt' f k) (W_lt' g k)) fun j hj => by rw [Nat.testBit_or, W_bit, W_bit]; simp [hj]
theorem W_and (f g : Nat → Bool) (k : Nat) : W f k &&& W g k = W (fun i => f i && g i) k :=
  W_of (Nat.and_lt_two_pow _ (W_lt' g k)) fun j hj => by rw [Nat.testBit_and, W_bit, W_bit]; simp [hj]
theorem W_not (f : Nat → Bool) (k : Nat) : 18446744073709551615 - W f k = W (fun i => !f i) k := by
  have h := W_lt' f k
  refine W_of (by omega) fun j hj => ?_
  rw [show 18446744073709551615 - W f k = 2 ^ 64 - (W f k + 1) from by omega, Nat.testBit_two_pow_sub_succ h, W_bit]
  simp [hj]
theorem W_one {k j : Nat} (hj : j < 64) : 2 ^ j = W (fun i => i == 64 * k + j) k := by
  refine W_of (Nat.pow_lt_pow_right (by omega) hj) fun i _ => ?_
  rw [Nat.testBit_two_pow, Bool.eq_iff_iff]
  simp
  omega
theorem W_from {k j : Nat} (hj : j < 64) : 18446744073709551616 - 2 ^ j = W (fun i => decide (64 * k + j ≤ i)) k := by
  have hp : 2 ^ j < 2 ^ 64 := Nat.pow_lt_pow_right (by omega) hj
  have hp0 := Nat.two_pow_pos j
  refine W_of (by omega) fun i hi => ?_
  rw [show 18446744073709551616 - 2 ^ j = 2 ^ 64 - ((2 ^ j - 1) + 1) from by omega, Nat.testBit_two_pow_sub_succ (by omega), Nat.testBit_two_pow_sub_one, Bool.eq_iff_iff]
  simp
  omega
theorem W_to {k j : Nat} (hj : j < 64) : 2 ^ (j + 1) - 1 = W (fun i => decide (i ≤ 64 * k + j)) k := by
  have hp : 2 ^ (j + 1) ≤ 2 ^ 64 := Nat.pow_le_pow_right (by omega) hj
  have hp0 := Nat.two_pow_pos (j + 1)
  refine W_of (by omega) fun i _ => ?_
  rw [Nat.testBit_two_pow_sub_one, Bool.eq_iff_iff]
  simp
  omega
theorem W_low {k j : Nat} (hj : j < 64) : 2 ^ j - 1 = W (fun i => decide (i < 64 * k + j)) k := by
  have hp : 2 ^ j < 2 ^ 64 := Nat.pow_lt_pow_right (by omega) hj
  have hp0 := Nat.two_pow_pos j
  refine W_of (by omega) fun i _ => ?_
  rw [Nat.testBit_two_pow_sub_one, Bool.eq_iff_iff]
  simp
theorem W_eq_zero {f : Nat → Bool} {k : Nat} (h : W f k = 0) : ∀ j, j < 64 → f (64 * k + j) = false := by
  intro j hj
  have := W_bit f k j
  rw [h] at this
  simpa [hj] using this.symm
theorem W_ne_zero {f : Nat → Bool} {k : Nat} {j : Nat} (hj : j < 64) (h : f (64 * k + j) = true) : W f k ≠ 0 := by
  intro e
  have := W_eq_zero e j hj
  rw [h] at this; cases this

/-! The same as the walk spells it. -/
theorem i_or (f g : Nat → Bool) (k : Nat) : bits .or .u64 (W f k : Int) (W g k : Int) = ((W (fun i => f i || g i) k : Nat) : Int) := by
  rw [u64_or_nat _ _ (W_lt f k) (W_lt g k), W_or]
theorem i_and (f g : Nat → Bool) (k : Nat) : bits .and .u64 (W f k : Int) (W g k : Int) = ((W (fun i => f i && g i) k : Nat) : Int) := by
  rw [u64_and_nat _ _ (W_lt f k) (W_lt g k), W_and]
theorem i_andNot (f g : Nat → Bool) (k : Nat) : bits .andNot .u64 (W f k : Int) (W g k : Int) = ((W (fun i => f i && !g i) k : Nat) : Int) := by
  rw [u64_andNot_nat _ _ (W_lt f k) (W_lt g k), W_not, W_and]
theorem i_has (f : Nat → Bool) (k : Nat) {j : Nat} (hj : j < 64) : (bits .and .u64 (W f k : Int) (W (fun i => i == 64 * k + j) k : Int) != 0) = f (64 * k + j) := by
  rw [i_and]
  cases h : f (64 * k + j)
  · have : W (fun i => f i && i == 64 * k + j) k = 0 := W_zero fun x hx => by
      by_cases e : x = j
      · subst e; rw [h]; rfl
      · simp; intro _; exact e
    rw [this]; rfl
  · have := W_ne_zero (k := k) (f := fun i => f i && i == 64 * k + j) hj (by simp [h])
    simpa using this

/-! the first one of a word -/
theorem ctz_W {f : Nat → Bool} {k : Nat} (h : W f k ≠ 0) :
    Lib.ctz 64 (W f k) < 64 ∧ f (64 * k + Lib.ctz 64 (W f k)) = true ∧ ∀ j, j < Lib.ctz 64 (W f k) → f (64 * k + j) = false := by
  have hl := W_lt' f k
  obtain ⟨m, hm, hk⟩ := Lib.ctzFrom_spec 64 (W f k) (by omega) hl
  have e : Lib.ctz 64 (W f k) = Lib.ctzFrom 64 (W f k) := by simp [Lib.ctz, h]
  rw [e]
  generalize Lib.ctzFrom 64 (W f k) = c at *
  refine ⟨hk, ?_, fun j hj => ?_⟩
  · have := W_bit f k c
    rw [hm, Nat.mul_comm, Nat.testBit_mul_two_pow] at this
    simp [hk] at this
    exact this
  · have := W_bit f k j
    rw [hm, Nat.mul_comm, Nat.testBit_mul_two_pow] at this
    simp [show j < 64 by omega, show ¬ c ≤ j by omega] at this
    exact this

/-! A row of words. -/
def wordsV (f : Nat → Bool) (K : Nat) : List Value := (List.range K).map fun k => Value.int .u64 (W f k)
theorem wordsV_length (f : Nat → Bool) (K : Nat) : (wordsV f K).length = K := by simp [wordsV]
theorem wordsV_get (f : Nat → Bool) {K k : Nat} (h : k < K) : (wordsV f K).toArray[k]? = some (.int .u64 (W f k)) := by simp [wordsV, h]
theorem wordsV_put {f g : Nat → Bool} {K k : Nat} (h : ∀ k', k' ≠ k → k' < K → W f k' = W g k') (hk : k < K) : (wordsV f K).toArray.setIfInBounds k (.int .u64 (W g k)) = (wordsV g K).toArray := by
  apply Array.ext_getElem?
  intro j
  rw [Array.getElem?_setIfInBounds]
  simp only [wordsV, List.getElem?_toArray, List.getElem?_map, List.size_toArray, List.length_map, List.length_range]
  by_cases hjk : k = j
  · subst hjk; simp [hk]
  · rw [if_neg hjk]
    by_cases hj : j < K
    · simp [hj]; rw [h j (by omega) hj]
    · simp [hj]
theorem words_none (K : Nat) : wordsV (fun _ => false) K = List.replicate K (.int .u64 0) := by
  unfold wordsV
  rw [List.eq_replicate_iff]
  refine ⟨by simp, fun b hb => ?_⟩
  simp only [List.mem_map] at hb
  obtain ⟨k, _, rfl⟩ := hb
  rw [W_zero (fun _ _ => rfl)]; rfl
/-- one bit turned -/
def upd (f : Nat → Bool) (i : Nat) (b : Bool) : Nat → Bool := fun x => if x = i then b else f x
theorem upd_same (f : Nat → Bool) (i : Nat) (b : Bool) : upd f i b i = b := by simp [upd]
theorem upd_ne {f : Nat → Bool} {i x : Nat} {b : Bool} (h : x ≠ i) : upd f i b x = f x := by simp [upd, h]
theorem W_put (f : Nat → Bool) (i : Nat) : W (fun x => f x || x == i) (i / 64) = W (upd f i true) (i / 64) :=
  W_congr fun j _ => by unfold upd; by_cases h : 64 * (i / 64) + j = i <;> simp [h]
theorem W_drop (f : Nat → Bool) (i : Nat) : W (fun x => f x && !(x == i)) (i / 64) = W (upd f i false) (i / 64) :=
  W_congr fun j _ => by unfold upd; by_cases h : 64 * (i / 64) + j = i <;> simp [h]
theorem W_upd_other (f : Nat → Bool) (i : Nat) (b : Bool) {k : Nat} (h : k ≠ i / 64) : W f k = W (upd f i b) k :=
  W_congr fun j hj => by rw [upd_ne (by omega)]

/-! how many -/
def cnt (f : Nat → Bool) (a : Nat) : Nat → Nat
  | 0 => 0
  | n + 1 => cnt f a n + (f (a + n)).toNat
theorem cnt_le (f : Nat → Bool) (a : Nat) : ∀ n, cnt f a n ≤ n
  | 0 => by simp [cnt]
  | n + 1 => by have := cnt_le f a n; rw [cnt]; cases f (a + n) <;> simp <;> omega
theorem cnt_join (f : Nat → Bool) (a n : Nat) : ∀ m, cnt f a (n + m) = cnt f a n + cnt f (a + n) m
  | 0 => by simp [cnt]
  | m + 1 => by rw [show n + (m + 1) = (n + m) + 1 from rfl, cnt, cnt_join f a n m, cnt, Nat.add_assoc a n m]; omega
theorem cnt_congr {f g : Nat → Bool} {a : Nat} : ∀ {n}, (∀ x, a ≤ x → x < a + n → f x = g x) → cnt f a n = cnt g a n
  | 0, _ => rfl
  | n + 1, h => by rw [cnt, cnt, cnt_congr (n := n) fun x h1 h2 => h x h1 (by omega), h (a + n) (by omega) (by omega)]
theorem cnt_none {f : Nat → Bool} {a : Nat} : ∀ {n}, (∀ x, a ≤ x → x < a + n → f x = false) → cnt f a n = 0
  | 0, _ => rfl
  | n + 1, h => by rw [cnt, cnt_none (n := n) fun x h1 h2 => h x h1 (by omega), h (a + n) (by omega) (by omega)]; rfl
theorem cnt_all {f : Nat → Bool} {a : Nat} : ∀ {n}, (∀ x, a ≤ x → x < a + n → f x = true) → cnt f a n = n
  | 0, _ => rfl
  | n + 1, h => by rw [cnt, cnt_all (n := n) fun x h1 h2 => h x h1 (by omega), h (a + n) (by omega) (by omega)]; rfl
end Go.Proofs.YtnhaejbakgjelaaDoor
