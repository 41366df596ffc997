/- The plain law of an address's text, IV: rows of noughts step by step; numbers out of bits and bytes. -/
import Derived.Test.YtgdgklibilddgaaDoorAdR
namespace Go.Proofs.YtgdgklibilddgaaDoor

/-! the longest row of noughts -/
def stepRow (z : List Bool) (a : Nat × Nat) (i : Nat) : Nat × Nat := if a.2 - a.1 < runAt (z.drop i) ∧ 1 < runAt (z.drop i) then (i, i + runAt (z.drop i)) else a
def progAt (z : List Bool) (i : Nat) : Nat × Nat := (List.range i).foldl (stepRow z) (0, 0)
theorem progAt_succ (z : List Bool) (i : Nat) : progAt z (i + 1) = stepRow z (progAt z i) i := by unfold progAt; rw [List.range_succ, List.foldl_append]; rfl
theorem progAt_end (z : List Bool) : progAt z 8 = progRow z := rfl
theorem runAt_le : ∀ z : List Bool, runAt z ≤ z.length
  | [] => by simp [runAt]
  | true :: r => by have := runAt_le r; simp [runAt]; omega
  | false :: r => by simp [runAt]
theorem runAt_is {z : List Bool} : ∀ (d i : Nat), (∀ j, i ≤ j → j < i + d → z[j]? = some true) → z[i + d]? ≠ some true → runAt (z.drop i) = d
  | 0, i, _, h => by
    cases hz : z.drop i with
    | nil => rfl
    | cons b r =>
      have : z[i]? = some b := by
        have := congrArg (·[0]?) hz
        simpa using this
      cases b with
      | false => rfl
      | true => exact absurd this (by simpa using h)
  | d + 1, i, h1, h2 => by
    have h0 := h1 i (Nat.le_refl _) (by omega)
    obtain ⟨hi, e⟩ := List.getElem?_eq_some_iff.1 h0
    rw [List.drop_eq_getElem_cons hi, e, runAt, runAt_is d (i + 1) (fun j a b => h1 j (by omega) (by omega)) (by rw [show i + 1 + d = i + (d + 1) by omega]; exact h2)]
theorem progAt_bd {z : List Bool} (hz : z.length = 8) : ∀ i, i ≤ 8 → (progAt z i).1 ≤ (progAt z i).2 ∧ (progAt z i).2 ≤ 8
  | 0, _ => by simp [progAt]
  | i + 1, h => by
    rw [progAt_succ]; unfold stepRow
    split
    · have := runAt_le (z.drop i); simp [hz] at this; simp; omega
    · exact progAt_bd hz i (by omega)
def stepRef (z : List Bool) (a : Nat × Nat) (i : Nat) : Nat × Nat := if a.2 < runAt (z.drop i) then (i, runAt (z.drop i)) else a
def refAt (z : List Bool) (i : Nat) : Nat × Nat := (List.range i).foldl (stepRef z) (0, 0)
theorem refAt_succ (z : List Bool) (i : Nat) : refAt z (i + 1) = stepRef z (refAt z i) i := by unfold refAt; rw [List.range_succ, List.foldl_append]; rfl
theorem refAt_end (z : List Bool) : refAt z 8 = refRow z := rfl
theorem refAt_bd {z : List Bool} (hz : z.length = 8) : ∀ i, i ≤ 8 → (refAt z i).1 ≤ 8 ∧ (refAt z i).2 ≤ 8
  | 0, _ => by simp [refAt]
  | i + 1, h => by
    rw [refAt_succ]; unfold stepRef
    split
    · have := runAt_le (z.drop i); simp [hz] at this; simp; omega
    · exact refAt_bd hz i (by omega)
theorem zeros_at {G : List Nat} {i x : Nat} (h : G[i]? = some x) : (zeros G)[i]? = some (x == 0) := by simp [zeros, h]
theorem zeros_len (G : List Nat) : (zeros G).length = G.length := by simp [zeros]

/-! bits of bytes -/
theorem bit_up (V j r : Nat) : V / 2 ^ j % 2 ^ (r + 1) = 2 * (V / 2 ^ (j + 1) % 2 ^ r) + V / 2 ^ j % 2 := by
  rw [Nat.pow_succ, Nat.mul_comm (2 ^ r) 2, Nat.mod_mul, Nat.pow_succ, ← Nat.div_div_eq_div_mul]; omega
theorem bytesB_mod {k n i : Nat} (hi : i < k) : (bytesB k n)[i]? = some (n / 2 ^ (8 * (k - 1 - i)) % 256) := by
  unfold bytesB
  simp [hi]
  rw [Nat.pow_mul]
theorem valB_app (a b : List Nat) : valB (a ++ b) = valB a * 256 ^ b.length + valB b := by
  unfold valB
  rw [List.foldl_append, foldl_lin 256 b]
theorem valB_lt' : ∀ (t : List Nat), (∀ k ∈ t, k < 256) → valB t < 256 ^ t.length := by
  have key : ∀ (l : List Nat) (a : Nat), (∀ k ∈ l, k < 256) → l.foldl (fun a b => 256 * a + b) a < (a + 1) * 256 ^ l.length := by
    intro l
    induction l with
    | nil => intro a _; simp
    | cons x l ih =>
      intro a h
      have h1 := h x (by simp)
      have h2 := ih (256 * a + x) (fun k hk => h k (by simp [hk]))
      rw [List.foldl_cons, List.length_cons, Nat.pow_succ, Nat.mul_comm (256 ^ l.length) 256, ← Nat.mul_assoc]
      exact Nat.lt_of_lt_of_le h2 (Nat.mul_le_mul_right _ (by omega))
  intro t h
  have := key t 0 h
  simpa [valB] using this
/-- the byte at a place, out of the number -/
theorem valB_byte {l : List Nat} (h : ∀ k ∈ l, k < 256) {t x : Nat} (ht : l[l.length - 1 - t]? = some x) (hl : t < l.length) : valB l / 256 ^ t % 256 = x := by
  obtain ⟨hi, e⟩ := List.getElem?_eq_some_iff.1 ht
  have e1 : l = l.take (l.length - 1 - t) ++ (x :: l.drop (l.length - 1 - t + 1)) := by
    conv => lhs; rw [← List.take_append_drop (l.length - 1 - t) l]
    rw [List.drop_eq_getElem_cons hi, e]
  have hlen : (l.drop (l.length - 1 - t + 1)).length = t := by simp; omega
  have hx : x < 256 := h x (e ▸ List.getElem_mem hi)
  have hr := valB_lt' (l.drop (l.length - 1 - t + 1)) (fun k hk => h k (List.mem_of_mem_drop hk))
  generalize l.take (l.length - 1 - t) = a at *
  generalize l.drop (l.length - 1 - t + 1) = r at *
  rw [hlen] at hr
  have e2 : valB l = (valB a * 256 + x) * 256 ^ t + valB r := by
    rw [e1, show a ++ x :: r = (a ++ [x]) ++ r by simp, valB_app, valB_app, hlen]
    simp [valB]
  rw [e2, Nat.add_comm, Nat.add_mul_div_right _ _ (Nat.pow_pos (by omega)), Nat.div_eq_of_lt hr, Nat.zero_add]
  omega
theorem valB_bit {l : List Nat} (h : ∀ k ∈ l, k < 256) {t x r : Nat} (ht : l[l.length - 1 - t]? = some x) (hl : t < l.length) (hr : r < 8) : valB l / 2 ^ (8 * t + r) % 2 = x / 2 ^ r % 2 := by
  rw [Nat.pow_add, Nat.pow_mul, ← Nat.div_div_eq_div_mul, show (2 : Nat) ^ 8 = 256 by decide, ← valB_byte h ht hl]
  generalize valB l / 256 ^ t = y
  have : 256 = 2 ^ r * 2 ^ (8 - r) := by rw [← Nat.pow_add, show r + (8 - r) = 8 by omega]
  rw [this, Nat.mod_mul_right_div_self]
  have e : 2 ^ (8 - r) = 2 * 2 ^ (7 - r) := by rw [show 8 - r = (7 - r) + 1 by omega, Nat.pow_succ, Nat.mul_comm]
  rw [e, Nat.mod_mul_right_mod]
theorem bytesB_len' (k n : Nat) : (bytesB k n).length = k := by simp [bytesB]
theorem valB_bytes : ∀ (k n : Nat), n < 256 ^ k → valB (bytesB k n) = n
  | 0, n, h => by simp at h; subst h; rfl
  | k + 1, n, h => by
    have e : bytesB (k + 1) n = bytesB k (n / 256) ++ [n % 256] := by
      unfold bytesB
      rw [List.range_succ, List.map_append]
      congr 1
      · apply List.map_congr_left
        intro i hi
        simp at hi
        rw [show k + 1 - 1 - i = (k - 1 - i) + 1 by omega, Nat.pow_succ, Nat.mul_comm, Nat.div_div_eq_div_mul]
      · simp
    rw [e, valB_app, valB_bytes k (n / 256) (by rw [Nat.pow_succ] at h; omega)]
    simp [valB]
    omega
theorem bytesB_val : ∀ (l : List Nat), (∀ k ∈ l, k < 256) → bytesB l.length (valB l) = l := by
  intro l h
  apply List.ext_getElem?
  intro i
  rcases Nat.lt_or_ge i l.length with hi | hi
  · rw [List.getElem?_eq_getElem hi]
    unfold bytesB
    simp [hi]
    refine valB_byte h (t := l.length - 1 - i) ?_ (by omega)
    rw [show l.length - 1 - (l.length - 1 - i) = i by omega, List.getElem?_eq_getElem hi]
  · rw [List.getElem?_eq_none hi, List.getElem?_eq_none (by rw [bytesB_len']; exact hi)]
/-- the order of the bytes is that of the numbers -/
theorem foldB_cmp : ∀ (a b : List Nat), a.length = b.length → (∀ k ∈ a, k < 256) → (∀ k ∈ b, k < 256) → (a < b ↔ valB a < valB b)
  | [], [], _, _, _ => by simp [valB]
  | x :: a, y :: b, hl, ha, hb => by
    have hl' : a.length = b.length := by simpa using hl
    have ih := foldB_cmp a b hl' (fun k hk => ha k (by simp [hk])) (fun k hk => hb k (by simp [hk]))
    have h1 := valB_app [x] a
    have h2 := valB_app [y] b
    have v1 : valB [x] = x := by simp [valB]
    have v2 : valB [y] = y := by simp [valB]
    have l1 := valB_lt' a (fun k hk => ha k (by simp [hk]))
    have l2 := valB_lt' b (fun k hk => hb k (by simp [hk]))
    rw [v1] at h1; rw [v2, ← hl'] at h2; rw [← hl'] at l2
    rw [List.cons_lt_cons_iff, ih]
    show _ ↔ valB ([x] ++ a) < valB ([y] ++ b)
    rw [h1, h2]
    generalize 256 ^ a.length = P at *
    constructor
    · rintro (h | ⟨rfl, h⟩)
      · have := Nat.mul_le_mul_right P (show x + 1 ≤ y by omega)
        rw [Nat.add_mul] at this; omega
      · omega
    · intro h
      rcases Nat.lt_trichotomy x y with k | k | k
      · exact .inl k
      · subst k; exact .inr ⟨rfl, by omega⟩
      · have := Nat.mul_le_mul_right P (show y + 1 ≤ x by omega)
        rw [Nat.add_mul] at this; omega
end Go.Proofs.YtgdgklibilddgaaDoor
