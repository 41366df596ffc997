/-
CarveSpreads: the addresses from one to another one are just those of the prefixes that are told, which stand in order, end where the next one begins, and are as few as can be: for every three addresses the call returns true. No condition; the listed variables are tied to the program's text.
-/
import Derived.ProofKit
import Derived.ChangeSame
import Derived.LaidMore
import Derived.Lay
import Derived.MakeChecks
import Derived.LaidByTextLater
import Derived.OpenShut
import Derived.Stop.Joined
import Derived.Stop.LaidErr
import Derived.Handed
import Derived.Shelf.Vars
import Derived.Lib.SmallJoins
import Derived.SevenTiedAt
import Derived.ShutString
import Derived.Test.YtgdgklibilddgaaGreatDoorSprM5
import Derived.Test.YtgdgklibilddgaaGreatDoorRows
import Derived.Test.YtgdgklibilddgaaGreatDoorCards
import Derived.Test.YtgdgklibilddgaaGreatDoorTie
set_option linter.unusedVariables false
set_option linter.unusedSimpArgs false
namespace Go.Proofs.YtgdgklibilddgaaGreatDoor
open Go.RowKit Go.Proofs.YtgdgklibilddgaaGreatDoorW.PrintWords Go.Proofs.YtgdgklibilddgaaGreatDoor.PSp

/-- the lowest d bits, the lowest one first -/
def rowL : Nat → Nat → List Int
  | _, 0 => []
  | x, d + 1 => ((x % 2 : Nat) : Int) :: rowL (x / 2) d
theorem rowL_succ (x d : Nat) : rowL x (d + 1) = ((x % 2 : Nat) : Int) :: rowL (x / 2) d := rfl
theorem bit_nat {b : Int} (h : b = 0 ∨ b = 1) : ∃ c : Nat, b = (c : Int) ∧ c ≤ 1 := by
  rcases h with rfl | rfl
  · exact ⟨0, rfl, by omega⟩
  · exact ⟨1, rfl, by omega⟩
theorem rowL_len : ∀ (d x : Nat), (rowL x d).length = d
  | 0, _ => rfl
  | d + 1, x => by simp [rowL, rowL_len d]
theorem rowL_add : ∀ (a b x : Nat), rowL x (a + b) = rowL x a ++ rowL (x / 2 ^ a) b
  | 0, b, x => by simp [rowL]
  | a + 1, b, x => by
    rw [show a + 1 + b = (a + b) + 1 by omega, rowL, rowL_add a b, rowL, List.cons_append, Nat.div_div_eq_div_mul, Nat.pow_succ, Nat.mul_comm 2]
theorem rowL_mod : ∀ (a h l : Nat), rowL (h * 2 ^ a + l) a = rowL l a
  | 0, _, _ => rfl
  | a + 1, h, l => by
    have e : h * 2 ^ (a + 1) = 2 * (h * 2 ^ a) := by rw [Nat.pow_succ]; rw [← Nat.mul_assoc, Nat.mul_comm 2]
    rw [rowL, rowL, show (h * 2 ^ (a + 1) + l) % 2 = l % 2 by omega, show (h * 2 ^ (a + 1) + l) / 2 = h * 2 ^ a + l / 2 by omega, rowL_mod a h]
theorem rowL_join {a b h l : Nat} (hl : l < 2 ^ a) : rowL (h * 2 ^ a + l) (a + b) = rowL l a ++ rowL h b := by
  rw [rowL_add, rowL_mod]
  congr 2
  rw [Nat.mul_comm, Nat.mul_add_div (Nat.two_pow_pos a), Nat.div_eq_of_lt hl, Nat.add_zero]
theorem rowL_bit : ∀ (d x : Nat), ∀ b ∈ rowL x d, b = 0 ∨ b = 1
  | 0, _, b, h => by cases h
  | d + 1, x, b, h => by
    rw [rowL] at h
    rcases List.mem_cons.1 h with rfl | h
    · omega
    · exact rowL_bit d (x / 2) b h
theorem tmod2 (x : Nat) : wrap64 (Int.tmod (x : Int) 2) = ((x % 2 : Nat) : Int) := by
  rw [Int.tmod_eq_emod_of_nonneg (by omega)]; unfold wrap64; omega
theorem tdiv2 (x : Nat) (h : x < 18446744073709551616) : IntKind.u64.wrap (Int.tdiv (x : Int) 2) = ((x / 2 : Nat) : Int) := by
  rw [Int.tdiv_eq_ediv_of_nonneg (by omega)]
  show ((x : Int) / 2) % 18446744073709551616 = _
  omega
theorem w64 {i : Int} (h0 : -9223372036854775808 ≤ i) (h : i < 9223372036854775808) : wrap64 i = i := by unfold wrap64; omega
theorem pbits_l1 (d : Nat) : ∀ (k : Nat) (acc : List Int) (x : Nat), d ≤ 64 → x < 18446744073709551616 → acc.length + d ≤ 1000 → platbookref01_Bits.l1 (k + d + 1) acc x (64 - (d : Int)) = some (acc ++ rowL x d) := by
  induction d with
  | zero => intro k acc x _ _ _; rw [platbookref01_Bits.l1, if_neg (by omega)]; simp [rowL]
  | succ d ih =>
    intro k acc x hd hx ha
    rw [show k + (d + 1) + 1 = (k + d + 1) + 1 by omega, platbookref01_Bits.l1, if_pos (by omega), if_pos (by omega), tmod2, tdiv2 x hx, w64 (by omega) (by omega), show (64 : Int) - ((d + 1 : Nat) : Int) + 1 = 64 - (d : Int) by omega, ih k _ (x / 2) (by omega) (by omega) (by simp; omega), rowL_succ x d]
    simp
theorem pbits_l0 (d : Nat) : ∀ (k : Nat) (acc : List Int) (x h : Nat), d ≤ 64 → x < 18446744073709551616 → h < 18446744073709551616 → acc.length + d + 64 ≤ 1000 → platbookref01_Bits.l0 (k + d + 66) acc x h (64 - (d : Int)) = some (acc ++ rowL x d ++ rowL h 64) := by
  induction d with
  | zero =>
    intro k acc x h _ _ hh ha
    rw [show k + 0 + 66 = (k + 64 + 1) + 1 by omega, platbookref01_Bits.l0, if_neg (by omega)]
    have := pbits_l1 64 k acc h (by omega) hh (by omega)
    rw [show (64 : Int) - ((64 : Nat) : Int) = 0 by omega] at this
    rw [this]; simp [rowL]
  | succ d ih =>
    intro k acc x h hd hx hh ha
    rw [show k + (d + 1) + 66 = (k + d + 66) + 1 by omega, platbookref01_Bits.l0, if_pos (by omega), if_pos (by omega), tmod2, tdiv2 x hx, w64 (by omega) (by omega), show (64 : Int) - ((d + 1 : Nat) : Int) + 1 = 64 - (d : Int) by omega, ih k _ (x / 2) h (by omega) (by omega) hh (by simp; omega), rowL_succ x d]
    simp
theorem pbits_f (k n : Nat) (hn : n < 340282366920938463463374607431768211456) : platbookref01_Bits.f (k + 130) (hi n) (lo n) = some (rowL n 128) := by
  unfold platbookref01_Bits.f hi lo
  have := pbits_l0 64 k [] (n % 18446744073709551616) (n / 18446744073709551616 % 18446744073709551616) (by omega) (by omega) (by omega) (by simp)
  rw [show (64 : Int) - ((64 : Nat) : Int) = 0 by omega] at this
  rw [show k + 130 = k + 64 + 66 by omega, this]
  have e := rowL_join (a := 64) (b := 64) (h := n / 18446744073709551616 % 18446744073709551616) (l := n % 18446744073709551616) (Nat.mod_lt _ (by decide))
  rw [show (2 : Nat) ^ 64 = 18446744073709551616 by decide, show n / 18446744073709551616 % 18446744073709551616 * 18446744073709551616 + n % 18446744073709551616 = n by omega] at e
  rw [List.nil_append, ← e]
/-- an address's bits, the highest one first -/
def rowT (n w : Nat) : List Int := (rowL n w).reverse
theorem prow_l0 (j : Nat) : ∀ (k : Nat) (xs acc : List Int), j ≤ xs.length → xs.length ≤ 1000 → acc.length + j ≤ 1000 → platbookref03_Row.l0 (k + j + 1) xs acc ((j : Int) - 1) = some (acc ++ (xs.take j).reverse) := by
  induction j with
  | zero => intro k xs acc _ _ _; rw [platbookref03_Row.l0, if_neg (by omega)]; simp
  | succ j ih =>
    intro k xs acc hj hx ha
    have e : rd xs (((j + 1 : Nat) : Int) - 1) = xs[j] := by
      unfold rd; rw [show ((((j + 1 : Nat) : Int) - 1)).toNat = j by omega]; simp [List.getD, List.getElem?_eq_getElem (show j < xs.length by omega)]
    rw [show k + (j + 1) + 1 = (k + j + 1) + 1 by omega, platbookref03_Row.l0, if_pos (by omega), if_pos (by omega), if_pos (by omega), if_pos (by omega), w64 (by omega) (by omega), e, show ((j + 1 : Nat) : Int) - 1 - 1 = (j : Int) - 1 by omega, ih k xs _ (by omega) hx (by simp; omega), List.take_succ_eq_append_getElem (show j < xs.length by omega), List.reverse_append]
    simp
theorem width_hl (v : Bool) (n : Nat) : platbookref02_Width.f v (hi n) (lo n) = some ((widthN v : Nat) : Int) := by
  unfold platbookref02_Width.f; rw [if_pos (by simpa using okW_hl n)]
theorem widthN_le (v : Bool) : widthN v ≤ 128 := by cases v <;> decide
theorem widthN_pos (v : Bool) : 32 ≤ widthN v := by cases v <;> decide
theorem prow_f (k : Nat) (v : Bool) (n : Nat) (hn : n < 340282366920938463463374607431768211456) : platbookref03_Row.f (k + 300) v (hi n) (lo n) = some (rowT n (widthN v)) := by
  unfold platbookref03_Row.f
  rw [show k + 300 = (k + 170) + 130 by omega, pbits_f _ n hn, width_hl]
  simp only [Option.bind_some]
  have hw := widthN_le v
  have hp := widthN_pos v
  rw [w64 (by omega) (by omega), show k + 170 + 130 = (k + 299 - widthN v) + widthN v + 1 by omega, prow_l0 _ _ _ _ (by rw [rowL_len]; exact hw) (by rw [rowL_len]; omega) (by simp; omega)]
  have e : rowL n 128 = rowL n (widthN v) ++ rowL (n / 2 ^ widthN v) (128 - widthN v) := by rw [← rowL_add]; congr 1; omega
  rw [e, List.take_left' (rowL_len _ _)]; rfl
/-- the number of a row of bits, the lowest one first -/
def valL : List Int → Nat
  | [] => 0
  | b :: r => b.toNat + 2 * valL r
theorem valL_append : ∀ (a b : List Int), valL (a ++ b) = valL a + 2 ^ a.length * valL b
  | [], b => by simp [valL]
  | x :: a, b => by rw [List.cons_append, valL, valL, valL_append a b, List.length_cons, Nat.pow_succ, Nat.mul_add]; rw [Nat.mul_comm (2 ^ a.length) 2, Nat.mul_assoc]; omega
theorem valL_lt : ∀ (a : List Int), (∀ b ∈ a, b = 0 ∨ b = 1) → valL a < 2 ^ a.length
  | [], _ => by simp [valL]
  | x :: a, h => by
    have h1 := valL_lt a (fun b hb => h b (by simp [hb]))
    have h2 := h x (by simp)
    rw [valL, List.length_cons, Nat.pow_succ]
    rcases h2 with rfl | rfl
    · simp; omega
    · simp; omega
theorem valL_row : ∀ (d x : Nat), valL (rowL x d) = x % 2 ^ d
  | 0, x => by simp [rowL, valL, Nat.mod_one]
  | d + 1, x => by
    rw [rowL, valL, valL_row d, Nat.pow_succ, Nat.mul_comm (2 ^ d) 2, Nat.mod_mul]
    omega
theorem valL_rep (d : Nat) : valL (List.replicate d 0) = 0 := by
  induction d with
  | zero => rfl
  | succ d ih => rw [List.replicate_succ, valL, ih]; rfl
theorem valL_ones (d : Nat) : valL (List.replicate d 1) = 2 ^ d - 1 := by
  induction d with
  | zero => rfl
  | succ d ih => rw [List.replicate_succ, valL, ih, Nat.pow_succ]; have := Nat.two_pow_pos d; simp; omega
theorem u64w {x : Nat} (h : x < 18446744073709551616) : IntKind.u64.wrap (x : Int) = (x : Int) := by show (x : Int) % 18446744073709551616 = _; omega
theorem pnum_l1 (j : Nat) : ∀ (k : Nat) (L : List Int) (H x : Nat), (∀ b ∈ L, b = 0 ∨ b = 1) → L.length ≤ 1000 → j ≤ 1000 → x * 2 ^ j + valL (L.take j) < 18446744073709551616 → platbookref01_Num.l1 (k + j + 1) L ((j : Int) - 1) H x = some ((H : Int), ((x * 2 ^ j + valL (L.take j) : Nat) : Int)) := by
  induction j with
  | zero => intro k L H x _ _ _ _; rw [platbookref01_Num.l1, if_neg (by omega)]; simp [valL]
  | succ j ih =>
    intro k L H x hb hl hj hx
    have hp : 2 ^ (j + 1) = 2 * 2 ^ j := by rw [Nat.pow_succ]; omega
    have hp0 := Nat.two_pow_pos j
    rw [show k + (j + 1) + 1 = (k + j + 1) + 1 by omega, platbookref01_Num.l1, if_pos (by omega)]
    by_cases h : j < L.length
    · have e : L.take (j + 1) = L.take j ++ [L[j]] := List.take_succ_eq_append_getElem h
      have hbj : L[j] = 0 ∨ L[j] = 1 := hb _ (List.getElem_mem h)
      obtain ⟨c, hc, hc2⟩ : ∃ c : Nat, L[j] = (c : Int) ∧ c ≤ 1 := by exact bit_nat hbj
      have er : rd L (((j + 1 : Nat) : Int) - 1) = (c : Int) := by
        unfold rd; rw [show ((((j + 1 : Nat) : Int) - 1)).toNat = j by omega]; simp [List.getD, List.getElem?_eq_getElem h, hc]
      have ev : valL (L.take (j + 1)) = valL (L.take j) + 2 ^ j * c := by
        rw [e, valL_append, List.length_take, Nat.min_eq_left (by omega), hc]; simp [valL]
      have e2 : x * 2 ^ (j + 1) + valL (L.take (j + 1)) = (2 * x + c) * 2 ^ j + valL (L.take j) := by
        rw [ev, hp, Nat.add_mul, Nat.mul_comm (2 ^ j) c, ← Nat.mul_assoc, Nat.mul_comm x 2]; omega
      rw [e2] at hx ⊢
      have hx2 : (2 * x + c) * 1 ≤ (2 * x + c) * 2 ^ j := Nat.mul_le_mul_left _ hp0
      rw [if_pos (by omega), if_pos (by omega), er, w64 (by omega) (by omega), show ((x : Int) * 2) = ((2 * x : Nat) : Int) by omega, u64w (x := 2 * x) (by omega), u64w (x := c) (by omega), show ((2 * x : Nat) : Int) + (c : Int) = ((2 * x + c : Nat) : Int) by omega, u64w (by omega), show ((j + 1 : Nat) : Int) - 1 - 1 = (j : Int) - 1 by omega]
      exact ih k L H (2 * x + c) hb hl (by omega) hx
    · have e : L.take (j + 1) = L.take j := by rw [List.take_of_length_le (by omega), List.take_of_length_le (by omega)]
      have e2 : x * 2 ^ (j + 1) + valL (L.take (j + 1)) = (2 * x) * 2 ^ j + valL (L.take j) := by
        rw [e, hp, ← Nat.mul_assoc, Nat.mul_comm x 2]
      rw [e2] at hx ⊢
      have hx2 : (2 * x) * 1 ≤ (2 * x) * 2 ^ j := Nat.mul_le_mul_left _ hp0
      rw [if_neg (by omega), w64 (by omega) (by omega), show ((x : Int) * 2) = ((2 * x : Nat) : Int) by omega, u64w (by omega), show ((j + 1 : Nat) : Int) - 1 - 1 = (j : Int) - 1 by omega]
      exact ih k L H (2 * x) hb hl (by omega) hx
theorem pnum_l0 (j : Nat) : ∀ (k : Nat) (L : List Int) (x : Nat), (∀ b ∈ L, b = 0 ∨ b = 1) → L.length ≤ 1000 → j ≤ 64 → x * 2 ^ j + valL ((L.drop 64).take j) < 18446744073709551616 → platbookref01_Num.l0 (k + j + 66) L (64 + (j : Int) - 1) x 0 = some (((x * 2 ^ j + valL ((L.drop 64).take j) : Nat) : Int), ((valL (L.take 64) : Nat) : Int)) := by
  induction j with
  | zero =>
    intro k L x hb hl _ _
    rw [show k + 0 + 66 = (k + 64 + 1) + 1 by omega, platbookref01_Num.l0, if_neg (by omega)]
    have hv : valL (L.take 64) < 2 ^ 64 := Nat.lt_of_lt_of_le (valL_lt _ (fun b h => hb b (List.mem_of_mem_take h))) (Nat.pow_le_pow_right (by omega) (by rw [List.length_take]; omega))
    have := pnum_l1 64 k L x 0 hb hl (by omega) (by rw [Nat.zero_mul, Nat.zero_add]; exact hv)
    rw [show ((64 : Nat) : Int) - 1 = 63 by omega, show k + 64 + 1 = k + 65 from rfl, show ((0 : Nat) : Int) = 0 from rfl] at this
    rw [this]; simp [valL]
  | succ j ih =>
    intro k L x hb hl hj hx
    have hp : 2 ^ (j + 1) = 2 * 2 ^ j := by rw [Nat.pow_succ]; omega
    have hp0 := Nat.two_pow_pos j
    rw [show k + (j + 1) + 66 = (k + j + 66) + 1 by omega, platbookref01_Num.l0, if_pos (by omega)]
    by_cases h : 64 + j < L.length
    · have hd : j < (L.drop 64).length := by rw [List.length_drop]; omega
      have e : (L.drop 64).take (j + 1) = (L.drop 64).take j ++ [L[64 + j]] := by rw [List.take_succ_eq_append_getElem hd, List.getElem_drop]
      have hbj : L[64 + j] = 0 ∨ L[64 + j] = 1 := hb _ (List.getElem_mem h)
      obtain ⟨c, hc, hc2⟩ : ∃ c : Nat, L[64 + j] = (c : Int) ∧ c ≤ 1 := by exact bit_nat hbj
      have er : rd L (64 + ((j + 1 : Nat) : Int) - 1) = (c : Int) := by
        unfold rd; rw [show (64 + ((j + 1 : Nat) : Int) - 1).toNat = 64 + j by omega]; simp [List.getD, List.getElem?_eq_getElem h, hc]
      have ev : valL ((L.drop 64).take (j + 1)) = valL ((L.drop 64).take j) + 2 ^ j * c := by
        rw [e, valL_append, List.length_take, Nat.min_eq_left (by omega), hc]; simp [valL]
      have e2 : x * 2 ^ (j + 1) + valL ((L.drop 64).take (j + 1)) = (2 * x + c) * 2 ^ j + valL ((L.drop 64).take j) := by
        rw [ev, hp, Nat.add_mul, Nat.mul_comm (2 ^ j) c, ← Nat.mul_assoc, Nat.mul_comm x 2]; omega
      rw [e2] at hx ⊢
      have hx2 : (2 * x + c) * 1 ≤ (2 * x + c) * 2 ^ j := Nat.mul_le_mul_left _ hp0
      rw [if_pos (by omega), if_pos (by omega), er, w64 (by omega) (by omega), show ((x : Int) * 2) = ((2 * x : Nat) : Int) by omega, u64w (x := 2 * x) (by omega), u64w (x := c) (by omega), show ((2 * x : Nat) : Int) + (c : Int) = ((2 * x + c : Nat) : Int) by omega, u64w (by omega), show 64 + ((j + 1 : Nat) : Int) - 1 - 1 = 64 + (j : Int) - 1 by omega]
      exact ih k L (2 * x + c) hb hl (by omega) hx
    · have hd : (L.drop 64).length ≤ j := by rw [List.length_drop]; omega
      have e : (L.drop 64).take (j + 1) = (L.drop 64).take j := by rw [List.take_of_length_le (by omega), List.take_of_length_le (by omega)]
      have e2 : x * 2 ^ (j + 1) + valL ((L.drop 64).take (j + 1)) = (2 * x) * 2 ^ j + valL ((L.drop 64).take j) := by
        rw [e, hp, ← Nat.mul_assoc, Nat.mul_comm x 2]
      rw [e2] at hx ⊢
      have hx2 : (2 * x) * 1 ≤ (2 * x) * 2 ^ j := Nat.mul_le_mul_left _ hp0
      rw [if_neg (by omega), w64 (by omega) (by omega), show ((x : Int) * 2) = ((2 * x : Nat) : Int) by omega, u64w (by omega), show 64 + ((j + 1 : Nat) : Int) - 1 - 1 = 64 + (j : Int) - 1 by omega]
      exact ih k L (2 * x) hb hl (by omega) hx
theorem pnum_f (k : Nat) (L : List Int) (hb : ∀ b ∈ L, b = 0 ∨ b = 1) (hl : L.length ≤ 128) : platbookref01_Num.f (k + 130) L = some (hi (valL L), lo (valL L)) := by
  unfold platbookref01_Num.f
  have hbd : ∀ b ∈ L.drop 64, b = 0 ∨ b = 1 := fun b h => hb b (List.mem_of_mem_drop h)
  have hv : valL (L.drop 64) < 2 ^ 64 := Nat.lt_of_lt_of_le (valL_lt _ hbd) (Nat.pow_le_pow_right (by omega) (by rw [List.length_drop]; omega))
  have ht : (L.drop 64).take 64 = L.drop 64 := List.take_of_length_le (by rw [List.length_drop]; omega)
  have := pnum_l0 64 k L 0 hb (by omega) (by omega) (by rw [Nat.zero_mul, Nat.zero_add, ht]; exact hv)
  rw [show (64 : Int) + ((64 : Nat) : Int) - 1 = 127 by omega, Nat.zero_mul, Nat.zero_add, ht] at this
  rw [show k + 130 = k + 64 + 66 by omega]
  rw [show ((0 : Nat) : Int) = 0 from rfl] at this
  rw [this]
  have hlo : valL (L.take 64) < 2 ^ 64 := Nat.lt_of_lt_of_le (valL_lt _ (fun b h => hb b (List.mem_of_mem_take h))) (Nat.pow_le_pow_right (by omega) (by rw [List.length_take]; omega))
  have e : valL L = valL (L.take 64) + 2 ^ (L.take 64).length * valL (L.drop 64) := by rw [← valL_append, List.take_append_drop]
  have e2 : valL L = valL (L.take 64) + 18446744073709551616 * valL (L.drop 64) := by
    by_cases h : 64 ≤ L.length
    · rw [e, List.length_take, Nat.min_eq_left h]
    · have : L.drop 64 = [] := List.drop_eq_nil_of_le (by omega)
      rw [e, this]; simp [valL]
  rw [show (2 : Nat) ^ 64 = 18446744073709551616 by decide] at hv hlo
  unfold hi lo
  rw [show valL L / 18446744073709551616 % 18446744073709551616 = valL (L.drop 64) by omega, show valL L % 18446744073709551616 = valL (L.take 64) by omega]
theorem paddr_l0 (j : Nat) : ∀ (k : Nat) (v : Bool) (xs acc : List Int), j ≤ xs.length → xs.length ≤ 128 → acc.length + j ≤ 128 → (∀ b ∈ xs, b = 0 ∨ b = 1) → (∀ b ∈ acc, b = 0 ∨ b = 1) → platbookref03_Addr.l0 (k + j + 131) v xs acc ((j : Int) - 1) = some (v, hi (valL (acc ++ (xs.take j).reverse)), lo (valL (acc ++ (xs.take j).reverse))) := by
  induction j with
  | zero =>
    intro k v xs acc _ _ ha hb1 hb2
    rw [show k + 0 + 131 = (k + 130) + 1 by omega, platbookref03_Addr.l0, if_neg (by omega), pnum_f k acc hb2 (by omega)]
    simp
  | succ j ih =>
    intro k v xs acc hj hx ha hb1 hb2
    have e : rd xs (((j + 1 : Nat) : Int) - 1) = xs[j] := by
      unfold rd; rw [show ((((j + 1 : Nat) : Int) - 1)).toNat = j by omega]; simp [List.getD, List.getElem?_eq_getElem (show j < xs.length by omega)]
    rw [show k + (j + 1) + 131 = (k + j + 131) + 1 by omega, platbookref03_Addr.l0, if_pos (by omega), if_pos (by omega), if_pos (by omega), if_pos (by omega), w64 (by omega) (by omega), e, show ((j + 1 : Nat) : Int) - 1 - 1 = (j : Int) - 1 by omega, ih k v xs _ (by omega) hx (by simp; omega) hb1 (by
      intro b h
      rcases List.mem_append.1 h with h | h
      · exact hb2 b h
      · rw [List.mem_singleton] at h; subst h; exact hb1 _ (List.getElem_mem _)), List.take_succ_eq_append_getElem (show j < xs.length by omega), List.reverse_append]
    simp
theorem paddr_f (k : Nat) (v : Bool) (xs : List Int) (hx : xs.length ≤ 128) (hb : ∀ b ∈ xs, b = 0 ∨ b = 1) : platbookref03_Addr.f (k + 300) v xs = some (v, hi (valL xs.reverse), lo (valL xs.reverse)) := by
  unfold platbookref03_Addr.f
  rw [w64 (by omega) (by omega), show k + 300 = (k + 169 - xs.length) + xs.length + 131 by omega, paddr_l0 _ _ _ _ _ (Nat.le_refl _) hx (by simpa using hx) hb (by simp)]
  simp
theorem pfilled_l0 (d : Nat) : ∀ (k i : Nat) (bit : Int) (xs : List Int) (v : Bool) (h l : Int), i + d = xs.length → xs.length ≤ 128 → (∀ b ∈ xs, b = 0 ∨ b = 1) → (bit = 0 ∨ bit = 1) → platbookref03_Filled.l0 (k + d + 301) bit xs i v h l = some (v, hi (valL (xs.take i ++ List.replicate d bit).reverse), lo (valL (xs.take i ++ List.replicate d bit).reverse)) := by
  induction d with
  | zero =>
    intro k i bit xs v h l hi hx hb _
    rw [show k + 0 + 301 = (k + 300) + 1 by omega, platbookref03_Filled.l0, if_neg (by omega), paddr_f k v xs hx hb, List.take_of_length_le (by omega)]
    simp
  | succ d ih =>
    intro k i bit xs v h l hi hx hb hbit
    rw [show k + (d + 1) + 301 = (k + d + 301) + 1 by omega, platbookref03_Filled.l0, if_pos (by omega), if_pos (by omega), w64 (by omega) (by omega), show ((i : Int)).toNat = i by omega, show (i : Int) + 1 = ((i + 1 : Nat) : Int) by omega, ih k (i + 1) bit (xs.set i bit) v h l (by rw [List.length_set]; omega) (by rw [List.length_set]; omega) (by
      intro b h
      rcases List.mem_or_eq_of_mem_set h with h | rfl
      · exact hb b h
      · exact hbit) hbit]
    have e : (xs.set i bit).take (i + 1) = xs.take i ++ [bit] := by
      rw [List.take_succ_eq_append_getElem (by rw [List.length_set]; omega), List.getElem_set_self, List.take_set_of_le (Nat.le_refl _)]
    rw [e, List.append_assoc, List.replicate_succ]; rfl
theorem rowT_len (n w : Nat) : (rowT n w).length = w := by unfold rowT; rw [List.length_reverse, rowL_len]
theorem pfilled_f (k : Nat) (v : Bool) (n : Nat) (i : Nat) (bit : Int) (hn : n < 340282366920938463463374607431768211456) (hi' : i ≤ widthN v) (hbit : bit = 0 ∨ bit = 1) : platbookref03_Filled.f (k + 500) v (hi n) (lo n) i bit = some (v, hi (n / 2 ^ (widthN v - i) % 2 ^ i * 2 ^ (widthN v - i) + bit.toNat * (2 ^ (widthN v - i) - 1)), lo (n / 2 ^ (widthN v - i) % 2 ^ i * 2 ^ (widthN v - i) + bit.toNat * (2 ^ (widthN v - i) - 1))) := by
  unfold platbookref03_Filled.f
  have hw := widthN_le v
  rw [show k + 500 = (k + 200) + 300 by omega, prow_f _ v n hn]
  simp only [Option.bind_some]
  rw [show k + 200 + 300 = (k + 199 - (widthN v - i)) + (widthN v - i) + 301 by omega, pfilled_l0 (widthN v - i) _ i bit _ v _ _ (by rw [rowT_len]; omega) (by rw [rowT_len]; omega) (by intro b h; unfold rowT at h; rw [List.mem_reverse] at h; exact rowL_bit _ _ b h) hbit]
  have e : valL ((rowT n (widthN v)).take i ++ List.replicate (widthN v - i) bit).reverse = n / 2 ^ (widthN v - i) % 2 ^ i * 2 ^ (widthN v - i) + bit.toNat * (2 ^ (widthN v - i) - 1) := by
    rw [List.reverse_append, List.reverse_replicate, valL_append, List.length_replicate]
    have e1 : ((rowT n (widthN v)).take i).reverse = rowL (n / 2 ^ (widthN v - i)) i := by
      unfold rowT
      rw [show widthN v = (widthN v - i) + i by omega, rowL_add, List.reverse_append, List.take_left' (by rw [List.length_reverse, rowL_len]), List.reverse_reverse]
      rw [show widthN v - i + i - i = widthN v - i by omega]
    have e2 : valL (List.replicate (widthN v - i) bit) = bit.toNat * (2 ^ (widthN v - i) - 1) := by
      rcases hbit with rfl | rfl
      · rw [valL_rep]; simp
      · rw [valL_ones]; simp
    rw [e1, valL_row, e2, Nat.mul_comm (2 ^ (widthN v - i))]
    omega
  rw [e]
end Go.Proofs.YtgdgklibilddgaaGreatDoor

namespace Go.Proofs.YtgdgklibilddgaaGreatDoor
open Go.RowKit Go.Proofs.YtgdgklibilddgaaGreatDoorW.PrintWords Go.Proofs.YtgdgklibilddgaaGreatDoor.PSp

/-- as a rewriting step, not by computation -/
theorem bsome {α β : Type} (x : α) (f : α → Option β) : (some x).bind f = f x := by
  have h : ∀ y : Option α, y = some x → y.bind f = f x := by intro y hy; subst hy; rfl
  exact h _ rfl
theorem aright_hl (v : Bool) {n : Nat} (hn : n < 340282366920938463463374607431768211456) : addr_Right.f v (hi n) (lo n) = some (rightB v n) := by
  unfold addr_Right.f; rw [if_pos (okW_hl n), num_hi_lo hn]
theorem rright02_hl (v : Bool) {n : Nat} (hn : n < 340282366920938463463374607431768211456) : platbookref02_Right.f v (hi n) (lo n) = some (rightB v n) := by
  unfold platbookref02_Right.f; rw [if_pos (okW_hl n), num_hi_lo hn]
theorem awidth_hl (v : Bool) (n : Nat) : addr_Width.f v (hi n) (lo n) = some ((widthN v : Nat) : Int) := by
  unfold addr_Width.f; rw [if_pos (okW_hl n)]
theorem pright_hl (v : Bool) {n : Nat} (b : Int) (hn : n < 340282366920938463463374607431768211456) : prefix_Right.f v (hi n) (lo n) b = some (rightP v n b) := by
  unfold prefix_Right.f; rw [if_pos (okW_hl n), num_hi_lo hn]
theorem free_hl (v : Bool) (n : Nat) {b : Int} (h0 : 0 ≤ b) (h1 : b ≤ (widthN v : Int)) : prefix_free.f v (hi n) (lo n) b = some (hi (2 ^ fr v b - 1), lo (2 ^ fr v b - 1)) := by
  unfold prefix_free.f; rw [okW_hl, decide_eq_true h0, decide_eq_true h1]; rfl
theorem not_hl {n : Nat} (hn : n < 340282366920938463463374607431768211456) : num_Not.f (hi n) (lo n) = some (hi (notN n), lo (notN n)) := by
  unfold num_Not.f; rw [if_pos (okW_hl n), num_hi_lo hn]
theorem and_hl {n m : Nat} (hn : n < 340282366920938463463374607431768211456) (hm : m < 340282366920938463463374607431768211456) : num_And.f (hi n) (lo n) (hi m) (lo m) = some (hi (n &&& m), lo (n &&& m)) := by
  unfold num_And.f; rw [okW_hl, okW_hl, num_hi_lo hn, num_hi_lo hm]; rfl
theorem or_hl {n m : Nat} (hn : n < 340282366920938463463374607431768211456) (hm : m < 340282366920938463463374607431768211456) : num_Or.f (hi n) (lo n) (hi m) (lo m) = some (hi (n ||| m), lo (n ||| m)) := by
  unfold num_Or.f; rw [okW_hl, okW_hl, num_hi_lo hn, num_hi_lo hm]; rfl
theorem hl_eq {a b : Nat} (ha : a < 340282366920938463463374607431768211456) (hb : b < 340282366920938463463374607431768211456) : (hi a == hi b && lo a == lo b) = (a == b) := by
  rw [Bool.eq_iff_iff]; simp only [Bool.and_eq_true, beq_iff_eq]; exact hi_lo_eq ha hb
theorem rightP_iff {v : Bool} {n : Nat} {b : Int} : rightP v n b = true ↔ n < 2 ^ widthN v ∧ 0 ≤ b ∧ b ≤ (widthN v : Int) ∧ n % 2 ^ fr v b = 0 := by
  unfold rightP rightB; simp
theorem rightB_iff {v : Bool} {n : Nat} : rightB v n = true ↔ n < 2 ^ widthN v := by unfold rightB; simp
theorem pow_w (v : Bool) : 2 ^ widthN v ≤ 340282366920938463463374607431768211456 := by cases v <;> decide
theorem top_lt {f n : Nat} (hn : n < 340282366920938463463374607431768211456) : topN f n < 340282366920938463463374607431768211456 := Nat.lt_of_le_of_lt (topN_le f n) hn
/-- without the bits behind: the reference's way -/
theorem top_ref {v : Bool} {n i : Nat} (hn : n < 2 ^ widthN v) (hi : i ≤ widthN v) : n / 2 ^ (widthN v - i) % 2 ^ i * 2 ^ (widthN v - i) = topN (widthN v - i) n := by
  unfold topN
  rw [Nat.mod_eq_of_lt]
  rw [Nat.div_lt_iff_lt_mul (Nat.two_pow_pos _), ← Nat.pow_add, show i + (widthN v - i) = widthN v by omega]; exact hn
def ofS (v : Bool) (n : Nat) (b : Int) : Bool × Nat × Int × Int := if rightB v n = true ∧ 0 ≤ b ∧ b ≤ (widthN v : Int) then (v, topN (fr v b) n, b, 0) else (false, 0, 0, 1)
def tup5 (x : Bool × Nat × Int × Int) : Bool × Int × Int × Int × Int := (x.1, hi x.2.1, lo x.2.1, x.2.2.1, x.2.2.2)
theorem hi00 : hi 0 = 0 := rfl
theorem lo00 : lo 0 = 0 := rfl
theorem fr_lt (v : Bool) (b : Int) : 2 ^ fr v b - 1 < 340282366920938463463374607431768211456 := pow_fr v b
theorem of_f (K : Nat) (hK : 1 ≤ K) (v : Bool) (n : Nat) (b : Int) (hn : n < 340282366920938463463374607431768211456) : prefix_Of.f K v (hi n) (lo n) b = some (tup5 (ofS v n b)) := by
  obtain ⟨k, rfl⟩ : ∃ k, K = k + 1 := ⟨K - 1, by omega⟩
  unfold prefix_Of.f ofS
  rw [aright_hl v hn]
  simp only [bsome]
  cases hr : rightB v n
  · rw [if_neg (by simp), if_neg (by simp), prefix_Of.j0, if_pos rfl]; rfl
  · rw [if_pos rfl]
    by_cases h0 : b < 0
    · rw [if_pos h0, if_neg (by omega), prefix_Of.j0, if_pos rfl]; rfl
    · rw [if_neg h0, awidth_hl]
      simp only [bsome]
      by_cases h1 : b ≤ (widthN v : Int)
      · rw [if_pos ⟨trivial, by omega, h1⟩, prefix_Of.j0, if_neg (by simp; omega), free_hl v n (by omega) h1]
        simp only [bsome]
        have hf := fr_lt v b
        have hnn : notN (2 ^ fr v b - 1) < 340282366920938463463374607431768211456 := by unfold notN; omega
        rw [not_hl hf]
        simp only [bsome]
        rw [and_hl hn hnn]
        have e : n &&& notN (2 ^ fr v b - 1) = topN (fr v b) n := by
          have := and_not (n := n) (f := fr v b) (k := 128) (fr_le v b) (by rw [show (2 : Nat) ^ 128 = 340282366920938463463374607431768211456 by decide]; exact hn)
          rw [← this]; unfold notN
          rw [show (340282366920938463463374607431768211455 : Nat) = 2 ^ 128 - 1 by decide]
        rw [e]
        simp only [tup5, bsome]
      · rw [if_neg (by simp only [true_and]; omega), prefix_Of.j0, if_pos (by simp; omega)]; rfl
theorem rrightP_f (K : Nat) (hK : 600 ≤ K) (v : Bool) (n : Nat) (b : Int) (hn : n < 340282366920938463463374607431768211456) : platbookref03_Right.f K v (hi n) (lo n) b = some (rightP v n b) := by
  obtain ⟨k, rfl⟩ : ∃ k, K = k + 500 := ⟨K - 500, by omega⟩
  unfold platbookref03_Right.f
  rw [rright02_hl v hn]
  simp only [bsome]
  unfold rightP
  cases hr : rightB v n
  · rw [if_neg (by simp)]; rfl
  · rw [if_pos rfl]
    by_cases h0 : b < 0
    · rw [if_pos h0, decide_eq_false (by omega)]; rfl
    · rw [if_neg h0, width_hl, decide_eq_true (show 0 ≤ b by omega)]
      simp only [bsome]
      by_cases h1 : b ≤ (widthN v : Int)
      · rw [if_neg (by omega), decide_eq_true h1]
        obtain ⟨i, rfl⟩ := Int.eq_ofNat_of_zero_le (show 0 ≤ b by omega)
        rw [pfilled_f k v n i 0 hn (by omega) (.inl rfl), top_ref (rightB_iff.1 hr) (by omega)]
        have e : fr v (i : Int) = widthN v - i := by unfold fr; omega
        simp only [bsome, Int.toNat_zero, Nat.zero_mul, Nat.add_zero]
        rw [hl_eq (top_lt hn) hn, e]
        simp only [beq_self_eq_true, Bool.true_and, Option.some.injEq]
        rw [Bool.eq_iff_iff]; simp [topN_eq]
      · rw [if_pos (by omega), decide_eq_false h1]; rfl
def firstS (v : Bool) (n : Nat) (b : Int) : Bool × Nat := if rightP v n b = true then (v, n) else (false, 0)
def lastS (v : Bool) (n : Nat) (b : Int) : Bool × Nat := if rightP v n b = true then (v, n + (2 ^ fr v b - 1)) else (false, 0)
def tup3 (x : Bool × Nat) : Bool × Int × Int := (x.1, hi x.2, lo x.2)
theorem last_lt {v : Bool} {n : Nat} {b : Int} (h : rightP v n b = true) : n + (2 ^ fr v b - 1) < 2 ^ widthN v := by
  obtain ⟨h1, h2, h3, h4⟩ := rightP_iff.1 h
  have hf : fr v b ≤ widthN v := by unfold fr; omega
  have hp := Nat.two_pow_pos (fr v b)
  obtain ⟨q, hq⟩ := Nat.dvd_of_mod_eq_zero h4
  have e : 2 ^ widthN v = 2 ^ fr v b * 2 ^ (widthN v - fr v b) := by rw [← Nat.pow_add]; congr 1; omega
  rw [hq, e] at h1
  rw [hq, e]
  have h5 : q < 2 ^ (widthN v - fr v b) := Nat.lt_of_mul_lt_mul_left h1
  have h6 : 2 ^ fr v b * (q + 1) ≤ 2 ^ fr v b * 2 ^ (widthN v - fr v b) := Nat.mul_le_mul_left _ h5
  rw [Nat.mul_add, Nat.mul_one] at h6
  omega
theorem first_f (v : Bool) (n : Nat) (b : Int) (hn : n < 340282366920938463463374607431768211456) : prefix_First.f v (hi n) (lo n) b = some (tup3 (firstS v n b)) := by
  unfold prefix_First.f firstS
  rw [pright_hl v b hn]
  simp only [bsome]
  cases rightP v n b <;> simp [tup3, hi00, lo00]
theorem last_f (v : Bool) (n : Nat) (b : Int) (hn : n < 340282366920938463463374607431768211456) : prefix_Last.f v (hi n) (lo n) b = some (tup3 (lastS v n b)) := by
  unfold prefix_Last.f lastS
  rw [pright_hl v b hn]
  simp only [bsome]
  cases h : rightP v n b
  · simp [tup3, hi00, lo00]
  · obtain ⟨h1, h2, h3, h4⟩ := rightP_iff.1 h
    rw [if_pos rfl, if_pos rfl, free_hl v n h2 h3]
    simp only [bsome]
    rw [or_hl hn (fr_lt v b), or_ones h4]
    simp only [tup3, bsome]
def hasS (v : Bool) (n : Nat) (b : Int) (u : Bool) (m : Nat) : Bool := rightP v n b && (rightB u m && (u == v && topN (fr v b) m == n))
theorem has_f (K : Nat) (hK : 1 ≤ K) (v : Bool) (n : Nat) (b : Int) (u : Bool) (m : Nat) (hn : n < 340282366920938463463374607431768211456) (hm : m < 340282366920938463463374607431768211456) : prefix_Has.f K v (hi n) (lo n) b u (hi m) (lo m) = some (hasS v n b u m) := by
  unfold prefix_Has.f hasS
  rw [pright_hl v b hn, aright_hl u hm, of_f K hK u m b hm]
  simp only [bsome]
  cases h : rightP v n b
  · rfl
  · cases hu : rightB u m
    · rfl
    · rw [if_pos rfl, if_pos rfl]
      by_cases huv : u = v
      · subst huv
        obtain ⟨h1, h2, h3, h4⟩ := rightP_iff.1 h
        rw [if_neg (by simp)]
        unfold ofS
        rw [if_pos ⟨hu, h2, h3⟩]
        simp only [tup5]
        rw [hl_eq (top_lt hm) hn]
        simp
      · rw [if_pos (by simpa using huv)]
        simp [huv]
theorem hasS_right {v : Bool} {n : Nat} {b : Int} {u : Bool} {m : Nat} (h : hasS v n b u m = true) : rightP v n b = true ∧ rightB u m = true ∧ u = v ∧ m / 2 ^ fr v b = n / 2 ^ fr v b := by
  unfold hasS at h
  simp only [Bool.and_eq_true, beq_iff_eq] at h
  obtain ⟨h1, h2, h3, h4⟩ := h
  exact ⟨h1, h2, h3, (topN_iff (rightP_iff.1 h1).2.2.2).1 h4⟩
theorem hasS_mk {v : Bool} {n : Nat} {b : Int} {m : Nat} (h1 : rightP v n b = true) (h2 : rightB v m = true) (h : m / 2 ^ fr v b = n / 2 ^ fr v b) : hasS v n b v m = true := by
  unfold hasS
  rw [h1, h2]
  simp only [Bool.true_and, beq_self_eq_true, beq_iff_eq]
  exact (topN_iff (rightP_iff.1 h1).2.2.2).2 h
end Go.Proofs.YtgdgklibilddgaaGreatDoor

namespace Go.Proofs.YtgdgklibilddgaaGreatDoor
open Go.RowKit Go.Proofs.YtgdgklibilddgaaGreatDoorW.PrintWords Go.Proofs.YtgdgklibilddgaaGreatDoor.PSp

theorem shl_hl {n : Nat} {k : Int} (hn : n < 340282366920938463463374607431768211456) (hk : -9223372036854775808 ≤ k) : num_Shl.f (hi n) (lo n) k = some (hi (shlN n k), lo (shlN n k)) := by
  unfold num_Shl.f; rw [okW_hl, decide_eq_true hk, num_hi_lo hn]; rfl
theorem shl_one {k : Nat} (hk : k < 128) : shlN 1 (k : Int) = 2 ^ k := by
  unfold shlN
  rw [if_neg (by omega), if_neg (by omega), Int.toNat_natCast, Nat.one_mul, Nat.mod_eq_of_lt]
  have := Nat.pow_lt_pow_right (a := 2) (by omega) hk
  rw [show (2 : Nat) ^ 128 = 340282366920938463463374607431768211456 by decide] at this
  exact this
/-- the two halves -/
def halvesS (v : Bool) (n : Nat) (b : Int) : (Bool × Nat × Int) × (Bool × Nat × Int) × Int :=
  if rightP v n b = true then (if b = (widthN v : Int) then ((false, 0, 0), (false, 0, 0), 11) else ((v, n, b + 1), (v, n + 2 ^ (fr v b - 1), b + 1), 0)) else ((false, 0, 0), (false, 0, 0), 1)
def tup9 (x : (Bool × Nat × Int) × (Bool × Nat × Int) × Int) : Bool × Int × Int × Int × Bool × Int × Int × Int × Int :=
  (x.1.1, hi x.1.2.1, lo x.1.2.1, x.1.2.2, x.2.1.1, hi x.2.1.2.1, lo x.2.1.2.1, x.2.1.2.2, x.2.2)
theorem half_lt {v : Bool} {n : Nat} {b : Int} (h : rightP v n b = true) (hb : b ≠ (widthN v : Int)) : 1 ≤ fr v b ∧ fr v b - 1 < 128 ∧ fr v (b + 1) = fr v b - 1 ∧ n + 2 ^ (fr v b - 1) < 2 ^ widthN v := by
  obtain ⟨h1, h2, h3, h4⟩ := rightP_iff.1 h
  have hf : 1 ≤ fr v b := by unfold fr; omega
  have hw := widthN_le v
  refine ⟨hf, by unfold fr; omega, by unfold fr; omega, ?_⟩
  have := last_lt h
  have hp := Nat.two_pow_pos (fr v b - 1)
  have e : 2 ^ fr v b = 2 * 2 ^ (fr v b - 1) := by rw [← Nat.pow_succ']; congr 1; omega
  omega
theorem halves_f (v : Bool) (n : Nat) (b : Int) (hn : n < 340282366920938463463374607431768211456) : prefix_Halves.f v (hi n) (lo n) b = some (tup9 (halvesS v n b)) := by
  unfold prefix_Halves.f halvesS
  rw [awidth_hl, pright_hl v b hn]
  simp only [bsome]
  cases h : rightP v n b
  · simp [tup9, hi00, lo00]
  · rw [if_pos rfl, if_pos rfl]
    by_cases hb : b = (widthN v : Int)
    · rw [if_pos hb, if_pos hb]; simp [tup9, hi00, lo00]
    · rw [if_neg hb, if_neg hb]
      obtain ⟨h1, h2, h3, h4⟩ := rightP_iff.1 h
      obtain ⟨f1, f2, f3, f4⟩ := half_lt h hb
      have hw := widthN_le v
      unfold num_Of.f
      simp only [bsome]
      rw [w64 (i := b + 1) (by omega) (by omega), w64 (by omega) (by omega), show ((widthN v : Nat) : Int) - (b + 1) = ((fr v b - 1 : Nat) : Int) by unfold fr; omega]
      have e1 : num_Shl.f 0 1 ((fr v b - 1 : Nat) : Int) = some (hi (2 ^ (fr v b - 1)), lo (2 ^ (fr v b - 1))) := by
        have := shl_hl (n := 1) (k := ((fr v b - 1 : Nat) : Int)) (by decide) (by omega)
        rw [shl_one f2] at this
        exact this
      rw [e1]
      simp only [bsome]
      have hp : 2 ^ (fr v b - 1) < 2 ^ fr v b := Nat.pow_lt_pow_right (by omega) (by omega)
      have hb128 : 2 ^ (fr v b - 1) < 340282366920938463463374607431768211456 := by
        have := Nat.lt_of_lt_of_le f4 (pow_w v); omega
      rw [or_hl hn hb128, or_small h4 hp]
      simp only [bsome, tup9]
theorem acmp_hl {v u : Bool} {n m : Nat} (hn : n < 340282366920938463463374607431768211456) (hm : m < 340282366920938463463374607431768211456) : addr_Cmp.f v (hi n) (lo n) u (hi m) (lo m) = some (cmpA v n u m) := by
  unfold addr_Cmp.f; rw [okW_hl, okW_hl, num_hi_lo hn, num_hi_lo hm]; rfl
theorem cmpA_le {v : Bool} {a b : Nat} : cmpA v a v b ≤ 0 ↔ a ≤ b := by
  unfold cmpA cmpN
  rw [if_pos rfl]
  split
  · constructor <;> omega
  · split
    · constructor <;> omega
    · constructor <;> omega
/-- what lies between the ends is the prefix's own -/
theorem has_between {v : Bool} {n : Nat} {b : Int} (h : rightP v n b = true) (u : Bool) (x : Nat) :
    hasS v n b u x = (rightB u x && (decide (cmpA v n u x ≤ 0) && decide (cmpA u x v (n + (2 ^ fr v b - 1)) ≤ 0))) := by
  obtain ⟨h1, h2, h3, h4⟩ := rightP_iff.1 h
  have hpos := Nat.two_pow_pos (fr v b)
  by_cases huv : u = v
  · subst huv
    rw [Bool.eq_iff_iff]
    simp only [Bool.and_eq_true, decide_eq_true_iff, cmpA_le]
    constructor
    · intro hh
      obtain ⟨_, g2, _, g4⟩ := hasS_right hh
      obtain ⟨q, hq⟩ := Nat.dvd_of_mod_eq_zero h4
      have e : n / 2 ^ fr u b = q := by rw [hq, Nat.mul_div_cancel_left _ hpos]
      rw [e] at g4
      have d1 := Nat.div_add_mod x (2 ^ fr u b)
      have d2 := Nat.mod_lt x hpos
      rw [g4, ← hq] at d1
      exact ⟨g2, by omega, by omega⟩
    · rintro ⟨g1, g2, g3⟩
      refine hasS_mk h g1 ?_
      obtain ⟨q, hq⟩ := Nat.dvd_of_mod_eq_zero h4
      have e : n / 2 ^ fr u b = q := by rw [hq, Nat.mul_div_cancel_left _ hpos]
      rw [e]
      apply Nat.div_eq_of_lt_le
      · rw [Nat.mul_comm, ← hq]; exact g2
      · rw [Nat.add_mul, Nat.mul_comm q, ← hq]; omega
  · have e1 : hasS v n b u x = false := by unfold hasS; simp [huv]
    rw [e1]
    unfold cmpA
    cases u <;> cases v <;> simp at huv ⊢
end Go.Proofs.YtgdgklibilddgaaGreatDoor

namespace Go.Proofs.YtgdgklibilddgaaGreatDoor
open Go.RowKit

/-- the greatest block at x that does not pass b -/
structure Fit (w b x f : Nat) : Prop where
  le : f ≤ w
  dvd : x % 2 ^ f = 0
  fits : x + 2 ^ f ≤ b + 1
  most : ¬ (f < w ∧ x % 2 ^ (f + 1) = 0 ∧ x + 2 ^ (f + 1) ≤ b + 1)
inductive Run (w b : Nat) : Nat → List (Nat × Nat) → Prop where
  | last (x f : Nat) : Fit w b x f → x + 2 ^ f = b + 1 → Run w b x [(x, f)]
  | step (x f : Nat) (l : List (Nat × Nat)) : Fit w b x f → x + 2 ^ f ≤ b → Run w b (x + 2 ^ f) l → Run w b x ((x, f) :: l)

theorem pow_dvd_mod {x f g : Nat} (hfg : f ≤ g) (h : x % 2 ^ g = 0) : x % 2 ^ f = 0 :=
  Nat.mod_eq_zero_of_dvd (Nat.dvd_trans (Nat.pow_dvd_pow 2 hfg) (Nat.dvd_of_mod_eq_zero h))
theorem Fit.up {w b x f m : Nat} (h : Fit w b x f) (hm : x % 2 ^ m = 0) (hmw : m ≤ w) (hfm : f < m) : b + 1 < x + 2 ^ (f + 1) := by
  have h2 := h.most
  have h3 : x % 2 ^ (f + 1) = 0 := pow_dvd_mod hfm hm
  rcases Nat.lt_or_ge (b + 1) (x + 2 ^ (f + 1)) with h4 | h4
  · exact h4
  · exact absurd ⟨by omega, h3, h4⟩ h2
theorem Fit.next {w b x f : Nat} (h : Fit w b x f) : (x + 2 ^ f) % 2 ^ f = 0 := by rw [Nat.add_mod_right]; exact h.dvd
theorem Fit.next_up {w b x f : Nat} (h : Fit w b x f) (hn : x % 2 ^ (f + 1) ≠ 0) : (x + 2 ^ f) % 2 ^ (f + 1) = 0 := by
  obtain ⟨q, hq⟩ := Nat.dvd_of_mod_eq_zero h.dvd
  have hp : 2 ^ (f + 1) = 2 ^ f * 2 := Nat.pow_succ 2 f
  have ho : q % 2 = 1 := by
    rcases Nat.mod_two_eq_zero_or_one q with h0 | h0
    · exfalso; apply hn
      obtain ⟨r, hr⟩ := Nat.dvd_of_mod_eq_zero h0
      rw [hq, hr, ← Nat.mul_assoc, ← hp, Nat.mul_mod_right]
    · exact h0
  have : x + 2 ^ f = 2 ^ f * 2 * ((q + 1) / 2) := by
    have e : q + 1 = 2 * ((q + 1) / 2) := by omega
    rw [Nat.mul_assoc, ← e, Nat.mul_add, ← hq, Nat.mul_one]
  rw [this, hp, Nat.mul_mod_right]

/-- what falls: the rest is less than what the start is aligned to -/
theorem Run.fall {w b : Nat} (m : Nat) : ∀ (x : Nat) (l : List (Nat × Nat)), m ≤ w → x % 2 ^ m = 0 → b + 1 < x + 2 ^ m → Run w b x l → l.length ≤ m := by
  induction m with
  | zero => intro x l _ _ h hr; cases hr with
    | last x f hf he => have := Nat.two_pow_pos f; omega
    | step x f l hf he hr => have := Nat.two_pow_pos f; omega
  | succ m ih =>
    intro x l hmw hd h hr
    cases hr with
    | last x f hf he => simp
    | step x f l hf he hr =>
      have hfm : f < m + 1 := by
        rcases Nat.lt_or_ge f (m + 1) with h1 | h1
        · exact h1
        · have := Nat.pow_le_pow_right (n := 2) (by decide) h1; have := hf.fits; omega
      have hu := hf.up hd hmw hfm
      have e : 2 ^ (f + 1) = 2 ^ f + 2 ^ f := by rw [Nat.pow_succ]; omega
      -- fall from f, then lift to m
      have hq : ∀ (k : Nat), f ≤ k → k ≤ m → b + 1 < x + 2 ^ f + 2 ^ k := by
        intro k h1 _; have := Nat.pow_le_pow_right (n := 2) (by decide) h1; omega
      -- the next start is aligned to f only: use the claim at f through strong form
      have key : l.length ≤ f := by
        clear ih
        have gen : ∀ (f : Nat) (y : Nat) (l : List (Nat × Nat)), f ≤ w → y % 2 ^ f = 0 → b + 1 < y + 2 ^ f → Run w b y l → l.length ≤ f := by
          intro f
          induction f using Nat.strongRecOn with
          | _ f ih =>
            intro y l hfw hd h hr
            cases hr with
            | last y g hg he =>
              have : f ≠ 0 := by
                intro h0; subst h0; have := Nat.two_pow_pos g; omega
              simp; omega
            | step y g l hg he hr =>
              have hgf : g < f := by
                rcases Nat.lt_or_ge g f with h1 | h1
                · exact h1
                · have := Nat.pow_le_pow_right (n := 2) (by decide) h1; have := hg.fits; omega
              have hu := hg.up hd hfw hgf
              have e : 2 ^ (g + 1) = 2 ^ g + 2 ^ g := by rw [Nat.pow_succ]; omega
              have := ih g hgf (y + 2 ^ g) l (by omega) hg.next (by omega) hr
              simp; omega
        exact gen f (x + 2 ^ f) l (by omega) hf.next (by omega) hr
      simp; omega

/-- what rises: what the start is aligned to grows, till it falls -/
theorem Run.rise {w b : Nat} (hw : 1 ≤ w) (hb : b < 2 ^ w) (d : Nat) : ∀ (a : Nat) (x : Nat) (l : List (Nat × Nat)), w - a = d → a ≤ w → x % 2 ^ a = 0 → x ≤ b → Run w b x l → l.length ≤ 2 * w - a := by
  induction d with
  | zero =>
    intro a x l hd ha hx hxb hr
    obtain rfl : a = w := by omega
    have hx0 : x = 0 := by rw [Nat.mod_eq_of_lt (by omega)] at hx; exact hx
    subst hx0
    rcases Nat.lt_or_ge (b + 1) (2 ^ a) with h | h
    · have := Run.fall a 0 l (by omega) (by simp) (by omega) hr; omega
    · cases hr with
      | last x f hf he => simp; omega
      | step x f l hf he hr =>
        exfalso
        have hfa : f < a := by
          rcases Nat.lt_or_ge f a with h1 | h1
          · exact h1
          · have := Nat.pow_le_pow_right (n := 2) (by decide) h1; omega
        have := hf.up (m := a) (by simp) (Nat.le_refl _) hfa
        have := Nat.pow_le_pow_right (n := 2) (by decide) (show f + 1 ≤ a by omega)
        omega
  | succ d ih =>
    intro a x l hd ha hx hxb hr
    by_cases h1 : x % 2 ^ (a + 1) = 0
    · have := ih (a + 1) x l (by omega) (by omega) h1 hxb hr; omega
    · cases hr with
      | last x f hf he => simp; omega
      | step x f l hf he hr =>
        have hfa : f ≤ a := by
          rcases Nat.lt_or_ge a f with h2 | h2
          · exact absurd (pow_dvd_mod h2 hf.dvd) h1
          · exact h2
        rcases Nat.lt_or_ge f a with h2 | h2
        · have hu := hf.up hx ha h2
          have hp := Nat.pow_le_pow_right (n := 2) (by decide) (show f + 1 ≤ a by omega)
          have := Run.fall a x _ (by omega) hx (by omega) (Run.step x f l hf he hr)
          omega
        · obtain rfl : f = a := by omega
          have := ih (f + 1) (x + 2 ^ f) l (by omega) (by omega) (hf.next_up h1) he hr
          simp; omega
theorem Run.short {w b x : Nat} {l : List (Nat × Nat)} (hw : 1 ≤ w) (hb : b < 2 ^ w) (hxb : x ≤ b) (h : Run w b x l) : l.length ≤ 2 * w := by
  have := Run.rise hw hb w 0 x l (by omega) (by omega) (by simp [Nat.mod_one]) hxb h; omega

/-- every run, by index -/
structure Runs (w b x : Nat) (l : List (Nat × Nat)) : Prop where
  some : 0 < l.length
  first : ∀ h : 0 < l.length, (l[0]'h).1 = x
  fit : ∀ i (h : i < l.length), Fit w b (l[i]'h).1 (l[i]'h).2
  join : ∀ i (h : i + 1 < l.length), (l[i + 1]'h).1 = (l[i]'(by omega)).1 + 2 ^ (l[i]'(by omega)).2
  last : ∀ h : l.length - 1 < l.length, (l[l.length - 1]'h).1 + 2 ^ (l[l.length - 1]'h).2 = b + 1
theorem Run.runs {w b x : Nat} {l : List (Nat × Nat)} (h : Run w b x l) : Runs w b x l := by
  induction h with
  | last x f hf he =>
    refine ⟨by simp, by simp, ?_, ?_, ?_⟩
    · intro i h; obtain rfl : i = 0 := by simpa using h
      exact hf
    · intro i h; simp at h
    · intro h; simpa using he
  | step x f l hf he hr ih =>
    obtain ⟨i1, i2, i3, i4, i5⟩ := ih
    refine ⟨by simp, by simp, ?_, ?_, ?_⟩
    · intro i h
      cases i with
      | zero => exact hf
      | succ i => exact i3 i (by simpa using h)
    · intro i h
      cases i with
      | zero => simpa using i2 i1
      | succ i => exact i4 i (by simpa using h)
    · intro h
      have : l.length - 1 < l.length := by omega
      have h5 := i5 this
      have e : (((x, f) :: l)[((x, f) :: l).length - 1]'h) = l[l.length - 1]'this := by
        simp only [List.length_cons, Nat.add_sub_cancel]
        rw [List.getElem_cons]
        have : l.length ≠ 0 := by omega
        simp [this]
      rw [e]; exact h5
/-- two neighbours are not the halves of one block -/
theorem Runs.whole {w b x : Nat} {l : List (Nat × Nat)} (h : Runs w b x l) (hb : b < 2 ^ w) (i : Nat) (hi : i + 1 < l.length) (he : (l[i + 1]'hi).2 = (l[i]'(by omega)).2) :
    (l[i]'(by omega)).1 % 2 ^ ((l[i]'(by omega)).2 + 1) ≠ 0 ∧ (l[i]'(by omega)).2 < w := by
  have f1 := h.fit i (by omega)
  have f2 := h.fit (i + 1) hi
  have j := h.join i hi
  rw [he, j] at f2
  generalize (l[i]'(by omega)).1 = y at f1 f2 j ⊢
  generalize (l[i]'(by omega)).2 = f at f1 f2 j ⊢
  have e : 2 ^ (f + 1) = 2 ^ f + 2 ^ f := by rw [Nat.pow_succ]; omega
  have hp := Nat.two_pow_pos f
  have hfw : f < w := by
    rcases Nat.lt_or_ge f w with h1 | h1
    · exact h1
    · have := Nat.pow_le_pow_right (n := 2) (by decide) h1; have := f2.fits; omega
  refine ⟨fun h0 => f1.most ⟨hfw, h0, ?_⟩, hfw⟩
  have := f2.fits; omega
theorem Runs.ge {w b x : Nat} {l : List (Nat × Nat)} (h : Runs w b x l) : ∀ i (hi : i < l.length), x ≤ (l[i]'hi).1 := by
  intro i
  induction i with
  | zero => intro hi; rw [h.first hi]; exact Nat.le_refl _
  | succ i ih => intro hi; rw [h.join i hi]; exact Nat.le_trans (ih (by omega)) (Nat.le_add_right _ _)

/-- the greatest width, step by step -/
def wid (w x b : Nat) : Nat → Nat → Nat
  | 0, f => f
  | n + 1, f => if f < w ∧ x % 2 ^ (f + 1) = 0 ∧ x + 2 ^ (f + 1) ≤ b + 1 then wid w x b n (f + 1) else f
theorem wid_fit (w x b : Nat) : ∀ (n f : Nat), w - f = n → f ≤ w → x % 2 ^ f = 0 → x + 2 ^ f ≤ b + 1 → Fit w b x (wid w x b n f) := by
  intro n
  induction n with
  | zero => intro f h1 h2 h3 h4; show Fit w b x f; exact ⟨h2, h3, h4, fun h => by omega⟩
  | succ n ih =>
    intro f h1 h2 h3 h4
    unfold wid
    split
    · next h => exact ih (f + 1) (by omega) (by omega) h.2.1 h.2.2
    · next h => exact ⟨h2, h3, h4, h⟩
/-- there is a run from each number that is not behind the last -/
theorem run_ex (w b : Nat) : ∀ (d x : Nat), b - x = d → x ≤ b → ∃ l, Run w b x l := by
  intro d
  induction d using Nat.strongRecOn with
  | _ d ih =>
    intro x hd hx
    have hf : Fit w b x (wid w x b w 0) := wid_fit w x b w 0 (by simp) (by omega) (by simp [Nat.mod_one]) (by simp; omega)
    have hp := Nat.two_pow_pos (wid w x b w 0)
    have h3 := hf.fits
    rcases Nat.lt_or_ge b (x + 2 ^ wid w x b w 0) with h | h
    · exact ⟨_, .last x _ hf (by omega)⟩
    · obtain ⟨l, hl⟩ := ih (b - (x + 2 ^ wid w x b w 0)) (by omega) (x + 2 ^ wid w x b w 0) rfl h
      exact ⟨_, .step x _ l hf h hl⟩
theorem Fit.eq {w b x f g : Nat} (hf : Fit w b x f) (hg : Fit w b x g) : f = g := by
  rcases Nat.lt_trichotomy f g with h | h | h
  · exfalso
    have := hf.up hg.dvd hg.le h
    have h2 := Nat.pow_le_pow_right (n := 2) (by decide) (show f + 1 ≤ g from h)
    have := hg.fits; omega
  · exact h
  · exfalso
    have := hg.up hf.dvd hf.le h
    have h2 := Nat.pow_le_pow_right (n := 2) (by decide) (show g + 1 ≤ f from h)
    have := hf.fits; omega
end Go.Proofs.YtgdgklibilddgaaGreatDoor

namespace Go.Proofs.YtgdgklibilddgaaGreatDoor
open Go.RowKit Go.Proofs.YtgdgklibilddgaaGreatDoorW.PrintWords Go.Proofs.YtgdgklibilddgaaGreatDoor.PSp

theorem fr_sub (v : Bool) (f : Nat) (h : f ≤ widthN v) : fr v ((widthN v : Int) - (f : Int)) = f := by unfold fr; omega
theorem right_mk {v : Bool} {x f : Nat} (hx : x < 2 ^ widthN v) (hf : f ≤ widthN v) (hd : x % 2 ^ f = 0) : rightP v x ((widthN v : Int) - (f : Int)) = true :=
  rightP_iff.2 ⟨hx, by omega, by omega, by rw [fr_sub v f hf]; exact hd⟩
theorem hl_ne {a b : Nat} (ha : a < 340282366920938463463374607431768211456) (hb : b < 340282366920938463463374607431768211456) : ((!(hi a == hi b) || !(lo a == lo b)) : Bool) = !(a == b) := by
  rw [← hl_eq ha hb, Bool.not_and]
theorem widest_l0 (v : Bool) (x b : Nat) (hx : x < 2 ^ widthN v) (hb : b < 2 ^ widthN v) : ∀ (d f k : Nat), widthN v - f = d → f ≤ widthN v → x % 2 ^ f = 0 → d < k →
    carve_widest.l0 (k + 1) v (hi x) (lo x) v (hi b) (lo b) v (hi x) (lo x) ((widthN v : Int) - (f : Int)) = some (v, hi x, lo x, (widthN v : Int) - ((wid (widthN v) x b d f : Nat) : Int)) := by
  have hw := widthN_le v
  have hxm : x < 340282366920938463463374607431768211456 := Nat.lt_of_lt_of_le hx (pow_w v)
  have hbm : b < 340282366920938463463374607431768211456 := Nat.lt_of_lt_of_le hb (pow_w v)
  intro d
  induction d with
  | zero =>
    intro f k h1 h2 h3 h4
    obtain rfl : f = widthN v := by omega
    rw [carve_widest.l0, if_neg (by omega)]
    rfl
  | succ d ih =>
    intro f k h1 h2 h3 h4
    obtain ⟨k, rfl⟩ : ∃ m, k = m + 1 := ⟨k - 1, by omega⟩
    have hfw : f + 1 ≤ widthN v := by omega
    have eb : (widthN v : Int) - (f : Int) - 1 = (widthN v : Int) - ((f + 1 : Nat) : Int) := by omega
    have eof : ofS v x ((widthN v : Int) - ((f + 1 : Nat) : Int)) = (v, topN (f + 1) x, (widthN v : Int) - ((f + 1 : Nat) : Int), 0) := by
      unfold ofS
      rw [if_pos ⟨rightB_iff.2 hx, by omega, by omega⟩, fr_sub v _ hfw]
    have htm : topN (f + 1) x < 340282366920938463463374607431768211456 := top_lt hxm
    rw [carve_widest.l0, if_pos (by omega), w64 (by omega) (by omega), eb, of_f (k + 1) (by omega) v x _ hxm, eof]
    simp only [bsome, tup5]
    rw [beq_self_eq_true, Bool.not_true, Bool.false_or, hl_ne htm hxm]
    unfold wid
    by_cases hd : x % 2 ^ (f + 1) = 0
    · have et : topN (f + 1) x = x := topN_eq.2 hd
      have hr := right_mk hx hfw hd
      have hlt := last_lt hr
      rw [fr_sub v _ hfw] at hlt
      rw [et, beq_self_eq_true, Bool.not_true, if_neg (by decide), last_f v x _ hxm]
      simp only [bsome]
      rw [show lastS v x ((widthN v : Int) - ((f + 1 : Nat) : Int)) = (v, x + (2 ^ (f + 1) - 1)) from by unfold lastS; rw [if_pos hr, fr_sub v _ hfw]]
      simp only [tup3]
      rw [acmp_hl (Nat.lt_of_lt_of_le hlt (pow_w v)) hbm]
      simp only [bsome]
      have hp := Nat.two_pow_pos (f + 1)
      by_cases hle : x + (2 ^ (f + 1) - 1) ≤ b
      · have hc : ¬ cmpA v (x + (2 ^ (f + 1) - 1)) v b > 0 := by have := (cmpA_le (v := v)).2 hle; omega
        rw [if_neg hc, if_pos ⟨by omega, hd, by omega⟩]
        exact ih (f + 1) k (by omega) hfw hd (by omega)
      · have hc : cmpA v (x + (2 ^ (f + 1) - 1)) v b > 0 := by
          rcases Int.lt_or_le 0 (cmpA v (x + (2 ^ (f + 1) - 1)) v b) with h | h
          · exact h
          · exact absurd ((cmpA_le (v := v)).1 h) hle
        rw [if_pos hc, if_neg (by rintro ⟨_, _, h⟩; omega)]
    · have et : topN (f + 1) x ≠ x := fun h => hd (topN_eq.1 h)
      rw [show (topN (f + 1) x == x) = false from by simp [et], Bool.not_false, if_pos rfl, if_neg (by rintro ⟨_, h, _⟩; exact hd h)]
theorem widest_f (v : Bool) (x b k : Nat) (hx : x < 2 ^ widthN v) (hb : b < 2 ^ widthN v) (hk : 200 ≤ k) :
    carve_widest.f k v (hi x) (lo x) v (hi b) (lo b) = some (v, hi x, lo x, (widthN v : Int) - ((wid (widthN v) x b (widthN v) 0 : Nat) : Int)) := by
  have hw := widthN_le v
  have hxm : x < 340282366920938463463374607431768211456 := Nat.lt_of_lt_of_le hx (pow_w v)
  obtain ⟨k, rfl⟩ : ∃ m, k = m + 1 := ⟨k - 1, by omega⟩
  have eof : ofS v x (widthN v : Int) = (v, x, (widthN v : Int), 0) := by
    unfold ofS
    rw [if_pos ⟨rightB_iff.2 hx, by omega, by omega⟩]
    have : fr v (widthN v : Int) = 0 := by unfold fr; omega
    rw [this, topN_eq.2 (by simp [Nat.mod_one])]
  unfold carve_widest.f
  rw [awidth_hl]
  simp only [bsome]
  rw [of_f (k + 1) (by omega) v x _ hxm, eof]
  simp only [bsome, tup5]
  have := widest_l0 v x b hx hb (widthN v) 0 k (by omega) (by omega) (by simp [Nat.mod_one]) (by omega)
  simpa using this

/-- the prefixes of a run -/
def toS (v : Bool) (l : List (Nat × Nat)) : List S38 := l.map fun p => ⟨⟨v, ⟨hi p.1, lo p.1⟩⟩, (widthN v : Int) - (p.2 : Int)⟩
theorem toS_len (v : Bool) (l : List (Nat × Nat)) : (toS v l).length = l.length := by simp [toS]
theorem toS_at (v : Bool) (l : List (Nat × Nat)) {i : Nat} (h : i < l.length) : rd_T38 (toS v l) (i : Int) = ⟨⟨v, ⟨hi (l[i]'h).1, lo (l[i]'h).1⟩⟩, (widthN v : Int) - ((l[i]'h).2 : Int)⟩ := by
  simp [rd_T38, toS, List.getD, h]
theorem plus_one {v : Bool} {y : Nat} (hy : y + 1 < 2 ^ widthN v) : addr_Plus.f v (hi y) (lo y) (hi 1) (lo 1) = some (v, hi (y + 1), lo (y + 1), 0) := by
  have hm := pow_w v
  unfold addr_Plus.f
  rw [okW_hl, okW_hl, num_hi_lo (by omega), num_hi_lo (by decide)]
  have e : plusP v y 1 = (v, y + 1, 0) := by
    unfold plusP addF addN
    rw [if_pos (rightB_iff.2 (by omega)), Nat.mod_eq_of_lt (by omega), decide_eq_true (by omega), rightB_iff.2 hy]
    rfl
  rw [e]
  rfl
theorem spread_l0 (v : Bool) (b : Nat) (hb : b < 2 ^ widthN v) {x : Nat} {l : List (Nat × Nat)} (h : Run (widthN v) b x l) : ∀ (k : Nat) (acc : List S38), acc.length + l.length ≤ 1000 → 200 + l.length ≤ k →
    carve_Spread.l0 k acc v (hi x) (lo x) v (hi b) (lo b) = some (acc ++ toS v l, 0) := by
  have hw := widthN_le v
  have hbm : b < 340282366920938463463374607431768211456 := Nat.lt_of_lt_of_le hb (pow_w v)
  induction h with
  | last x f hf he =>
    intro k acc h1 h2
    simp only [List.length_cons, List.length_nil] at h1 h2
    obtain ⟨k, rfl⟩ : ∃ m, k = m + 1 := ⟨k - 1, by omega⟩
    have hp := Nat.two_pow_pos f
    have hx : x < 2 ^ widthN v := by omega
    have hg := wid_fit (widthN v) x b (widthN v) 0 (by simp) (by omega) (by simp [Nat.mod_one]) (by simp; omega)
    rw [carve_Spread.l0, widest_f v x b k hx hb (by omega), hg.eq hf]
    simp only [bsome]
    have hr := right_mk hx hf.le hf.dvd
    rw [if_pos (by omega), last_f v x _ (Nat.lt_of_lt_of_le hx (pow_w v)), show lastS v x ((widthN v : Int) - (f : Int)) = (v, b) from by unfold lastS; rw [if_pos hr, fr_sub v _ hf.le]; congr 1; omega]
    simp [bsome, tup3, toS]
  | step x f l hf he hr ih =>
    intro k acc h1 h2
    simp only [List.length_cons] at h1 h2
    obtain ⟨k, rfl⟩ : ∃ m, k = m + 1 := ⟨k - 1, by omega⟩
    have hp := Nat.two_pow_pos f
    have hx : x < 2 ^ widthN v := by omega
    have hg := wid_fit (widthN v) x b (widthN v) 0 (by simp) (by omega) (by simp [Nat.mod_one]) (by simp; omega)
    rw [carve_Spread.l0, widest_f v x b k hx hb (by omega), hg.eq hf]
    simp only [bsome]
    have hrt := right_mk hx hf.le hf.dvd
    have hym : x + (2 ^ f - 1) < 340282366920938463463374607431768211456 := by omega
    rw [if_pos (by omega), last_f v x _ (Nat.lt_of_lt_of_le hx (pow_w v)), show lastS v x ((widthN v : Int) - (f : Int)) = (v, x + (2 ^ f - 1)) from by unfold lastS; rw [if_pos hrt, fr_sub v _ hf.le]]
    simp only [bsome, tup3]
    rw [hl_eq hym hbm, beq_self_eq_true, Bool.true_and, if_neg (by simp; omega), show num_Of.f 1 = some (hi 1, lo 1) from by decide +kernel]
    simp only [bsome]
    rw [plus_one (by omega)]
    simp only [bsome]
    rw [show x + (2 ^ f - 1) + 1 = x + 2 ^ f from by omega, ih k _ (by simp; omega) (by omega)]
    simp [toS]
end Go.Proofs.YtgdgklibilddgaaGreatDoor

namespace Go.Proofs.YtgdgklibilddgaaGreatDoor
open Go.RowKit Go.Proofs.YtgdgklibilddgaaGreatDoorW.PrintWords Go.Proofs.YtgdgklibilddgaaGreatDoor.PSp

theorem awakeSp_f : platbooklaw04_awake.f 2500 = some true := by decide +kernel
/-- may the one address be ahead of the other one? -/
def goodSp (v : Bool) (x : Nat) (u : Bool) (b : Nat) : Prop := rightB v x = true ∧ rightB u b = true ∧ v = u ∧ x ≤ b
theorem spread_bad (v : Bool) (x : Nat) (u : Bool) (b : Nat) (hx : x < 340282366920938463463374607431768211456) (hb : b < 340282366920938463463374607431768211456) (h : ¬ goodSp v x u b) : carve_Spread.f 2500 v (hi x) (lo x) u (hi b) (lo b) = some ([], 1) := by
  have hj : carve_Spread.j0 2500 true v (hi x) (lo x) u (hi b) (lo b) = some ([], 1) := by rw [show 2500 = 2499 + 1 from rfl, carve_Spread.j0, if_pos rfl]
  unfold carve_Spread.f
  rw [aright_hl v hx, aright_hl u hb]
  simp only [bsome]
  cases h1 : rightB v x
  · rw [if_neg (by decide)]; exact hj
  · rw [if_pos rfl]
    cases h2 : rightB u b
    · rw [if_neg (by decide)]; exact hj
    · rw [if_pos rfl]
      by_cases h3 : v = u
      · subst h3
        rw [if_neg (by simp), acmp_hl hx hb]
        simp only [bsome]
        have : ¬ x ≤ b := fun h4 => h ⟨h1, h2, rfl, h4⟩
        have hc : cmpA v x v b > 0 := by
          rcases Int.lt_or_le 0 (cmpA v x v b) with k | k
          · exact k
          · exact absurd ((cmpA_le (v := v)).1 k) this
        rw [decide_eq_true hc]; exact hj
      · rw [if_pos (by simp [h3])]; exact hj
theorem spread_ok (v : Bool) (x b : Nat) {l : List (Nat × Nat)} (h : goodSp v x v b) (hl : Run (widthN v) b x l) (hlen : l.length ≤ 256) : carve_Spread.f 2500 v (hi x) (lo x) v (hi b) (lo b) = some (toS v l, 0) := by
  obtain ⟨h1, h2, _, h4⟩ := h
  have hxm : x < 340282366920938463463374607431768211456 := Nat.lt_of_lt_of_le (rightB_iff.1 h1) (pow_w v)
  have hbm : b < 340282366920938463463374607431768211456 := Nat.lt_of_lt_of_le (rightB_iff.1 h2) (pow_w v)
  have hc : ¬ cmpA v x v b > 0 := by have := (cmpA_le (v := v)).2 h4; omega
  unfold carve_Spread.f
  rw [aright_hl v hxm, aright_hl v hbm]
  simp only [bsome]
  rw [h1, h2, if_pos rfl, if_pos rfl, if_neg (by simp), acmp_hl hxm hbm]
  simp only [bsome]
  rw [decide_eq_false hc, show 2500 = 2499 + 1 from rfl, carve_Spread.j0, if_neg (by decide), spread_l0 v b (rightB_iff.1 h2) hl 2499 [] (by simp; omega) (by omega)]
  simp

/-- how many of the first i prefixes have an address -/
def startL (b : Nat) (l : List (Nat × Nat)) (i : Nat) : Nat := if h : i < l.length then (l[i]'h).1 else b + 1
def hereL (v : Bool) (b x : Nat) (l : List (Nat × Nat)) (u : Bool) (c : Nat) (i : Nat) : Int := if (u = v ∧ rightB u c = true) ∧ x ≤ c ∧ c < startL b l i then 1 else 0
theorem startL_next {w b x : Nat} {l : List (Nat × Nat)} (h : Runs w b x l) {i : Nat} (hi : i < l.length) : startL b l (i + 1) = (l[i]'hi).1 + 2 ^ (l[i]'hi).2 := by
  unfold startL
  by_cases hn : i + 1 < l.length
  · rw [dif_pos hn, h.join i hn]
  · rw [dif_neg hn]
    obtain rfl : i = l.length - 1 := by omega
    exact (h.last hi).symm
theorem startL_at {b : Nat} {l : List (Nat × Nat)} {i : Nat} (hi : i < l.length) : startL b l i = (l[i]'hi).1 := dif_pos hi
theorem has_in {v : Bool} {s f : Nat} (hs : s < 2 ^ widthN v) (hf : f ≤ widthN v) (hd : s % 2 ^ f = 0) (u : Bool) (c : Nat) :
    hasS v s ((widthN v : Int) - (f : Int)) u c = decide ((u = v ∧ rightB u c = true) ∧ s ≤ c ∧ c < s + 2 ^ f) := by
  have hr := right_mk hs hf hd
  have hp := Nat.two_pow_pos f
  by_cases huv : u = v
  · subst huv
    rw [has_between hr, fr_sub u f hf, Bool.eq_iff_iff]
    simp only [Bool.and_eq_true, decide_eq_true_iff, cmpA_le]
    constructor
    · rintro ⟨a1, a2, a3⟩; exact ⟨⟨trivial, a1⟩, a2, by omega⟩
    · rintro ⟨⟨_, a1⟩, a2, a3⟩; exact ⟨a1, a2, by omega⟩
  · rw [decide_eq_false (by rintro ⟨⟨h, _⟩, _⟩; exact huv h)]
    unfold hasS; simp [huv]
theorem law_l0 (v : Bool) (x b : Nat) (u : Bool) (c : Nat) (hb : b < 2 ^ widthN v) (hx : x ≤ b) (hc : c < 340282366920938463463374607431768211456) {l : List (Nat × Nat)} (h : Runs (widthN v) b x l) (hlen : l.length ≤ 256) :
    ∀ (d i k : Nat), i + d = l.length → 720 + 5 * d ≤ k →
    platbooklaw04_CarveSpreads.l0 k (toS v l) (hereL v b x l u c i) (i : Int) v (hi x) (lo x) v (hi b) (lo b) u (hi c) (lo c) = some true := by
  have hw := widthN_le v
  have hbm : b < 340282366920938463463374607431768211456 := Nat.lt_of_lt_of_le hb (pow_w v)
  have hxm : x < 340282366920938463463374607431768211456 := by omega
  intro d
  induction d with
  | zero =>
    intro i k h1 h2
    obtain ⟨k, rfl⟩ : ∃ m, k = m + 1 := ⟨k - 1, by omega⟩
    rw [platbooklaw04_CarveSpreads.l0, toS_len, if_neg (by omega), aright_hl u hc]
    simp only [bsome]
    have es : startL b l i = b + 1 := dif_neg (by omega)
    have hv1 : (u = v ∧ rightB u c = true) ∧ x ≤ c ∧ c < b + 1 → hereL v b x l u c i = 1 := fun q => by unfold hereL; rw [es]; exact if_pos q
    have hv0 : ¬ ((u = v ∧ rightB u c = true) ∧ x ≤ c ∧ c < b + 1) → hereL v b x l u c i = 0 := fun q => by unfold hereL; rw [es]; exact if_neg q
    by_cases huv : u = v
    · subst huv
      cases hr : rightB u c
      · rw [hv0 (by rintro ⟨⟨_, q⟩, _⟩; rw [hr] at q; cases q)]; simp
      · rw [if_pos rfl, acmp_hl hxm hc]
        simp only [bsome]
        by_cases hxc : x ≤ c
        · rw [if_pos ((cmpA_le (v := u)).2 hxc), acmp_hl hc hbm]
          simp only [bsome]
          by_cases hcb : c ≤ b
          · rw [hv1 ⟨⟨rfl, hr⟩, hxc, by omega⟩, if_pos rfl, if_pos ((cmpA_le (v := u)).2 hcb)]
          · rw [hv0 (by rintro ⟨_, _, q⟩; omega), decide_eq_false (fun q => hcb ((cmpA_le (v := u)).1 q))]; simp
        · rw [if_neg (fun q => hxc ((cmpA_le (v := u)).1 q)), hv0 (by rintro ⟨_, q, _⟩; exact hxc q)]; simp
    · rw [hv0 (by rintro ⟨⟨q, _⟩, _⟩; exact huv q)]
      cases hr : rightB u c
      · simp
      · rw [if_pos rfl, acmp_hl hxm hc]
        simp only [bsome]
        have hu : ¬ (cmpA v x u c ≤ 0 ∧ cmpA u c v b ≤ 0) := by
          unfold cmpA; rw [if_neg (fun q => huv q.symm), if_neg huv]
          cases u <;> cases v <;> simp at huv ⊢
        by_cases q1 : cmpA v x u c ≤ 0
        · rw [if_pos q1, acmp_hl hc hbm]
          simp only [bsome]
          rw [decide_eq_false (fun q => hu ⟨q1, q⟩)]; simp
        · rw [if_neg q1]; simp
  | succ d ih =>
    intro i k h1 h2
    obtain ⟨k, rfl⟩ : ∃ m, k = m + 1 + 1 + 1 := ⟨k - 3, by omega⟩
    have hil : i < l.length := by omega
    have hfit := h.fit i hil
    have hpos := Nat.two_pow_pos (l[i]'hil).2
    have hs : (l[i]'hil).1 < 2 ^ widthN v := by have := hfit.fits; omega
    have hsm : (l[i]'hil).1 < 340282366920938463463374607431768211456 := Nat.lt_of_lt_of_le hs (pow_w v)
    have hr := right_mk hs hfit.le hfit.dvd
    have hge := h.ge i hil
    have hnext := startL_next h hil
    rw [platbooklaw04_CarveSpreads.l0, toS_len, if_pos (by omega), if_pos (by omega), toS_at v l hil, rrightP_f _ (by omega) v _ _ hsm, hr]
    simp only [bsome, if_true]
    rw [has_f _ (by omega) v _ _ u c hsm hc, has_in hs hfit.le hfit.dvd u c]
    simp only [bsome]
    -- what is counted next
    have hcount : (if decide ((u = v ∧ rightB u c = true) ∧ (l[i]'hil).1 ≤ c ∧ c < (l[i]'hil).1 + 2 ^ (l[i]'hil).2) = true then
        platbooklaw04_CarveSpreads.j3 (k + 1 + 1) (toS v l) (wrap64 (hereL v b x l u c i + 1)) (i : Int) v (hi x) (lo x) v (hi b) (lo b) u (hi c) (lo c) else
        platbooklaw04_CarveSpreads.j3 (k + 1 + 1) (toS v l) (hereL v b x l u c i) (i : Int) v (hi x) (lo x) v (hi b) (lo b) u (hi c) (lo c)) =
        platbooklaw04_CarveSpreads.j3 (k + 1 + 1) (toS v l) (hereL v b x l u c (i + 1)) (i : Int) v (hi x) (lo x) v (hi b) (lo b) u (hi c) (lo c) := by
      unfold hereL
      rw [hnext, startL_at hil]
      by_cases hq : (u = v ∧ rightB u c = true) ∧ (l[i]'hil).1 ≤ c ∧ c < (l[i]'hil).1 + 2 ^ (l[i]'hil).2
      · rw [decide_eq_true hq, if_pos rfl, if_neg (by rintro ⟨_, _, q⟩; omega), if_pos ⟨hq.1, by omega, hq.2.2⟩, w64 (by omega) (by omega)]; rfl
      · rw [decide_eq_false hq, if_neg (by decide)]
        by_cases hq2 : (u = v ∧ rightB u c = true) ∧ x ≤ c ∧ c < (l[i]'hil).1
        · rw [if_pos hq2, if_pos ⟨hq2.1, hq2.2.1, by omega⟩]
        · rw [if_neg hq2, if_neg]
          rintro ⟨q1, q2, q3⟩
          rcases Nat.lt_or_ge c (l[i]'hil).1 with k1 | k1
          · exact hq2 ⟨q1, q2, k1⟩
          · exact hq ⟨q1, k1, q3⟩
    rw [hcount]
    have hrec : ∀ kk, 720 + 5 * d ≤ kk → platbooklaw04_CarveSpreads.l0 kk (toS v l) (hereL v b x l u c (i + 1)) (wrap64 ((i : Int) + 1)) v (hi x) (lo x) v (hi b) (lo b) u (hi c) (lo c) = some true := by
      intro kk hkk
      rw [w64 (by omega) (by omega), show (i : Int) + 1 = ((i + 1 : Nat) : Int) from by omega]
      exact ih (i + 1) kk (by omega) hkk
    clear hcount
    rw [platbooklaw04_CarveSpreads.j3]
    by_cases hi0 : i = 0
    · subst hi0
      rw [if_pos (show ((0 : Nat) : Int) = 0 from rfl)]; exact hrec _ (by omega)
    · obtain ⟨j, rfl⟩ : ∃ j, i = j + 1 := ⟨i - 1, by omega⟩
      have hjl : j < l.length := by omega
      have hjf := h.fit j hjl
      have hjs : (l[j]'hjl).1 < 2 ^ widthN v := by have := hjf.fits; have := Nat.two_pow_pos (l[j]'hjl).2; omega
      have hjsm : (l[j]'hjl).1 < 340282366920938463463374607431768211456 := Nat.lt_of_lt_of_le hjs (pow_w v)
      have hjr := right_mk hjs hjf.le hjf.dvd
      have hjn := h.join j hil
      have hjp := Nat.two_pow_pos (l[j]'hjl).2
      rw [if_neg (by omega), w64 (by omega) (by omega), show ((j + 1 : Nat) : Int) - 1 = (j : Int) from by omega, if_pos (by omega), toS_len, if_pos (by omega), toS_at v l hjl, last_f v _ _ hjsm,
        show lastS v (l[j]'hjl).1 ((widthN v : Int) - ((l[j]'hjl).2 : Int)) = (v, (l[j]'hjl).1 + (2 ^ (l[j]'hjl).2 - 1)) from by unfold lastS; rw [if_pos hjr, fr_sub v _ hjf.le], show num_Of.f 1 = some (hi 1, lo 1) from by decide +kernel]
      simp only [bsome, tup3]
      rw [plus_one (by omega), show (l[j]'hjl).1 + (2 ^ (l[j]'hjl).2 - 1) + 1 = (l[j + 1]'hil).1 from by omega]
      simp only [bsome]
      rw [if_pos trivial, if_pos (by omega), if_pos (by omega), toS_at v l hil, first_f v _ _ hsm, show firstS v (l[j + 1]'hil).1 ((widthN v : Int) - ((l[j + 1]'hil).2 : Int)) = (v, (l[j + 1]'hil).1) from by unfold firstS; rw [if_pos hr]]
      simp only [bsome, tup3]
      rw [beq_self_eq_true, beq_self_eq_true, beq_self_eq_true]
      simp only [Bool.not_true, Bool.or_false]
      rw [platbooklaw04_CarveSpreads.j4, if_neg (by decide), if_pos (by omega), toS_len, if_pos (by omega), w64 (by omega) (by omega), show ((j + 1 : Nat) : Int) - 1 = (j : Int) from by omega, if_pos (by omega), if_pos (by omega), toS_at v l hil, toS_at v l hjl]
      simp only
      by_cases he : (widthN v : Int) - ((l[j + 1]'hil).2 : Int) = (widthN v : Int) - ((l[j]'hjl).2 : Int)
      · have he2 : (l[j + 1]'hil).2 = (l[j]'hjl).2 := by omega
        obtain ⟨hwh, hlt⟩ := h.whole hb j hil he2
        rw [if_pos he, he2, w64 (by omega) (by omega), show (widthN v : Int) - ((l[j]'hjl).2 : Int) - 1 = (widthN v : Int) - (((l[j]'hjl).2 + 1 : Nat) : Int) from by omega, of_f _ (by omega) v _ _ hsm,
          show ofS v (l[j + 1]'hil).1 ((widthN v : Int) - (((l[j]'hjl).2 + 1 : Nat) : Int)) = (v, topN ((l[j]'hjl).2 + 1) (l[j + 1]'hil).1, (widthN v : Int) - (((l[j]'hjl).2 + 1 : Nat) : Int), 0) from by
            unfold ofS; rw [if_pos ⟨rightB_iff.2 hs, by omega, by omega⟩, fr_sub v _ (by omega)]]
        simp only [bsome, tup5]
        have htm : topN ((l[j]'hjl).2 + 1) (l[j + 1]'hil).1 < 340282366920938463463374607431768211456 := top_lt hsm
        rw [halves_f v _ _ htm]
        simp only [bsome]
        have hne : topN ((l[j]'hjl).2 + 1) (l[j + 1]'hil).1 ≠ (l[j]'hjl).1 := by
          intro q
          have := topN_mod ((l[j]'hjl).2 + 1) (l[j + 1]'hil).1
          rw [q] at this
          exact hwh this
        have htr : rightP v (topN ((l[j]'hjl).2 + 1) (l[j + 1]'hil).1) ((widthN v : Int) - (((l[j]'hjl).2 + 1 : Nat) : Int)) = true := right_mk (Nat.lt_of_le_of_lt (topN_le _ _) hs) (by omega) (topN_mod _ _)
        rw [if_neg]
        · exact hrec _ (by omega)
        · unfold halvesS
          rw [if_pos htr]
          simp only [tup9]
          rw [if_neg (by omega)]
          simp only [Bool.and_eq_true]
          rintro ⟨⟨_, q2, q3⟩, _⟩
          have : (hi (topN ((l[j]'hjl).2 + 1) (l[j + 1]'hil).1) == hi (l[j]'hjl).1 && lo (topN ((l[j]'hjl).2 + 1) (l[j + 1]'hil).1) == lo (l[j]'hjl).1) = true := by rw [q2, q3]; rfl
          rw [hl_eq htm hjsm] at this
          exact hne (by simpa using this)
      · rw [if_neg he]; exact hrec _ (by omega)
theorem carveSpreads_f (v : Bool) (x : Nat) (u : Bool) (b : Nat) (t : Bool) (c : Nat) (hx : x < 340282366920938463463374607431768211456) (hb : b < 340282366920938463463374607431768211456) (hc : c < 340282366920938463463374607431768211456) :
    platbooklaw04_CarveSpreads.f 2500 v (hi x) (lo x) u (hi b) (lo b) t (hi c) (lo c) = some true := by
  unfold platbooklaw04_CarveSpreads.f
  rw [awakeSp_f]
  simp only [bsome, if_true]
  by_cases hg : goodSp v x u b
  · obtain ⟨h1, h2, rfl, h4⟩ := hg
    have hxw := rightB_iff.1 h1
    have hbw := rightB_iff.1 h2
    have hw := widthN_le v
    have hw2 := widthN_pos v
    obtain ⟨l, hl⟩ := run_ex (widthN v) b (b - x) x rfl h4
    have hlen := hl.short (by omega) hbw h4
    have hr := hl.runs
    have hc0 : ¬ cmpA v x v b > 0 := by have := (cmpA_le (v := v)).2 h4; omega
    have hl0 : 0 < l.length := hr.some
    have hf0 := hr.fit 0 hl0
    have e0 := hr.first hl0
    rw [spread_ok v x b ⟨h1, h2, rfl, h4⟩ hl (by omega), aright_hl v hx, aright_hl v hb]
    simp only [bsome]
    rw [h1, h2, if_pos rfl, if_pos rfl, if_neg (by simp), acmp_hl hx hb]
    simp only [bsome]
    have hlast := hr.last (by omega)
    have hfl := hr.fit (l.length - 1) (by omega)
    have hpl := Nat.two_pow_pos (l[l.length - 1]'(by omega)).2
    have hsl : (l[l.length - 1]'(by omega)).1 < 2 ^ widthN v := by omega
    rw [decide_eq_false hc0, show 2500 = 2499 + 1 from rfl, platbooklaw04_CarveSpreads.j0, if_neg (by decide), if_pos rfl, toS_len, if_neg (by omega), awidth_hl]
    simp only [bsome]
    rw [w64 (by omega) (by omega), if_neg (by omega), if_pos (by omega), show (0 : Int) = ((0 : Nat) : Int) from rfl, toS_at v l hl0, e0, first_f v _ _ hx,
      show firstS v x ((widthN v : Int) - ((l[0]'hl0).2 : Int)) = (v, x) from by unfold firstS; rw [if_pos (right_mk hxw hf0.le (by have := hf0.dvd; rw [e0] at this; exact this))]]
    simp only [bsome, tup3]
    rw [beq_self_eq_true, beq_self_eq_true, beq_self_eq_true, if_neg (by decide), w64 (by omega) (by omega), if_pos (by omega), if_pos (by omega), show (l.length : Int) - 1 = ((l.length - 1 : Nat) : Int) from by omega, toS_at v l (by omega), last_f v _ _ (Nat.lt_of_lt_of_le hsl (pow_w v)),
      show lastS v (l[l.length - 1]'(by omega)).1 ((widthN v : Int) - ((l[l.length - 1]'(by omega)).2 : Int)) = (v, b) from by unfold lastS; rw [if_pos (right_mk hsl hfl.le hfl.dvd), fr_sub v _ hfl.le]; congr 1; omega]
    simp only [bsome, tup3]
    rw [beq_self_eq_true, beq_self_eq_true, beq_self_eq_true, show 2499 = 2498 + 1 from rfl, platbooklaw04_CarveSpreads.j1, if_neg (by decide)]
    have := law_l0 v x b t c hbw h4 hc hr (by omega) l.length 0 2498 (by omega) (by omega)
    have e : hereL v b x l t c 0 = 0 := by
      unfold hereL
      rw [if_neg]
      rintro ⟨_, q1, q2⟩
      rw [startL_at hl0, e0] at q2
      omega
    rw [e] at this
    exact this
  · rw [spread_bad v x u b hx hb hg, aright_hl v hx, aright_hl u hb]
    simp only [bsome]
    have hj : platbooklaw04_CarveSpreads.j0 2500 [] 1 true v (hi x) (lo x) u (hi b) (lo b) t (hi c) (lo c) = some true := by
      rw [show 2500 = 2499 + 1 from rfl, platbooklaw04_CarveSpreads.j0, if_pos rfl, if_pos rfl]; rfl
    cases h1 : rightB v x
    · rw [if_neg (by decide)]; exact hj
    · rw [if_pos rfl]
      cases h2 : rightB u b
      · rw [if_neg (by decide)]; exact hj
      · rw [if_pos rfl]
        by_cases h3 : v = u
        · subst h3
          rw [if_neg (by simp), acmp_hl hx hb]
          simp only [bsome]
          have hc1 : cmpA v x v b > 0 := by
            rcases Int.lt_or_le 0 (cmpA v x v b) with k | k
            · exact k
            · exact absurd ⟨h1, h2, rfl, (cmpA_le (v := v)).1 k⟩ hg
          rw [decide_eq_true hc1]; exact hj
        · rw [if_pos (by simp [h3])]; exact hj
theorem carveSpreads_walk (v : Bool) (x : Nat) (u : Bool) (b : Nat) (t : Bool) (c : Nat) (w : World) (hx : x < 340282366920938463463374607431768211456) (hb : b < 340282366920938463463374607431768211456) (hc : c < 340282366920938463463374607431768211456) (hG : Glob w) :
    Calls Tryz.prog 11 #[AddrV v x, AddrV u b, AddrV t c] w fun e w' => e = .returned (.bool true) ∧ Below w.heap.size w w' :=
  platbooklaw04_CarveSpreads.calls 2500 v (hi x) (lo x) u (hi b) (lo b) t (hi c) (lo c) true w hG rfl (carveSpreads_f v x u b t c hx hb hc)
end Go.Proofs.YtgdgklibilddgaaGreatDoor

namespace Go.Proofs.YtgdgklibilddgaaGreatDoor
open Go.ChangeShapes Go.WideShapes Go.ChangeAt Go.RowKit

section
variable {H : Type} {enc : TypeId × Value → H} {P : Program}
theorem post_below {f : Func} {s : ChangeSpec} {apart fresh handsOn again : Bool} {W W' : World} {args : Array Value} {v : Value} {ds gs : List (DataW H)} {before pa pv : List MemPlace}
    (hW : DataW.Whole enc P f.params.toList s.vars apart W args.toList ds gs before)
    (hres : ∀ (b : Nat) (sp : Nat → Bool) (hd : Bool), DataW.TrodAll enc P W' b sp hd f.resultTypes.toList (v.resultList f.resultTypes.size) (s.fn H (ds ++ gs)).results [])
    (hargs : ∀ sp : Nat → Bool, (∀ p ∈ before, sp p.block = true) → DataW.TrodAll enc P W' 0 sp true f.params.toList args.toList (s.fn H (ds ++ gs)).args pa)
    (hvars : ∀ sp : Nat → Bool, (∀ p ∈ before, sp p.block = true) → DataW.TrodVars enc P W' sp s.vars (s.fn H (ds ++ gs)).vars pv)
    (hps : before = pa ++ pv) (hb : Below W.heap.size W W')
    (hok : ∀ (j : Nat) (t : TypeId) (r : Value), f.resultTypes[j]? = some t → (v.resultList f.resultTypes.size)[j]? = some r → Value.okWide P W' .any 0 t r) :
    s.post enc P f apart fresh handsOn again W args v W' := by
  have hlt : ∀ p ∈ before, p.block < W.heap.size := fun p hp => hW.lt p hp
  have hold : ∀ p ∈ before, (fun b => decide (b < W.heap.size)) p.block = true := fun p hp => by simpa using hlt p hp
  refine ⟨ds, gs, before, [], pa, pv, hW, hres _ _ _, hargs _ hold, hvars _ hold, World.keptBut_mono (fun p hp => ⟨hp, ?_⟩) (hb.frame (· ∈ before)), fun _ => ?_⟩
  · rw [hps, List.mem_append] at hp
    exact Or.inr hp
  · obtain ⟨_, _, _, _, _, hz, hn⟩ := hW
    refine ⟨hok, _, _, ([] ++ pa) ++ pv, ⟨[] ++ pa, pv, trodAll_append (hargs _ (fun _ _ => rfl)) (hres _ _ _), hvars _ (fun _ _ => rfl), rfl, ?_, ?_⟩, ?_⟩
    · intro b off hp
      have hin : MemPlace.cell b off ∈ before := by rw [hps]; simpa using hp
      rw [hb.frozen (hlt _ hin)]
      exact hz b off hin
    · intro ha
      have := hn ha
      rw [hps] at this
      simpa using this
    · intro p hp _
      rw [hps]
      simpa using hp
end

theorem Tryz.own : ownKnob Tryz.prog.godebug = none := by kernel_rfl
theorem u64_bd {n : Int} (h : (Lit.int .u64 n).wf = true) : 0 ≤ n ∧ n < 18446744073709551616 := by
  simp [Lit.wf, IntKind.min, IntKind.max, IntKind.bits, IntKind.signed] at h
  omega
end Go.Proofs.YtgdgklibilddgaaGreatDoor

namespace Go.Proofs.YtgdgklibilddgaaGreatDoor
open Go.RowKit

def listA : List (String × DataW Unit) := [("math/bits.deBruijn32tab", Rows.laid_math_bits_deBruijn32tab), ("math/bits.deBruijn64tab", Rows.laid_math_bits_deBruijn64tab), ("internal/strconv.uint64pow10", Rows.laid_internal_strconv_uint64pow10), ("unicode/utf8.acceptRanges", Rows.laid_unicode_utf8_acceptRanges), ("strconv.ErrRange", Rows.laid_strconv_ErrRange), ("strconv.ErrSyntax", Rows.laid_strconv_ErrSyntax), ("unicode/utf8.first", Rows.laid_unicode_utf8_first)]
theorem doorA_met (os : Os) (args : Array Value) : laidMetH Tryz.prog listA ((World.laidAll Tryz.prog os listA).forCall (fun _ _ => 0) ⟨#[], args, []⟩).memory := by
  rw [MakeChecks.laidMetH_plain _ _ _ (by kernel_rfl)]; exact laidMet_laidAll _ (by kernel_rfl) (by kernel_rfl)
def tabZ : List Int := Lib.deBruijn64tab.map Int.ofNat
theorem listA_tab : (Rows.laid_math_bits_deBruijn64tab : DataW Unit) = Lib.tabData .u8 tabZ := by kernel_rfl
theorem listA_pow : (Rows.laid_internal_strconv_uint64pow10 : DataW Unit) = Lib.tabData .u64 Lib.pow10Tab := by kernel_rfl
theorem err_star : "*" ++ "errors.errorString" = "*errors.errorString" := by decide
theorem err_name (u : TypeId) (h : Tryz.prog.typeName? 3 u = some "*errors.errorString") : u = 170 :=
  typeName_ptr_named (nm := "errors.errorString") (by rw [err_star]; kernel_rfl) (by kernel_rfl) (by decide) u (by rw [err_star]; exact h)
theorem glob_of {W : World} (h : laidMetH Tryz.prog listA W) (hs : W.ShapedOpen Tryz.prog) : Glob W := by
  rw [MakeChecks.laidMetH_plain _ _ _ (by kernel_rfl)] at h
  unfold listA at h
  have h2 := h.tail
  have h3 := h2.tail
  have h5 := h3.tail.tail
  have h6 := h5.tail
  rw [listA_tab] at h2
  rw [listA_pow] at h3
  refine ⟨?_, ?_, ?_, ?_, ?_⟩
  · exact cell_of_shapedOpen_int (g := 0) (t := 3) (zero := #[.int .i64 0]) hs (of_decide_eq_true (by kernel_rfl)) (by kernel_rfl) rfl (by kernel_rfl) (by kernel_rfl) Tryz.underlying3
  · obtain ⟨a, s, hv, _⟩ := laid_sentinel h6 (g := 1) (by kernel_rfl) (by kernel_rfl) Tryz.underlying83 err_name Tryz.underlying170 Tryz.underlying172 rfl rfl Tryz.underlying9 (by kernel_rfl) (by kernel_rfl)
    exact ⟨_, _, hv⟩
  · obtain ⟨a, s, hv, _⟩ := laid_sentinel h5 (g := 2) (by kernel_rfl) (by kernel_rfl) Tryz.underlying83 err_name Tryz.underlying170 Tryz.underlying172 rfl rfl Tryz.underlying9 (by kernel_rfl) (by kernel_rfl)
    exact ⟨_, _, hv⟩
  · exact Lib.tabIs_of_head (P := Tryz.prog) (g := 3) (t := 174) (e := 22) (n := 20) (by kernel_rfl) (by kernel_rfl) Tryz.underlying174 Tryz.underlying22 (by kernel_rfl) (by kernel_rfl) h3
  · have hT := Lib.tabIs_of_head (P := Tryz.prog) (g := 5) (t := 185) (e := 5) (n := 64) (by kernel_rfl) (by kernel_rfl) Tryz.underlying185 Tryz.underlying5 (by kernel_rfl) (by kernel_rfl) h2
    intro j hj
    have hc := hT.cell (g := 5) (by kernel_rfl) j (by unfold tabZ; rw [List.length_map, show Lib.deBruijn64tab.length = 64 by decide]; exact hj)
    rw [hc]
    have e : tabZ.getD j 0 = ((Lib.deBruijn64tab.getD j 0 : Nat) : Int) := by
      unfold tabZ
      simp only [List.getD_eq_getElem?_getD, List.getElem?_map]
      cases Lib.deBruijn64tab[j]? <;> rfl
    rw [e]
/-- the plain wrap with the row's condition and the start's shape -/
theorem lift_shaped {H : Type} {enc : TypeId × Value → H} {C : Checked} {os : Os} {f : FuncId} {fn : Func} {s : ChangeSpec} {X : World → Array Value → Prop}
    (hX : ∀ (w w' : World) (args : Array Value), w.heap = w'.heap → X w args → X w' args)
    (own : ownKnob C.prog.godebug = none) (started : os.Started) (noInit : C.prog.inits.idxOf? f = none) (hfn : C.prog.funcs[f]? = some fn)
    (witness : ∃ (w : World) (tape : Tape) (i : Input), w.os = os ∧ (w.forCall tape i).Shaped C.prog ∧ i.vars = [] ∧ Input.okWide C.prog (w.forCall tape i) .any w.heap.size f i ∧
      ((s.pre enc C.prog fn [] false (w.forCall tape i).memory i.args ∧ X (w.forCall tape i).memory i.args) ∧ sizedMet enc C.prog fn (OpenSpec.ofChange s) false (w.forCall tape i).memory i.args) ∧ ({} : Assume).holds C.prog (lone (Frame.enter C.prog f i.args .normal) [] (w.forCall tape i)))
    (contract : ∀ (W : World) (base : Nat) (args : Array Value) (ds gs : List (DataW H)) (before : List MemPlace),
      (∀ (j : Nat) t v, fn.params[j]? = some t → args[j]? = some v → Value.okWide C.prog W .any base t v) →
      DataW.Whole enc C.prog fn.params.toList s.vars false W args.toList ds gs before → X W args → W.ShapedOpen C.prog →
      Calls C.prog f args W fun e W' => ∃ v, e = .returned v ∧ s.post enc C.prog fn false true false false W args v W') :
    ReturnsInHanded {} C os f .any (fun w args => (s.pre enc C.prog fn [] false w args ∧ X w args) ∧ sizedMet enc C.prog fn (OpenSpec.ofChange s) false w args) (s.post enc C.prog fn false true false false) := by
  refine returnsInHanded_of_calls own started noInit witness ?_
  intro w tape i _ hshape _ hok hpre _
  obtain ⟨_, _, _, fn2, hfn2, _, _, _, _, hval⟩ := hok
  obtain rfl : fn2 = fn := Option.some.inj (hfn2.symm.trans hfn)
  obtain ⟨⟨⟨ds, gs, before, hw, _⟩, hx⟩, _⟩ := hpre
  refine (contract (w.forCall tape i) w.heap.size i.args ds gs before hval (DataW.Whole.of_heap (w' := w.forCall tape i) (by rfl) hw) (hX _ _ _ (by rfl) hx) hshape).mono fun e W' ⟨v, he, hp⟩ => ?_
  subst he
  exact ChangeSpec.post_blind hp
end Go.Proofs.YtgdgklibilddgaaGreatDoor

namespace Go.Proofs.YtgdgklibilddgaaGreatDoor
open Go.ChangeShapes Go.WideShapes Go.ChangeAt Go.RowKit Go.Joins

theorem Tryz.cellsNum : Tryz.prog.cellsOf 24 = 2 := by kernel_rfl

end Go.Proofs.YtgdgklibilddgaaGreatDoor

namespace Go.Proofs.YtgdgklibilddgaaGreatDoor
open Go.ChangeShapes Go.WideShapes Go.ChangeAt Go.RowKit Go.Joins

set_option maxRecDepth 100000 in
theorem Tryz.cellsAddr : Tryz.prog.cellsOf 26 = 3 := by kernel_rfl
def numD {H : Type} (n : Nat) : DataW H := .agg [.lit (.int .u64 (hi n)), .lit (.int .u64 (lo n))]
def addrD {H : Type} (v : Bool) (n : Nat) : DataW H := .agg [.lit (.bool v), numD n]
/-- the number's words are in their bounds -/
def numOk (n : Nat) : Prop := (Lit.int .u64 (hi n)).wf = true ∧ (Lit.int .u64 (lo n)).wf = true

set_option maxRecDepth 100000 in
theorem trod_bool_form {H : Type} {enc : TypeId × Value → H} {P : Program} {w : World} {base : Nat} {sp : Nat → Bool} {held : Bool} {fuel : Nat} {t : TypeId} {c : Value} {x : DataW H × List MemPlace} (ht : P.underlying t = some .bool)
    (h : DataW.trod enc P w base sp held fuel t [c] = some x) : ∃ b, c = .bool b ∧ x = (.lit (.bool b), []) := by
  cases fuel with
  | zero => simp [DataW.trod] at h
  | succ fuel =>
    simp only [DataW.trod, ht] at h
    split at h
    · rename_i e1 e2
      simp at e2
      subst e2
      exact ⟨_, rfl, (Option.some.inj h).symm⟩
    all_goals first | (rename_i e1 _; cases e1; done) | (cases h; done) | skip
    all_goals simp_all
set_option maxRecDepth 100000 in
theorem trod_num_form {H : Type} {enc : TypeId × Value → H} {W : World} {base : Nat} {sp : Nat → Bool} {held : Bool} {fuel : Nat} {c0 c1 : Value} {x : DataW H × List MemPlace}
    (h : DataW.trod enc Tryz.prog W base sp held fuel 24 [c0, c1] = some x) : ∃ n : Nat, n < 340282366920938463463374607431768211456 ∧ c0 = .int .u64 (hi n) ∧ c1 = .int .u64 (lo n) ∧ x = (numD n, []) ∧ numOk n := by
  obtain ⟨y0, y1, m, rfl, _, h0, h1⟩ := trod_struct2 Tryz.underlying24 h
  have h0' : DataW.trod enc Tryz.prog W base sp held m 22 [c0] = some y0 := h0
  have h1' : DataW.trod enc Tryz.prog W base sp held m 22 [c1] = some y1 := h1
  obtain ⟨a, e0, rfl, wa⟩ := DataW.trod_int Tryz.underlying22 h0'
  obtain ⟨b, e1, rfl, wb⟩ := DataW.trod_int Tryz.underlying22 h1'
  simp at e0 e1
  subst e0 e1
  obtain ⟨a0, a1⟩ := u64_bd wa
  obtain ⟨b0', b1⟩ := u64_bd wb
  refine ⟨num a b, num_lt a1 b1, ?_, ?_, ?_, ?_, ?_⟩
  · rw [hi_num a0 a1 b0' b1]
  · rw [lo_num b0' b1]
  · unfold numD; rw [hi_num a0 a1 b0' b1, lo_num b0' b1]; rfl
  · rw [hi_num a0 a1 b0' b1]; exact wa
  · rw [lo_num b0' b1]; exact wb
set_option maxRecDepth 100000 in
theorem trod_num_mk {H : Type} {enc : TypeId × Value → H} {W : World} {base : Nat} {sp : Nat → Bool} {held : Bool} {n : Nat} (h : numOk n) : DataW.trod enc Tryz.prog W base sp held 2 24 [.int .u64 (hi n), .int .u64 (lo n)] = some (numD n, []) := by
  obtain ⟨wa, wb⟩ := h
  have := trod_struct2_mk (enc := enc) (w := W) (base := base) (spare := sp) (held := held) (n := 1) (cs := [.int .u64 (hi n), .int .u64 (lo n)]) (y0 := (.lit (.int .u64 (hi n)), [])) (y1 := (.lit (.int .u64 (lo n)), [])) Tryz.underlying24 Tryz.cellsNum.symm
    (by show DataW.trod enc Tryz.prog W base sp held 1 22 [.int .u64 (hi n)] = _; simp [DataW.trod, Tryz.underlying22, wa])
    (by show DataW.trod enc Tryz.prog W base sp held 1 22 [.int .u64 (lo n)] = _; simp [DataW.trod, Tryz.underlying22, wb])
  exact this
set_option maxRecDepth 100000 in
theorem trod_addr_form {H : Type} {enc : TypeId × Value → H} {W : World} {base : Nat} {sp : Nat → Bool} {held : Bool} {fuel : Nat} {c0 c1 c2 : Value} {x : DataW H × List MemPlace}
    (h : DataW.trod enc Tryz.prog W base sp held fuel 26 [c0, c1, c2] = some x) : ∃ (v : Bool) (n : Nat), n < 340282366920938463463374607431768211456 ∧ c0 = .bool v ∧ c1 = .int .u64 (hi n) ∧ c2 = .int .u64 (lo n) ∧ x = (addrD v n, []) ∧ numOk n := by
  obtain ⟨y0, y1, m, rfl, _, h0, h1⟩ := trod_struct2 Tryz.underlying26 h
  have h0' : DataW.trod enc Tryz.prog W base sp held m 4 [c0] = some y0 := h0
  have h1' : DataW.trod enc Tryz.prog W base sp held m 24 [c1, c2] = some y1 := h1
  obtain ⟨v, rfl, rfl⟩ := trod_bool_form Tryz.underlying4 h0'
  obtain ⟨n, hn, rfl, rfl, rfl, ho⟩ := trod_num_form h1'
  exact ⟨v, n, hn, rfl, rfl, rfl, rfl, ho⟩
set_option maxRecDepth 100000 in
theorem trod_addr_mk {H : Type} {enc : TypeId × Value → H} {W : World} {base : Nat} {sp : Nat → Bool} {held : Bool} {v : Bool} {n : Nat} (h : numOk n) : DataW.trod enc Tryz.prog W base sp held 3 26 [.bool v, .int .u64 (hi n), .int .u64 (lo n)] = some (addrD v n, []) := by
  have := trod_struct2_mk (enc := enc) (w := W) (base := base) (spare := sp) (held := held) (n := 2) (cs := [.bool v, .int .u64 (hi n), .int .u64 (lo n)]) (y0 := (.lit (.bool v), [])) (y1 := (numD n, [])) Tryz.underlying26 Tryz.cellsAddr.symm
    (by show DataW.trod enc Tryz.prog W base sp held 2 4 [.bool v] = _; simp [DataW.trod, Tryz.underlying4])
    (trod_num_mk h)
  exact this
set_option maxRecDepth 100000 in
/-- an address as an argument -/
theorem open_addr {H : Type} {enc : TypeId × Value → H} {W : World} {base b0 : Nat} {sp : Nat → Bool} {v : Value} {d : DataW H} {p : List MemPlace} {r : Reach}
    (hv : Value.okWide Tryz.prog W r b0 26 v) (h : DataW.Trod enc Tryz.prog W base sp true 26 v d p) :
    ∃ (u : Bool) (n : Nat), n < 340282366920938463463374607431768211456 ∧ v = AddrV u n ∧ d = addrD u n ∧ p = [] ∧ numOk n := by
  obtain ⟨cs, rfl, hsz⟩ := okWide_struct Tryz.underlying26 hv
  obtain ⟨c0, c1, c2, rfl⟩ := array3 (hsz.trans Tryz.cellsAddr)
  obtain ⟨fuel, hf⟩ := h
  obtain ⟨u, n, hn, rfl, rfl, rfl, e, ho⟩ := trod_addr_form hf
  simp only [Prod.mk.injEq] at e
  exact ⟨u, n, hn, rfl, e.1, e.2, ho⟩
set_option maxRecDepth 100000 in
theorem shut_addr {H : Type} {enc : TypeId × Value → H} {W : World} {base : Nat} {sp : Nat → Bool} {u : Bool} {n : Nat} (h : numOk n) :
    DataW.Trod enc Tryz.prog W base sp true 26 (AddrV u n) (addrD u n) [] := ⟨3, trod_addr_mk h⟩
end Go.Proofs.YtgdgklibilddgaaGreatDoor

namespace Go.Proofs.YtgdgklibilddgaaGreatDoor
open Go.ChangeShapes Go.WideShapes Go.ChangeAt Go.RowKit
open Go.ChangeMaps (open_string shut_string)

set_option maxRecDepth 100000 in
theorem carveSpreads_lifted (os : Os) (started : os.Started) (H : Type) (enc : TypeId × Value → H) :
    ReturnsInHanded {} Tryz.checked os 11 .any (fun w args => (Rows.carveSpreadsSpec.pre enc Tryz.prog Tryz.f11 [] false w args ∧ laidMetH Tryz.prog listA w) ∧ sizedMet enc Tryz.prog Tryz.f11 (OpenSpec.ofChange Rows.carveSpreadsSpec) false w args)
      (Rows.carveSpreadsSpec.post enc Tryz.prog Tryz.f11 false true false false) := by
  refine lift_shaped (C := Tryz.checked) (X := fun w _ => laidMetH Tryz.prog listA w) (fun _ _ _ hh h => h.of_heap hh) Tryz.own started (by kernel_rfl) Tryz.func11
    (ChangeSpec.witness_shaped (enc := enc) (C := Tryz.checked) (os := os) (X := fun w _ => laidMetH Tryz.prog listA w) false (World.laidAll Tryz.prog os listA) #[.agg #[.bool false, .int .u64 0, .int .u64 0], .agg #[.bool false, .int .u64 0, .int .u64 0], .agg #[.bool false, .int .u64 0, .int .u64 0]] 8 (World.laidAll_os _ _ _) (World.shaped_of_ZipB (by kernel_rfl) (by kernel_rfl)) (by kernel_rfl) (by kernel_rfl) (by kernel_rfl) (doorA_met os _)) ?_
  intro W base args ds gs before hval0 hW hL hSh
  have hval : ∀ (j : Nat) t v, Tryz.f11.params[j]? = some t → args[j]? = some v → Value.okWide Tryz.prog W .any base t v := hval0
  have hW' := hW
  obtain ⟨p, q, hA0, hV, rfl, _, _⟩ := hW
  have hA : DataW.TrodAll enc Tryz.prog W 0 (fun _ => true) true Tryz.f11.params.toList args.toList ds p := hA0
  rw [Tryz.params11] at hA hval
  obtain ⟨v0, v1, v2, d0, d1, d2, p0, p1, p2, rfl, rfl, rfl, h0, h1, h2⟩ := trodAll_three hA
  obtain ⟨rfl, rfl⟩ := trodVars_none hV
  obtain ⟨u0, x0, hx0, rfl, rfl, rfl, ho0⟩ := open_addr (hval 0 26 v0 rfl rfl) h0
  obtain ⟨u1, x1, hx1, rfl, rfl, rfl, ho1⟩ := open_addr (hval 1 26 v1 rfl rfl) h1
  obtain ⟨u2, x2, hx2, rfl, rfl, rfl, ho2⟩ := open_addr (hval 2 26 v2 rfl rfl) h2
  clear hA0 hval0
  simp only [List.append_nil] at hW'
  refine (carveSpreads_walk u0 x0 u1 x1 u2 x2 W hx0 hx1 hx2 (glob_of hL hSh)).mono fun e W' ⟨he, hw⟩ => ?_
  subst he
  exact ⟨_, rfl, post_below (pa := []) (pv := []) hW' (fun _ _ _ => trodAll_mk1 (shut_bool Tryz.underlying4 _)) (fun sp _ => trodAll_mk3 (shut_addr ho0) (shut_addr ho1) (shut_addr ho2)) (fun _ _ => rfl) rfl
    hw (ok_one (by kernel_rfl) rfl (okWide_bool_mk Tryz.underlying4 _))⟩

theorem carveSpreads_row : Rows.CarveSpreadsSaid :=
  OpenClaim.holds_of_wide 11 Tryz.f11 rfl rfl rfl rfl rfl rfl rfl ⟨rfl, rfl, rfl, rfl, rfl⟩ rfl rfl rfl rfl rfl (by kernel_rfl) Tryz.func11 (by kernel_rfl)
    (of_decide_eq_true (by kernel_rfl)) (by unfold Func.isWrapper; first | (rw [if_pos (by decide +kernel)]; kernel_rfl) | (rw [if_neg (by decide +kernel)]; exact ⟨rfl, rfl⟩))
    (fun os started H enc _ => carveSpreads_lifted os started H enc)

theorem carveSpreads_card : Rows.CarveSpreadsCardSaid :=
  Claim7.holds_tied_plain_at .later [] [.data, .data, .data, .data, .sentinel, .sentinel, .pinned] true Rows.carveSpreadsCard.stood.harness true
    carveSpreads_row (fun _ h => by cases h) (by kernel_rfl) (fun _ h => by cases h) carveSpreads_row_tie rfl ⟨rfl, rfl⟩ (by kernel_rfl) rfl
    (fun f fn hf hfn => by
      obtain rfl : f = 11 := Option.some.inj ((show Tryz.prog.funcNamed "platbook/platbooklaw04.CarveSpreads" = some 11 by kernel_rfl).symm.trans hf) |>.symm
      obtain rfl : fn = Tryz.f11 := (Option.some.inj (Tryz.func11.symm.trans hfn)).symm
      exact ⟨by kernel_rfl, fun j t ht => by
        rw [Tryz.params11] at ht
        have hm : t ∈ [26, 26, 26] := by simpa using Array.mem_of_getElem? ht
        have hall : ([26, 26, 26].all fun u => !Tryz.prog.wantsStandIn u) = true := by kernel_rfl
        exact (show Tryz.prog.wantsStandIn t = false by simpa using List.all_eq_true.1 hall t hm)⟩)
    (by kernel_rfl)
end Go.Proofs.YtgdgklibilddgaaGreatDoor

#print axioms Go.Proofs.YtgdgklibilddgaaGreatDoor.carveSpreads_card
