/-
CarveSpans: the blocks that overlap a second prefix are just those from the first that is told to the last: for every two prefixes, number of bits and number the call returns true. No condition; the listed variables are tied to the program's text.
-/
import Derived.ProofKit
import Derived.ChangeSame
import Derived.LaidMore
import Derived.Lay
import Derived.MakeChecks
import Derived.LaidByTextLater
import Derived.OpenShut
import Derived.Stop.Joined
import Derived.Stop.LaidErr
import Derived.Handed
import Derived.Shelf.Vars
import Derived.Lib.SmallJoins
import Derived.Carry
import Derived.SevenTiedAt
import Derived.ShutString
import Derived.Test.YtgdgklibilddgaaGreatDoorSpaM4
import Derived.Test.YtgdgklibilddgaaGreatDoorRows
import Derived.Test.YtgdgklibilddgaaGreatDoorCards
import Derived.Test.YtgdgklibilddgaaGreatDoorTie
set_option linter.unusedVariables false
set_option linter.unusedSimpArgs false
namespace Go.Proofs.YtgdgklibilddgaaGreatDoor
open Go.RowKit Go.Proofs.YtgdgklibilddgaaGreatDoorW.PrintWords Go.Proofs.YtgdgklibilddgaaGreatDoor.PPr

/-- the lowest d bits, the lowest one first -/
def rowL : Nat → Nat → List Int
  | _, 0 => []
  | x, d + 1 => ((x % 2 : Nat) : Int) :: rowL (x / 2) d
theorem rowL_succ (x d : Nat) : rowL x (d + 1) = ((x % 2 : Nat) : Int) :: rowL (x / 2) d := rfl
theorem bit_nat {b : Int} (h : b = 0 ∨ b = 1) : ∃ c : Nat, b = (c : Int) ∧ c ≤ 1 := by
  rcases h with rfl | rfl
  · exact ⟨0, rfl, by omega⟩
  · exact ⟨1, rfl, by omega⟩
theorem rowL_len : ∀ (d x : Nat), (rowL x d).length = d
  | 0, _ => rfl
  | d + 1, x => by simp [rowL, rowL_len d]
theorem rowL_add : ∀ (a b x : Nat), rowL x (a + b) = rowL x a ++ rowL (x / 2 ^ a) b
  | 0, b, x => by simp [rowL]
  | a + 1, b, x => by
    rw [show a + 1 + b = (a + b) + 1 by omega, rowL, rowL_add a b, rowL, List.cons_append, Nat.div_div_eq_div_mul, Nat.pow_succ, Nat.mul_comm 2]
theorem rowL_mod : ∀ (a h l : Nat), rowL (h * 2 ^ a + l) a = rowL l a
  | 0, _, _ => rfl
  | a + 1, h, l => by
    have e : h * 2 ^ (a + 1) = 2 * (h * 2 ^ a) := by rw [Nat.pow_succ]; rw [← Nat.mul_assoc, Nat.mul_comm 2]
    rw [rowL, rowL, show (h * 2 ^ (a + 1) + l) % 2 = l % 2 by omega, show (h * 2 ^ (a + 1) + l) / 2 = h * 2 ^ a + l / 2 by omega, rowL_mod a h]
theorem rowL_join {a b h l : Nat} (hl : l < 2 ^ a) : rowL (h * 2 ^ a + l) (a + b) = rowL l a ++ rowL h b := by
  rw [rowL_add, rowL_mod]
  congr 2
  rw [Nat.mul_comm, Nat.mul_add_div (Nat.two_pow_pos a), Nat.div_eq_of_lt hl, Nat.add_zero]
theorem rowL_bit : ∀ (d x : Nat), ∀ b ∈ rowL x d, b = 0 ∨ b = 1
  | 0, _, b, h => by cases h
  | d + 1, x, b, h => by
    rw [rowL] at h
    rcases List.mem_cons.1 h with rfl | h
    · omega
    · exact rowL_bit d (x / 2) b h
theorem tmod2 (x : Nat) : wrap64 (Int.tmod (x : Int) 2) = ((x % 2 : Nat) : Int) := by
  rw [Int.tmod_eq_emod_of_nonneg (by omega)]; unfold wrap64; omega
theorem tdiv2 (x : Nat) (h : x < 18446744073709551616) : IntKind.u64.wrap (Int.tdiv (x : Int) 2) = ((x / 2 : Nat) : Int) := by
  rw [Int.tdiv_eq_ediv_of_nonneg (by omega)]
  show ((x : Int) / 2) % 18446744073709551616 = _
  omega
theorem w64 {i : Int} (h0 : -9223372036854775808 ≤ i) (h : i < 9223372036854775808) : wrap64 i = i := by unfold wrap64; omega
theorem pbits_l1 (d : Nat) : ∀ (k : Nat) (acc : List Int) (x : Nat), d ≤ 64 → x < 18446744073709551616 → acc.length + d ≤ 1000 → platbookref01_Bits.l1 (k + d + 1) acc x (64 - (d : Int)) = some (acc ++ rowL x d) := by
  induction d with
  | zero => intro k acc x _ _ _; rw [platbookref01_Bits.l1, if_neg (by omega)]; simp [rowL]
  | succ d ih =>
    intro k acc x hd hx ha
    rw [show k + (d + 1) + 1 = (k + d + 1) + 1 by omega, platbookref01_Bits.l1, if_pos (by omega), if_pos (by omega), tmod2, tdiv2 x hx, w64 (by omega) (by omega), show (64 : Int) - ((d + 1 : Nat) : Int) + 1 = 64 - (d : Int) by omega, ih k _ (x / 2) (by omega) (by omega) (by simp; omega), rowL_succ x d]
    simp
theorem pbits_l0 (d : Nat) : ∀ (k : Nat) (acc : List Int) (x h : Nat), d ≤ 64 → x < 18446744073709551616 → h < 18446744073709551616 → acc.length + d + 64 ≤ 1000 → platbookref01_Bits.l0 (k + d + 66) acc x h (64 - (d : Int)) = some (acc ++ rowL x d ++ rowL h 64) := by
  induction d with
  | zero =>
    intro k acc x h _ _ hh ha
    rw [show k + 0 + 66 = (k + 64 + 1) + 1 by omega, platbookref01_Bits.l0, if_neg (by omega)]
    have := pbits_l1 64 k acc h (by omega) hh (by omega)
    rw [show (64 : Int) - ((64 : Nat) : Int) = 0 by omega] at this
    rw [this]; simp [rowL]
  | succ d ih =>
    intro k acc x h hd hx hh ha
    rw [show k + (d + 1) + 66 = (k + d + 66) + 1 by omega, platbookref01_Bits.l0, if_pos (by omega), if_pos (by omega), tmod2, tdiv2 x hx, w64 (by omega) (by omega), show (64 : Int) - ((d + 1 : Nat) : Int) + 1 = 64 - (d : Int) by omega, ih k _ (x / 2) h (by omega) (by omega) hh (by simp; omega), rowL_succ x d]
    simp
theorem pbits_f (k n : Nat) (hn : n < 340282366920938463463374607431768211456) : platbookref01_Bits.f (k + 130) (hi n) (lo n) = some (rowL n 128) := by
  unfold platbookref01_Bits.f hi lo
  have := pbits_l0 64 k [] (n % 18446744073709551616) (n / 18446744073709551616 % 18446744073709551616) (by omega) (by omega) (by omega) (by simp)
  rw [show (64 : Int) - ((64 : Nat) : Int) = 0 by omega] at this
  rw [show k + 130 = k + 64 + 66 by omega, this]
  have e := rowL_join (a := 64) (b := 64) (h := n / 18446744073709551616 % 18446744073709551616) (l := n % 18446744073709551616) (Nat.mod_lt _ (by decide))
  rw [show (2 : Nat) ^ 64 = 18446744073709551616 by decide, show n / 18446744073709551616 % 18446744073709551616 * 18446744073709551616 + n % 18446744073709551616 = n by omega] at e
  rw [List.nil_append, ← e]
/-- an address's bits, the highest one first -/
def rowT (n w : Nat) : List Int := (rowL n w).reverse
theorem prow_l0 (j : Nat) : ∀ (k : Nat) (xs acc : List Int), j ≤ xs.length → xs.length ≤ 1000 → acc.length + j ≤ 1000 → platbookref03_Row.l0 (k + j + 1) xs acc ((j : Int) - 1) = some (acc ++ (xs.take j).reverse) := by
  induction j with
  | zero => intro k xs acc _ _ _; rw [platbookref03_Row.l0, if_neg (by omega)]; simp
  | succ j ih =>
    intro k xs acc hj hx ha
    have e : rd xs (((j + 1 : Nat) : Int) - 1) = xs[j] := by
      unfold rd; rw [show ((((j + 1 : Nat) : Int) - 1)).toNat = j by omega]; simp [List.getD, List.getElem?_eq_getElem (show j < xs.length by omega)]
    rw [show k + (j + 1) + 1 = (k + j + 1) + 1 by omega, platbookref03_Row.l0, if_pos (by omega), if_pos (by omega), if_pos (by omega), if_pos (by omega), w64 (by omega) (by omega), e, show ((j + 1 : Nat) : Int) - 1 - 1 = (j : Int) - 1 by omega, ih k xs _ (by omega) hx (by simp; omega), List.take_succ_eq_append_getElem (show j < xs.length by omega), List.reverse_append]
    simp
theorem width_hl (v : Bool) (n : Nat) : platbookref02_Width.f v (hi n) (lo n) = some ((widthN v : Nat) : Int) := by
  unfold platbookref02_Width.f; rw [if_pos (by simpa using okW_hl n)]
theorem widthN_le (v : Bool) : widthN v ≤ 128 := by cases v <;> decide
theorem widthN_pos (v : Bool) : 32 ≤ widthN v := by cases v <;> decide
theorem prow_f (k : Nat) (v : Bool) (n : Nat) (hn : n < 340282366920938463463374607431768211456) : platbookref03_Row.f (k + 300) v (hi n) (lo n) = some (rowT n (widthN v)) := by
  unfold platbookref03_Row.f
  rw [show k + 300 = (k + 170) + 130 by omega, pbits_f _ n hn, width_hl]
  simp only [Option.bind_some]
  have hw := widthN_le v
  have hp := widthN_pos v
  rw [w64 (by omega) (by omega), show k + 170 + 130 = (k + 299 - widthN v) + widthN v + 1 by omega, prow_l0 _ _ _ _ (by rw [rowL_len]; exact hw) (by rw [rowL_len]; omega) (by simp; omega)]
  have e : rowL n 128 = rowL n (widthN v) ++ rowL (n / 2 ^ widthN v) (128 - widthN v) := by rw [← rowL_add]; congr 1; omega
  rw [e, List.take_left' (rowL_len _ _)]; rfl
/-- the number of a row of bits, the lowest one first -/
def valL : List Int → Nat
  | [] => 0
  | b :: r => b.toNat + 2 * valL r
theorem valL_append : ∀ (a b : List Int), valL (a ++ b) = valL a + 2 ^ a.length * valL b
  | [], b => by simp [valL]
  | x :: a, b => by rw [List.cons_append, valL, valL, valL_append a b, List.length_cons, Nat.pow_succ, Nat.mul_add]; rw [Nat.mul_comm (2 ^ a.length) 2, Nat.mul_assoc]; omega
theorem valL_lt : ∀ (a : List Int), (∀ b ∈ a, b = 0 ∨ b = 1) → valL a < 2 ^ a.length
  | [], _ => by simp [valL]
  | x :: a, h => by
    have h1 := valL_lt a (fun b hb => h b (by simp [hb]))
    have h2 := h x (by simp)
    rw [valL, List.length_cons, Nat.pow_succ]
    rcases h2 with rfl | rfl
    · simp; omega
    · simp; omega
theorem valL_row : ∀ (d x : Nat), valL (rowL x d) = x % 2 ^ d
  | 0, x => by simp [rowL, valL, Nat.mod_one]
  | d + 1, x => by
    rw [rowL, valL, valL_row d, Nat.pow_succ, Nat.mul_comm (2 ^ d) 2, Nat.mod_mul]
    omega
theorem valL_rep (d : Nat) : valL (List.replicate d 0) = 0 := by
  induction d with
  | zero => rfl
  | succ d ih => rw [List.replicate_succ, valL, ih]; rfl
theorem valL_ones (d : Nat) : valL (List.replicate d 1) = 2 ^ d - 1 := by
  induction d with
  | zero => rfl
  | succ d ih => rw [List.replicate_succ, valL, ih, Nat.pow_succ]; have := Nat.two_pow_pos d; simp; omega
theorem u64w {x : Nat} (h : x < 18446744073709551616) : IntKind.u64.wrap (x : Int) = (x : Int) := by show (x : Int) % 18446744073709551616 = _; omega
theorem pnum_l1 (j : Nat) : ∀ (k : Nat) (L : List Int) (H x : Nat), (∀ b ∈ L, b = 0 ∨ b = 1) → L.length ≤ 1000 → j ≤ 1000 → x * 2 ^ j + valL (L.take j) < 18446744073709551616 → platbookref01_Num.l1 (k + j + 1) L ((j : Int) - 1) H x = some ((H : Int), ((x * 2 ^ j + valL (L.take j) : Nat) : Int)) := by
  induction j with
  | zero => intro k L H x _ _ _ _; rw [platbookref01_Num.l1, if_neg (by omega)]; simp [valL]
  | succ j ih =>
    intro k L H x hb hl hj hx
    have hp : 2 ^ (j + 1) = 2 * 2 ^ j := by rw [Nat.pow_succ]; omega
    have hp0 := Nat.two_pow_pos j
    rw [show k + (j + 1) + 1 = (k + j + 1) + 1 by omega, platbookref01_Num.l1, if_pos (by omega)]
    by_cases h : j < L.length
    · have e : L.take (j + 1) = L.take j ++ [L[j]] := List.take_succ_eq_append_getElem h
      have hbj : L[j] = 0 ∨ L[j] = 1 := hb _ (List.getElem_mem h)
      obtain ⟨c, hc, hc2⟩ : ∃ c : Nat, L[j] = (c : Int) ∧ c ≤ 1 := by exact bit_nat hbj
      have er : rd L (((j + 1 : Nat) : Int) - 1) = (c : Int) := by
        unfold rd; rw [show ((((j + 1 : Nat) : Int) - 1)).toNat = j by omega]; simp [List.getD, List.getElem?_eq_getElem h, hc]
      have ev : valL (L.take (j + 1)) = valL (L.take j) + 2 ^ j * c := by
        rw [e, valL_append, List.length_take, Nat.min_eq_left (by omega), hc]; simp [valL]
      have e2 : x * 2 ^ (j + 1) + valL (L.take (j + 1)) = (2 * x + c) * 2 ^ j + valL (L.take j) := by
        rw [ev, hp, Nat.add_mul, Nat.mul_comm (2 ^ j) c, ← Nat.mul_assoc, Nat.mul_comm x 2]; omega
      rw [e2] at hx ⊢
      have hx2 : (2 * x + c) * 1 ≤ (2 * x + c) * 2 ^ j := Nat.mul_le_mul_left _ hp0
      rw [if_pos (by omega), if_pos (by omega), er, w64 (by omega) (by omega), show ((x : Int) * 2) = ((2 * x : Nat) : Int) by omega, u64w (x := 2 * x) (by omega), u64w (x := c) (by omega), show ((2 * x : Nat) : Int) + (c : Int) = ((2 * x + c : Nat) : Int) by omega, u64w (by omega), show ((j + 1 : Nat) : Int) - 1 - 1 = (j : Int) - 1 by omega]
      exact ih k L H (2 * x + c) hb hl (by omega) hx
    · have e : L.take (j + 1) = L.take j := by rw [List.take_of_length_le (by omega), List.take_of_length_le (by omega)]
      have e2 : x * 2 ^ (j + 1) + valL (L.take (j + 1)) = (2 * x) * 2 ^ j + valL (L.take j) := by
        rw [e, hp, ← Nat.mul_assoc, Nat.mul_comm x 2]
      rw [e2] at hx ⊢
      have hx2 : (2 * x) * 1 ≤ (2 * x) * 2 ^ j := Nat.mul_le_mul_left _ hp0
      rw [if_neg (by omega), w64 (by omega) (by omega), show ((x : Int) * 2) = ((2 * x : Nat) : Int) by omega, u64w (by omega), show ((j + 1 : Nat) : Int) - 1 - 1 = (j : Int) - 1 by omega]
      exact ih k L H (2 * x) hb hl (by omega) hx
theorem pnum_l0 (j : Nat) : ∀ (k : Nat) (L : List Int) (x : Nat), (∀ b ∈ L, b = 0 ∨ b = 1) → L.length ≤ 1000 → j ≤ 64 → x * 2 ^ j + valL ((L.drop 64).take j) < 18446744073709551616 → platbookref01_Num.l0 (k + j + 66) L (64 + (j : Int) - 1) x 0 = some (((x * 2 ^ j + valL ((L.drop 64).take j) : Nat) : Int), ((valL (L.take 64) : Nat) : Int)) := by
  induction j with
  | zero =>
    intro k L x hb hl _ _
    rw [show k + 0 + 66 = (k + 64 + 1) + 1 by omega, platbookref01_Num.l0, if_neg (by omega)]
    have hv : valL (L.take 64) < 2 ^ 64 := Nat.lt_of_lt_of_le (valL_lt _ (fun b h => hb b (List.mem_of_mem_take h))) (Nat.pow_le_pow_right (by omega) (by rw [List.length_take]; omega))
    have := pnum_l1 64 k L x 0 hb hl (by omega) (by rw [Nat.zero_mul, Nat.zero_add]; exact hv)
    rw [show ((64 : Nat) : Int) - 1 = 63 by omega, show k + 64 + 1 = k + 65 from rfl, show ((0 : Nat) : Int) = 0 from rfl] at this
    rw [this]; simp [valL]
  | succ j ih =>
    intro k L x hb hl hj hx
    have hp : 2 ^ (j + 1) = 2 * 2 ^ j := by rw [Nat.pow_succ]; omega
    have hp0 := Nat.two_pow_pos j
    rw [show k + (j + 1) + 66 = (k + j + 66) + 1 by omega, platbookref01_Num.l0, if_pos (by omega)]
    by_cases h : 64 + j < L.length
    · have hd : j < (L.drop 64).length := by rw [List.length_drop]; omega
      have e : (L.drop 64).take (j + 1) = (L.drop 64).take j ++ [L[64 + j]] := by rw [List.take_succ_eq_append_getElem hd, List.getElem_drop]
      have hbj : L[64 + j] = 0 ∨ L[64 + j] = 1 := hb _ (List.getElem_mem h)
      obtain ⟨c, hc, hc2⟩ : ∃ c : Nat, L[64 + j] = (c : Int) ∧ c ≤ 1 := by exact bit_nat hbj
      have er : rd L (64 + ((j + 1 : Nat) : Int) - 1) = (c : Int) := by
        unfold rd; rw [show (64 + ((j + 1 : Nat) : Int) - 1).toNat = 64 + j by omega]; simp [List.getD, List.getElem?_eq_getElem h, hc]
      have ev : valL ((L.drop 64).take (j + 1)) = valL ((L.drop 64).take j) + 2 ^ j * c := by
        rw [e, valL_append, List.length_take, Nat.min_eq_left (by omega), hc]; simp [valL]
      have e2 : x * 2 ^ (j + 1) + valL ((L.drop 64).take (j + 1)) = (2 * x + c) * 2 ^ j + valL ((L.drop 64).take j) := by
        rw [ev, hp, Nat.add_mul, Nat.mul_comm (2 ^ j) c, ← Nat.mul_assoc, Nat.mul_comm x 2]; omega
      rw [e2] at hx ⊢
      have hx2 : (2 * x + c) * 1 ≤ (2 * x + c) * 2 ^ j := Nat.mul_le_mul_left _ hp0
      rw [if_pos (by omega), if_pos (by omega), er, w64 (by omega) (by omega), show ((x : Int) * 2) = ((2 * x : Nat) : Int) by omega, u64w (x := 2 * x) (by omega), u64w (x := c) (by omega), show ((2 * x : Nat) : Int) + (c : Int) = ((2 * x + c : Nat) : Int) by omega, u64w (by omega), show 64 + ((j + 1 : Nat) : Int) - 1 - 1 = 64 + (j : Int) - 1 by omega]
      exact ih k L (2 * x + c) hb hl (by omega) hx
    · have hd : (L.drop 64).length ≤ j := by rw [List.length_drop]; omega
      have e : (L.drop 64).take (j + 1) = (L.drop 64).take j := by rw [List.take_of_length_le (by omega), List.take_of_length_le (by omega)]
      have e2 : x * 2 ^ (j + 1) + valL ((L.drop 64).take (j + 1)) = (2 * x) * 2 ^ j + valL ((L.drop 64).take j) := by
        rw [e, hp, ← Nat.mul_assoc, Nat.mul_comm x 2]
      rw [e2] at hx ⊢
      have hx2 : (2 * x) * 1 ≤ (2 * x) * 2 ^ j := Nat.mul_le_mul_left _ hp0
      rw [if_neg (by omega), w64 (by omega) (by omega), show ((x : Int) * 2) = ((2 * x : Nat) : Int) by omega, u64w (by omega), show 64 + ((j + 1 : Nat) : Int) - 1 - 1 = 64 + (j : Int) - 1 by omega]
      exact ih k L (2 * x) hb hl (by omega) hx
theorem pnum_f (k : Nat) (L : List Int) (hb : ∀ b ∈ L, b = 0 ∨ b = 1) (hl : L.length ≤ 128) : platbookref01_Num.f (k + 130) L = some (hi (valL L), lo (valL L)) := by
  unfold platbookref01_Num.f
  have hbd : ∀ b ∈ L.drop 64, b = 0 ∨ b = 1 := fun b h => hb b (List.mem_of_mem_drop h)
  have hv : valL (L.drop 64) < 2 ^ 64 := Nat.lt_of_lt_of_le (valL_lt _ hbd) (Nat.pow_le_pow_right (by omega) (by rw [List.length_drop]; omega))
  have ht : (L.drop 64).take 64 = L.drop 64 := List.take_of_length_le (by rw [List.length_drop]; omega)
  have := pnum_l0 64 k L 0 hb (by omega) (by omega) (by rw [Nat.zero_mul, Nat.zero_add, ht]; exact hv)
  rw [show (64 : Int) + ((64 : Nat) : Int) - 1 = 127 by omega, Nat.zero_mul, Nat.zero_add, ht] at this
  rw [show k + 130 = k + 64 + 66 by omega]
  rw [show ((0 : Nat) : Int) = 0 from rfl] at this
  rw [this]
  have hlo : valL (L.take 64) < 2 ^ 64 := Nat.lt_of_lt_of_le (valL_lt _ (fun b h => hb b (List.mem_of_mem_take h))) (Nat.pow_le_pow_right (by omega) (by rw [List.length_take]; omega))
  have e : valL L = valL (L.take 64) + 2 ^ (L.take 64).length * valL (L.drop 64) := by rw [← valL_append, List.take_append_drop]
  have e2 : valL L = valL (L.take 64) + 18446744073709551616 * valL (L.drop 64) := by
    by_cases h : 64 ≤ L.length
    · rw [e, List.length_take, Nat.min_eq_left h]
    · have : L.drop 64 = [] := List.drop_eq_nil_of_le (by omega)
      rw [e, this]; simp [valL]
  rw [show (2 : Nat) ^ 64 = 18446744073709551616 by decide] at hv hlo
  unfold hi lo
  rw [show valL L / 18446744073709551616 % 18446744073709551616 = valL (L.drop 64) by omega, show valL L % 18446744073709551616 = valL (L.take 64) by omega]
theorem paddr_l0 (j : Nat) : ∀ (k : Nat) (v : Bool) (xs acc : List Int), j ≤ xs.length → xs.length ≤ 128 → acc.length + j ≤ 128 → (∀ b ∈ xs, b = 0 ∨ b = 1) → (∀ b ∈ acc, b = 0 ∨ b = 1) → platbookref03_Addr.l0 (k + j + 131) v xs acc ((j : Int) - 1) = some (v, hi (valL (acc ++ (xs.take j).reverse)), lo (valL (acc ++ (xs.take j).reverse))) := by
  induction j with
  | zero =>
    intro k v xs acc _ _ ha hb1 hb2
    rw [show k + 0 + 131 = (k + 130) + 1 by omega, platbookref03_Addr.l0, if_neg (by omega), pnum_f k acc hb2 (by omega)]
    simp
  | succ j ih =>
    intro k v xs acc hj hx ha hb1 hb2
    have e : rd xs (((j + 1 : Nat) : Int) - 1) = xs[j] := by
      unfold rd; rw [show ((((j + 1 : Nat) : Int) - 1)).toNat = j by omega]; simp [List.getD, List.getElem?_eq_getElem (show j < xs.length by omega)]
    rw [show k + (j + 1) + 131 = (k + j + 131) + 1 by omega, platbookref03_Addr.l0, if_pos (by omega), if_pos (by omega), if_pos (by omega), if_pos (by omega), w64 (by omega) (by omega), e, show ((j + 1 : Nat) : Int) - 1 - 1 = (j : Int) - 1 by omega, ih k v xs _ (by omega) hx (by simp; omega) hb1 (by
      intro b h
      rcases List.mem_append.1 h with h | h
      · exact hb2 b h
      · rw [List.mem_singleton] at h; subst h; exact hb1 _ (List.getElem_mem _)), List.take_succ_eq_append_getElem (show j < xs.length by omega), List.reverse_append]
    simp
theorem paddr_f (k : Nat) (v : Bool) (xs : List Int) (hx : xs.length ≤ 128) (hb : ∀ b ∈ xs, b = 0 ∨ b = 1) : platbookref03_Addr.f (k + 300) v xs = some (v, hi (valL xs.reverse), lo (valL xs.reverse)) := by
  unfold platbookref03_Addr.f
  rw [w64 (by omega) (by omega), show k + 300 = (k + 169 - xs.length) + xs.length + 131 by omega, paddr_l0 _ _ _ _ _ (Nat.le_refl _) hx (by simpa using hx) hb (by simp)]
  simp
theorem pfilled_l0 (d : Nat) : ∀ (k i : Nat) (bit : Int) (xs : List Int) (v : Bool) (h l : Int), i + d = xs.length → xs.length ≤ 128 → (∀ b ∈ xs, b = 0 ∨ b = 1) → (bit = 0 ∨ bit = 1) → platbookref03_Filled.l0 (k + d + 301) bit xs i v h l = some (v, hi (valL (xs.take i ++ List.replicate d bit).reverse), lo (valL (xs.take i ++ List.replicate d bit).reverse)) := by
  induction d with
  | zero =>
    intro k i bit xs v h l hi hx hb _
    rw [show k + 0 + 301 = (k + 300) + 1 by omega, platbookref03_Filled.l0, if_neg (by omega), paddr_f k v xs hx hb, List.take_of_length_le (by omega)]
    simp
  | succ d ih =>
    intro k i bit xs v h l hi hx hb hbit
    rw [show k + (d + 1) + 301 = (k + d + 301) + 1 by omega, platbookref03_Filled.l0, if_pos (by omega), if_pos (by omega), w64 (by omega) (by omega), show ((i : Int)).toNat = i by omega, show (i : Int) + 1 = ((i + 1 : Nat) : Int) by omega, ih k (i + 1) bit (xs.set i bit) v h l (by rw [List.length_set]; omega) (by rw [List.length_set]; omega) (by
      intro b h
      rcases List.mem_or_eq_of_mem_set h with h | rfl
      · exact hb b h
      · exact hbit) hbit]
    have e : (xs.set i bit).take (i + 1) = xs.take i ++ [bit] := by
      rw [List.take_succ_eq_append_getElem (by rw [List.length_set]; omega), List.getElem_set_self, List.take_set_of_le (Nat.le_refl _)]
    rw [e, List.append_assoc, List.replicate_succ]; rfl
theorem rowT_len (n w : Nat) : (rowT n w).length = w := by unfold rowT; rw [List.length_reverse, rowL_len]
theorem pfilled_f (k : Nat) (v : Bool) (n : Nat) (i : Nat) (bit : Int) (hn : n < 340282366920938463463374607431768211456) (hi' : i ≤ widthN v) (hbit : bit = 0 ∨ bit = 1) : platbookref03_Filled.f (k + 500) v (hi n) (lo n) i bit = some (v, hi (n / 2 ^ (widthN v - i) % 2 ^ i * 2 ^ (widthN v - i) + bit.toNat * (2 ^ (widthN v - i) - 1)), lo (n / 2 ^ (widthN v - i) % 2 ^ i * 2 ^ (widthN v - i) + bit.toNat * (2 ^ (widthN v - i) - 1))) := by
  unfold platbookref03_Filled.f
  have hw := widthN_le v
  rw [show k + 500 = (k + 200) + 300 by omega, prow_f _ v n hn]
  simp only [Option.bind_some]
  rw [show k + 200 + 300 = (k + 199 - (widthN v - i)) + (widthN v - i) + 301 by omega, pfilled_l0 (widthN v - i) _ i bit _ v _ _ (by rw [rowT_len]; omega) (by rw [rowT_len]; omega) (by intro b h; unfold rowT at h; rw [List.mem_reverse] at h; exact rowL_bit _ _ b h) hbit]
  have e : valL ((rowT n (widthN v)).take i ++ List.replicate (widthN v - i) bit).reverse = n / 2 ^ (widthN v - i) % 2 ^ i * 2 ^ (widthN v - i) + bit.toNat * (2 ^ (widthN v - i) - 1) := by
    rw [List.reverse_append, List.reverse_replicate, valL_append, List.length_replicate]
    have e1 : ((rowT n (widthN v)).take i).reverse = rowL (n / 2 ^ (widthN v - i)) i := by
      unfold rowT
      rw [show widthN v = (widthN v - i) + i by omega, rowL_add, List.reverse_append, List.take_left' (by rw [List.length_reverse, rowL_len]), List.reverse_reverse]
      rw [show widthN v - i + i - i = widthN v - i by omega]
    have e2 : valL (List.replicate (widthN v - i) bit) = bit.toNat * (2 ^ (widthN v - i) - 1) := by
      rcases hbit with rfl | rfl
      · rw [valL_rep]; simp
      · rw [valL_ones]; simp
    rw [e1, valL_row, e2, Nat.mul_comm (2 ^ (widthN v - i))]
    omega
  rw [e]
/-- how many first ones two rows have alike -/
def alikeL : List Int → List Int → Nat
  | a :: x, b :: y => if a = b then alikeL x y + 1 else 0
  | _, _ => 0
theorem palike_l0 (d : Nat) : ∀ (k i : Nat) (x y : List Int), i + d = x.length → x.length = y.length → x.length ≤ 1000 → platbookref03_Alike.l0 (k + d + 1) x y i = some (((i + alikeL (x.drop i) (y.drop i) : Nat)) : Int) := by
  induction d with
  | zero =>
    intro k i x y hi hxy _
    rw [platbookref03_Alike.l0, if_neg (by omega), List.drop_eq_nil_of_le (by omega)]; rfl
  | succ d ih =>
    intro k i x y hi hxy hx
    have e1 : rd x (i : Int) = x[i] := by unfold rd; simp [List.getD, List.getElem?_eq_getElem (show i < x.length by omega)]
    have e2 : rd y (i : Int) = y[i] := by unfold rd; simp [List.getD, List.getElem?_eq_getElem (show i < y.length by omega)]
    rw [show k + (d + 1) + 1 = (k + d + 1) + 1 by omega, platbookref03_Alike.l0, if_pos (by omega), if_pos (by omega), if_pos (by omega), e1, e2, List.drop_eq_getElem_cons (show i < x.length by omega), List.drop_eq_getElem_cons (show i < y.length by omega), alikeL]
    by_cases h : x[i] = y[i]
    · rw [if_pos h, if_pos h, w64 (by omega) (by omega), show (i : Int) + 1 = ((i + 1 : Nat) : Int) by omega, ih k (i + 1) x y (by omega) hxy hx]
      congr 2; omega
    · rw [if_neg h, if_neg h]; simp
theorem palike_f (k : Nat) (x y : List Int) (hxy : x.length = y.length) (hx : x.length ≤ 128) : platbookref03_Alike.f (k + 200) x y = some ((alikeL x y : Nat) : Int) := by
  unfold platbookref03_Alike.f
  have := palike_l0 x.length (k + 199 - x.length) 0 x y (by omega) hxy (by omega)
  rw [show k + 199 - x.length + x.length + 1 = k + 200 by omega] at this
  rw [show ((0 : Nat) : Int) = 0 from rfl] at this
  rw [this]; simp
theorem rowT_succ (n w : Nat) : rowT n (w + 1) = ((n / 2 ^ w % 2 : Nat) : Int) :: rowT n w := by
  unfold rowT; rw [rowL_add, List.reverse_append]; rfl
theorem alike_ge (x y : Nat) : ∀ (w b : Nat), b ≤ w → (b ≤ alikeL (rowT x w) (rowT y w) ↔ x / 2 ^ (w - b) % 2 ^ b = y / 2 ^ (w - b) % 2 ^ b)
  | 0, b, h => by
    have : b = 0 := by omega
    subst this; simp [Nat.mod_one]
  | w + 1, 0, h => by simp [Nat.mod_one]
  | w + 1, b + 1, h => by
    have ih := alike_ge x y w b (by omega)
    have key : ∀ z : Nat, z / 2 ^ (w - b) % 2 ^ (b + 1) = z / 2 ^ (w - b) % 2 ^ b + 2 ^ b * (z / 2 ^ w % 2) := by
      intro z
      have e := Nat.mod_pow_succ (x := z / 2 ^ (w - b)) (b := 2) (k := b)
      rw [Nat.div_div_eq_div_mul, ← Nat.pow_add, show w - b + b = w by omega] at e
      exact e
    rw [rowT_succ, rowT_succ, alikeL, show w + 1 - (b + 1) = w - b by omega, key, key]
    have h1 : x / 2 ^ (w - b) % 2 ^ b < 2 ^ b := Nat.mod_lt _ (Nat.two_pow_pos b)
    have h2 : y / 2 ^ (w - b) % 2 ^ b < 2 ^ b := Nat.mod_lt _ (Nat.two_pow_pos b)
    generalize x / 2 ^ (w - b) % 2 ^ b = p at *
    generalize y / 2 ^ (w - b) % 2 ^ b = q at *
    have h3 : x / 2 ^ w % 2 < 2 := Nat.mod_lt _ (by omega)
    have h4 : y / 2 ^ w % 2 < 2 := Nat.mod_lt _ (by omega)
    generalize x / 2 ^ w % 2 = s at *
    generalize y / 2 ^ w % 2 = t at *
    generalize 2 ^ b = P at *
    by_cases e : s = t
    · subst e
      rw [if_pos rfl, Nat.add_le_add_iff_right, ih]
      omega
    · rw [if_neg (by omega)]
      constructor
      · intro h; omega
      · intro h
        exfalso
        have : (s = 0 ∧ t = 1) ∨ (s = 1 ∧ t = 0) := by omega
        rcases this with ⟨rfl, rfl⟩ | ⟨rfl, rfl⟩
        · simp at h; omega
        · simp at h; omega
end Go.Proofs.YtgdgklibilddgaaGreatDoor

namespace Go.Proofs.YtgdgklibilddgaaGreatDoor
open Go.RowKit Go.Proofs.YtgdgklibilddgaaGreatDoorW.PrintWords Go.Proofs.YtgdgklibilddgaaGreatDoor.PPr

/-- as a rewriting step, not by computation -/
theorem bsome {α β : Type} (x : α) (f : α → Option β) : (some x).bind f = f x := by
  have h : ∀ y : Option α, y = some x → y.bind f = f x := by intro y hy; subst hy; rfl
  exact h _ rfl
theorem aright_hl (v : Bool) {n : Nat} (hn : n < 340282366920938463463374607431768211456) : addr_Right.f v (hi n) (lo n) = some (rightB v n) := by
  unfold addr_Right.f; rw [if_pos (okW_hl n), num_hi_lo hn]
theorem rright02_hl (v : Bool) {n : Nat} (hn : n < 340282366920938463463374607431768211456) : platbookref02_Right.f v (hi n) (lo n) = some (rightB v n) := by
  unfold platbookref02_Right.f; rw [if_pos (okW_hl n), num_hi_lo hn]
theorem awidth_hl (v : Bool) (n : Nat) : addr_Width.f v (hi n) (lo n) = some ((widthN v : Nat) : Int) := by
  unfold addr_Width.f; rw [if_pos (okW_hl n)]
theorem pright_hl (v : Bool) {n : Nat} (b : Int) (hn : n < 340282366920938463463374607431768211456) : prefix_Right.f v (hi n) (lo n) b = some (rightP v n b) := by
  unfold prefix_Right.f; rw [if_pos (okW_hl n), num_hi_lo hn]
theorem free_hl (v : Bool) (n : Nat) {b : Int} (h0 : 0 ≤ b) (h1 : b ≤ (widthN v : Int)) : prefix_free.f v (hi n) (lo n) b = some (hi (2 ^ fr v b - 1), lo (2 ^ fr v b - 1)) := by
  unfold prefix_free.f; rw [okW_hl, decide_eq_true h0, decide_eq_true h1]; rfl
theorem not_hl {n : Nat} (hn : n < 340282366920938463463374607431768211456) : num_Not.f (hi n) (lo n) = some (hi (notN n), lo (notN n)) := by
  unfold num_Not.f; rw [if_pos (okW_hl n), num_hi_lo hn]
theorem and_hl {n m : Nat} (hn : n < 340282366920938463463374607431768211456) (hm : m < 340282366920938463463374607431768211456) : num_And.f (hi n) (lo n) (hi m) (lo m) = some (hi (n &&& m), lo (n &&& m)) := by
  unfold num_And.f; rw [okW_hl, okW_hl, num_hi_lo hn, num_hi_lo hm]; rfl
theorem or_hl {n m : Nat} (hn : n < 340282366920938463463374607431768211456) (hm : m < 340282366920938463463374607431768211456) : num_Or.f (hi n) (lo n) (hi m) (lo m) = some (hi (n ||| m), lo (n ||| m)) := by
  unfold num_Or.f; rw [okW_hl, okW_hl, num_hi_lo hn, num_hi_lo hm]; rfl
theorem hl_eq {a b : Nat} (ha : a < 340282366920938463463374607431768211456) (hb : b < 340282366920938463463374607431768211456) : (hi a == hi b && lo a == lo b) = (a == b) := by
  rw [Bool.eq_iff_iff]; simp only [Bool.and_eq_true, beq_iff_eq]; exact hi_lo_eq ha hb
theorem rightP_iff {v : Bool} {n : Nat} {b : Int} : rightP v n b = true ↔ n < 2 ^ widthN v ∧ 0 ≤ b ∧ b ≤ (widthN v : Int) ∧ n % 2 ^ fr v b = 0 := by
  unfold rightP rightB; simp
theorem rightB_iff {v : Bool} {n : Nat} : rightB v n = true ↔ n < 2 ^ widthN v := by unfold rightB; simp
theorem pow_w (v : Bool) : 2 ^ widthN v ≤ 340282366920938463463374607431768211456 := by cases v <;> decide
theorem top_lt {f n : Nat} (hn : n < 340282366920938463463374607431768211456) : topN f n < 340282366920938463463374607431768211456 := Nat.lt_of_le_of_lt (topN_le f n) hn
/-- without the bits behind: the reference's way -/
theorem top_ref {v : Bool} {n i : Nat} (hn : n < 2 ^ widthN v) (hi : i ≤ widthN v) : n / 2 ^ (widthN v - i) % 2 ^ i * 2 ^ (widthN v - i) = topN (widthN v - i) n := by
  unfold topN
  rw [Nat.mod_eq_of_lt]
  rw [Nat.div_lt_iff_lt_mul (Nat.two_pow_pos _), ← Nat.pow_add, show i + (widthN v - i) = widthN v by omega]; exact hn
def ofS (v : Bool) (n : Nat) (b : Int) : Bool × Nat × Int × Int := if rightB v n = true ∧ 0 ≤ b ∧ b ≤ (widthN v : Int) then (v, topN (fr v b) n, b, 0) else (false, 0, 0, 1)
def tup5 (x : Bool × Nat × Int × Int) : Bool × Int × Int × Int × Int := (x.1, hi x.2.1, lo x.2.1, x.2.2.1, x.2.2.2)
theorem hi00 : hi 0 = 0 := rfl
theorem lo00 : lo 0 = 0 := rfl
theorem fr_lt (v : Bool) (b : Int) : 2 ^ fr v b - 1 < 340282366920938463463374607431768211456 := pow_fr v b
theorem of_f (K : Nat) (hK : 1 ≤ K) (v : Bool) (n : Nat) (b : Int) (hn : n < 340282366920938463463374607431768211456) : prefix_Of.f K v (hi n) (lo n) b = some (tup5 (ofS v n b)) := by
  obtain ⟨k, rfl⟩ : ∃ k, K = k + 1 := ⟨K - 1, by omega⟩
  unfold prefix_Of.f ofS
  rw [aright_hl v hn]
  simp only [bsome]
  cases hr : rightB v n
  · rw [if_neg (by simp), if_neg (by simp), prefix_Of.j0, if_pos rfl]; rfl
  · rw [if_pos rfl]
    by_cases h0 : b < 0
    · rw [if_pos h0, if_neg (by omega), prefix_Of.j0, if_pos rfl]; rfl
    · rw [if_neg h0, awidth_hl]
      simp only [bsome]
      by_cases h1 : b ≤ (widthN v : Int)
      · rw [if_pos ⟨trivial, by omega, h1⟩, prefix_Of.j0, if_neg (by simp; omega), free_hl v n (by omega) h1]
        simp only [bsome]
        have hf := fr_lt v b
        have hnn : notN (2 ^ fr v b - 1) < 340282366920938463463374607431768211456 := by unfold notN; omega
        rw [not_hl hf]
        simp only [bsome]
        rw [and_hl hn hnn]
        have e : n &&& notN (2 ^ fr v b - 1) = topN (fr v b) n := by
          have := and_not (n := n) (f := fr v b) (k := 128) (fr_le v b) (by rw [show (2 : Nat) ^ 128 = 340282366920938463463374607431768211456 by decide]; exact hn)
          rw [← this]; unfold notN
          rw [show (340282366920938463463374607431768211455 : Nat) = 2 ^ 128 - 1 by decide]
        rw [e]
        simp only [tup5, bsome]
      · rw [if_neg (by simp only [true_and]; omega), prefix_Of.j0, if_pos (by simp; omega)]; rfl
theorem rrightP_f (K : Nat) (hK : 600 ≤ K) (v : Bool) (n : Nat) (b : Int) (hn : n < 340282366920938463463374607431768211456) : platbookref03_Right.f K v (hi n) (lo n) b = some (rightP v n b) := by
  obtain ⟨k, rfl⟩ : ∃ k, K = k + 500 := ⟨K - 500, by omega⟩
  unfold platbookref03_Right.f
  rw [rright02_hl v hn]
  simp only [bsome]
  unfold rightP
  cases hr : rightB v n
  · rw [if_neg (by simp)]; rfl
  · rw [if_pos rfl]
    by_cases h0 : b < 0
    · rw [if_pos h0, decide_eq_false (by omega)]; rfl
    · rw [if_neg h0, width_hl, decide_eq_true (show 0 ≤ b by omega)]
      simp only [bsome]
      by_cases h1 : b ≤ (widthN v : Int)
      · rw [if_neg (by omega), decide_eq_true h1]
        obtain ⟨i, rfl⟩ := Int.eq_ofNat_of_zero_le (show 0 ≤ b by omega)
        rw [pfilled_f k v n i 0 hn (by omega) (.inl rfl), top_ref (rightB_iff.1 hr) (by omega)]
        have e : fr v (i : Int) = widthN v - i := by unfold fr; omega
        simp only [bsome, Int.toNat_zero, Nat.zero_mul, Nat.add_zero]
        rw [hl_eq (top_lt hn) hn, e]
        simp only [beq_self_eq_true, Bool.true_and, Option.some.injEq]
        rw [Bool.eq_iff_iff]; simp [topN_eq]
      · rw [if_pos (by omega), decide_eq_false h1]; rfl
def lastS (v : Bool) (n : Nat) (b : Int) : Bool × Nat := if rightP v n b = true then (v, n + (2 ^ fr v b - 1)) else (false, 0)
def tup3 (x : Bool × Nat) : Bool × Int × Int := (x.1, hi x.2, lo x.2)
theorem last_lt {v : Bool} {n : Nat} {b : Int} (h : rightP v n b = true) : n + (2 ^ fr v b - 1) < 2 ^ widthN v := by
  obtain ⟨h1, h2, h3, h4⟩ := rightP_iff.1 h
  have hf : fr v b ≤ widthN v := by unfold fr; omega
  have hp := Nat.two_pow_pos (fr v b)
  obtain ⟨q, hq⟩ := Nat.dvd_of_mod_eq_zero h4
  have e : 2 ^ widthN v = 2 ^ fr v b * 2 ^ (widthN v - fr v b) := by rw [← Nat.pow_add]; congr 1; omega
  rw [hq, e] at h1
  rw [hq, e]
  have h5 : q < 2 ^ (widthN v - fr v b) := Nat.lt_of_mul_lt_mul_left h1
  have h6 : 2 ^ fr v b * (q + 1) ≤ 2 ^ fr v b * 2 ^ (widthN v - fr v b) := Nat.mul_le_mul_left _ h5
  rw [Nat.mul_add, Nat.mul_one] at h6
  omega
theorem last_f (v : Bool) (n : Nat) (b : Int) (hn : n < 340282366920938463463374607431768211456) : prefix_Last.f v (hi n) (lo n) b = some (tup3 (lastS v n b)) := by
  unfold prefix_Last.f lastS
  rw [pright_hl v b hn]
  simp only [bsome]
  cases h : rightP v n b
  · simp [tup3, hi00, lo00]
  · obtain ⟨h1, h2, h3, h4⟩ := rightP_iff.1 h
    rw [if_pos rfl, if_pos rfl, free_hl v n h2 h3]
    simp only [bsome]
    rw [or_hl hn (fr_lt v b), or_ones h4]
    simp only [tup3, bsome]
def hasS (v : Bool) (n : Nat) (b : Int) (u : Bool) (m : Nat) : Bool := rightP v n b && (rightB u m && (u == v && topN (fr v b) m == n))
theorem has_f (K : Nat) (hK : 1 ≤ K) (v : Bool) (n : Nat) (b : Int) (u : Bool) (m : Nat) (hn : n < 340282366920938463463374607431768211456) (hm : m < 340282366920938463463374607431768211456) : prefix_Has.f K v (hi n) (lo n) b u (hi m) (lo m) = some (hasS v n b u m) := by
  unfold prefix_Has.f hasS
  rw [pright_hl v b hn, aright_hl u hm, of_f K hK u m b hm]
  simp only [bsome]
  cases h : rightP v n b
  · rfl
  · cases hu : rightB u m
    · rfl
    · rw [if_pos rfl, if_pos rfl]
      by_cases huv : u = v
      · subst huv
        obtain ⟨h1, h2, h3, h4⟩ := rightP_iff.1 h
        rw [if_neg (by simp)]
        unfold ofS
        rw [if_pos ⟨hu, h2, h3⟩]
        simp only [tup5]
        rw [hl_eq (top_lt hm) hn]
        simp
      · rw [if_pos (by simpa using huv)]
        simp [huv]
theorem rhas_f (K : Nat) (hK : 700 ≤ K) (v : Bool) (n : Nat) (b : Int) (u : Bool) (m : Nat) (hn : n < 340282366920938463463374607431768211456) (hm : m < 340282366920938463463374607431768211456) : platbookref03_Has.f K v (hi n) (lo n) b u (hi m) (lo m) = some (hasS v n b u m) := by
  obtain ⟨k, rfl⟩ : ∃ k, K = k + 300 + 1 := ⟨K - 301, by omega⟩
  unfold platbookref03_Has.f hasS
  rw [rrightP_f _ (by omega) v n b hn, rright02_hl u hm]
  simp only [bsome]
  cases h : rightP v n b
  · rw [if_neg (by simp), platbookref03_Has.j0, if_pos rfl]; rfl
  · cases hu : rightB u m
    · rw [if_pos rfl, if_neg (by simp), platbookref03_Has.j0, if_pos rfl]; rfl
    · rw [if_pos rfl, if_pos rfl]
      by_cases huv : u = v
      · subst huv
        obtain ⟨h1, h2, h3, h4⟩ := rightP_iff.1 h
        rw [platbookref03_Has.j0, if_neg (by simp), prow_f k u n hn, prow_f k u m hm]
        simp only [bsome]
        rw [show k + 300 = (k + 100) + 200 by omega, palike_f _ _ _ (by rw [rowT_len, rowT_len]) (by rw [rowT_len]; exact widthN_le u)]
        simp only [bsome, Bool.true_and, beq_self_eq_true, Option.some.injEq]
        obtain ⟨i, rfl⟩ := Int.eq_ofNat_of_zero_le h2
        have hi' : i ≤ widthN u := by omega
        have e : fr u (i : Int) = widthN u - i := by unfold fr; omega
        have hl : ∀ z : Nat, z < 2 ^ widthN u → z / 2 ^ (widthN u - i) % 2 ^ i = z / 2 ^ (widthN u - i) := by
          intro z hz
          apply Nat.mod_eq_of_lt
          rw [Nat.div_lt_iff_lt_mul (Nat.two_pow_pos _), ← Nat.pow_add, show i + (widthN u - i) = widthN u by omega]; exact hz
        rw [Bool.eq_iff_iff, decide_eq_true_iff, beq_iff_eq, topN_iff h4, e]
        have := alike_ge n m (widthN u) i hi'
        rw [hl n h1, hl m (rightB_iff.1 hu)] at this
        constructor
        · intro hge; exact (this.1 (by omega)).symm
        · intro heq; have := this.2 heq.symm; omega
      · rw [platbookref03_Has.j0, if_pos (by simpa using huv)]
        simp [huv]
def withinS (v : Bool) (n : Nat) (b : Int) (u : Bool) (m : Nat) (c : Int) : Bool := rightP v n b && (rightP u m c && (decide (c ≤ b) && hasS u m c v n))
def overlapS (v : Bool) (n : Nat) (b : Int) (u : Bool) (m : Nat) (c : Int) : Bool := withinS v n b u m c || withinS u m c v n b
theorem within_f (K : Nat) (hK : 1 ≤ K) (v : Bool) (n : Nat) (b : Int) (u : Bool) (m : Nat) (c : Int) (hn : n < 340282366920938463463374607431768211456) (hm : m < 340282366920938463463374607431768211456) : prefix_Within.f K v (hi n) (lo n) b u (hi m) (lo m) c = some (withinS v n b u m c) := by
  unfold prefix_Within.f withinS
  rw [pright_hl v b hn, pright_hl u c hm, has_f K hK u m c v n hm hn]
  simp only [bsome]
  cases rightP v n b
  · rfl
  · cases rightP u m c
    · rfl
    · rw [if_pos rfl, if_pos rfl]
      by_cases h : c ≤ b
      · rw [if_pos h, decide_eq_true h]; rfl
      · rw [if_neg h, decide_eq_false h]; rfl
theorem overlap_f (K : Nat) (hK : 1 ≤ K) (v : Bool) (n : Nat) (b : Int) (u : Bool) (m : Nat) (c : Int) (hn : n < 340282366920938463463374607431768211456) (hm : m < 340282366920938463463374607431768211456) : prefix_Overlap.f K v (hi n) (lo n) b u (hi m) (lo m) c = some (overlapS v n b u m c) := by
  unfold prefix_Overlap.f overlapS
  rw [within_f K hK v n b u m c hn hm, within_f K hK u m c v n b hm hn]
  simp only [bsome]
  cases withinS v n b u m c <;> rfl
theorem div_mono {a x y f g : Nat} (h : x / 2 ^ f = y / 2 ^ f) (hfg : f ≤ g) : x / 2 ^ g = y / 2 ^ g := by
  have e : 2 ^ g = 2 ^ f * 2 ^ (g - f) := by rw [← Nat.pow_add]; congr 1; omega
  rw [e, ← Nat.div_div_eq_div_mul, ← Nat.div_div_eq_div_mul, h]
theorem hasS_right {v : Bool} {n : Nat} {b : Int} {u : Bool} {m : Nat} (h : hasS v n b u m = true) : rightP v n b = true ∧ rightB u m = true ∧ u = v ∧ m / 2 ^ fr v b = n / 2 ^ fr v b := by
  unfold hasS at h
  simp only [Bool.and_eq_true, beq_iff_eq] at h
  obtain ⟨h1, h2, h3, h4⟩ := h
  exact ⟨h1, h2, h3, (topN_iff (rightP_iff.1 h1).2.2.2).1 h4⟩
theorem hasS_mk {v : Bool} {n : Nat} {b : Int} {m : Nat} (h1 : rightP v n b = true) (h2 : rightB v m = true) (h : m / 2 ^ fr v b = n / 2 ^ fr v b) : hasS v n b v m = true := by
  unfold hasS
  rw [h1, h2]
  simp only [Bool.true_and, beq_self_eq_true, beq_iff_eq]
  exact (topN_iff (rightP_iff.1 h1).2.2.2).2 h
theorem rightP_B {v : Bool} {n : Nat} {b : Int} (h : rightP v n b = true) : rightB v n = true := rightB_iff.2 (rightP_iff.1 h).1
theorem roverlap_f (K : Nat) (hK : 700 ≤ K) (v : Bool) (n : Nat) (b : Int) (u : Bool) (m : Nat) (c : Int) (hn : n < 340282366920938463463374607431768211456) (hm : m < 340282366920938463463374607431768211456) : platbookref03_Overlap.f K v (hi n) (lo n) b u (hi m) (lo m) c = some (overlapS v n b u m c) := by
  unfold platbookref03_Overlap.f overlapS withinS
  rw [rrightP_f K (by omega) v n b hn, rrightP_f K (by omega) u m c hm, rhas_f K hK u m c v n hm hn, rhas_f K hK v n b u m hn hm]
  simp only [bsome]
  cases h1 : rightP v n b
  · simp
  · cases h2 : rightP u m c
    · simp
    · rw [if_pos rfl, if_pos rfl]
      simp only [Bool.true_and]
      by_cases hcb : c ≤ b
      · by_cases hbc : b ≤ c
        · rw [decide_eq_true hcb, decide_eq_true hbc]; cases hasS u m c v n <;> rfl
        · rw [decide_eq_true hcb, decide_eq_false hbc]
          cases h3 : hasS u m c v n
          · rw [if_neg (by simp)]
            have : hasS v n b u m = false := by
              cases h4 : hasS v n b u m
              · rfl
              · exfalso
                obtain ⟨_, _, rfl, h5⟩ := hasS_right h4
                have hfr : fr u b ≤ fr u c := by unfold fr; omega
                have := hasS_mk (v := u) (n := m) (b := c) (m := n) h2 (rightP_B h1) (div_mono (a := 0) h5.symm hfr)
                rw [this] at h3; cases h3
            rw [this]; rfl
          · rfl
      · have hbc : b ≤ c := by omega
        rw [decide_eq_false hcb, decide_eq_true hbc]
        cases h3 : hasS u m c v n
        · rfl
        · rw [if_pos rfl]
          obtain ⟨_, _, rfl, h5⟩ := hasS_right h3
          have hfr : fr v c ≤ fr v b := by unfold fr; omega
          rw [hasS_mk (v := v) (n := n) (b := b) (m := m) h1 (rightP_B h2) (div_mono (a := 0) h5.symm hfr)]
          rfl
end Go.Proofs.YtgdgklibilddgaaGreatDoor

namespace Go.Proofs.YtgdgklibilddgaaGreatDoor
open Go.RowKit Go.Proofs.YtgdgklibilddgaaGreatDoorW.PrintWords Go.Proofs.YtgdgklibilddgaaGreatDoor.PPr

theorem shl_hl {n : Nat} {k : Int} (hn : n < 340282366920938463463374607431768211456) (hk : -9223372036854775808 ≤ k) : num_Shl.f (hi n) (lo n) k = some (hi (shlN n k), lo (shlN n k)) := by
  unfold num_Shl.f; rw [okW_hl, decide_eq_true hk, num_hi_lo hn]; rfl
theorem cmpA_le {v : Bool} {a b : Nat} : cmpA v a v b ≤ 0 ↔ a ≤ b := by
  unfold cmpA cmpN
  rw [if_pos rfl]
  split
  · constructor <;> omega
  · split
    · constructor <;> omega
    · constructor <;> omega
/-- what lies between the ends is the prefix's own -/
theorem has_between {v : Bool} {n : Nat} {b : Int} (h : rightP v n b = true) (u : Bool) (x : Nat) :
    hasS v n b u x = (rightB u x && (decide (cmpA v n u x ≤ 0) && decide (cmpA u x v (n + (2 ^ fr v b - 1)) ≤ 0))) := by
  obtain ⟨h1, h2, h3, h4⟩ := rightP_iff.1 h
  have hpos := Nat.two_pow_pos (fr v b)
  by_cases huv : u = v
  · subst huv
    rw [Bool.eq_iff_iff]
    simp only [Bool.and_eq_true, decide_eq_true_iff, cmpA_le]
    constructor
    · intro hh
      obtain ⟨_, g2, _, g4⟩ := hasS_right hh
      obtain ⟨q, hq⟩ := Nat.dvd_of_mod_eq_zero h4
      have e : n / 2 ^ fr u b = q := by rw [hq, Nat.mul_div_cancel_left _ hpos]
      rw [e] at g4
      have d1 := Nat.div_add_mod x (2 ^ fr u b)
      have d2 := Nat.mod_lt x hpos
      rw [g4, ← hq] at d1
      exact ⟨g2, by omega, by omega⟩
    · rintro ⟨g1, g2, g3⟩
      refine hasS_mk h g1 ?_
      obtain ⟨q, hq⟩ := Nat.dvd_of_mod_eq_zero h4
      have e : n / 2 ^ fr u b = q := by rw [hq, Nat.mul_div_cancel_left _ hpos]
      rw [e]
      apply Nat.div_eq_of_lt_le
      · rw [Nat.mul_comm, ← hq]; exact g2
      · rw [Nat.add_mul, Nat.mul_comm q, ← hq]; omega
  · have e1 : hasS v n b u x = false := by unfold hasS; simp [huv]
    rw [e1]
    unfold cmpA
    cases u <;> cases v <;> simp at huv ⊢
end Go.Proofs.YtgdgklibilddgaaGreatDoor

namespace Go.Proofs.YtgdgklibilddgaaGreatDoor
open Go.RowKit Go.Proofs.YtgdgklibilddgaaGreatDoorW.PrintWords Go.Proofs.YtgdgklibilddgaaGreatDoor.PPr

theorem lastS_ok {v : Bool} {n : Nat} {b : Int} (h : rightP v n b = true) : lastS v n b = (v, n + (2 ^ fr v b - 1)) := by unfold lastS; rw [if_pos h]
end Go.Proofs.YtgdgklibilddgaaGreatDoor

namespace Go.Proofs.YtgdgklibilddgaaGreatDoor.PPr
open Go.RowKit Go.Proofs.YtgdgklibilddgaaGreatDoorW.PrintWords Go.Proofs.YtgdgklibilddgaaGreatDoorW.PrintLast Go.Proofs.YtgdgklibilddgaaGreatDoorW.PrintMore
attribute [local go_sem] max2_int min2_int max_two min_two max_three min_three max_four min_four   -- for this text's walks alone

end Go.Proofs.YtgdgklibilddgaaGreatDoor.PPr

namespace Go.Proofs.YtgdgklibilddgaaGreatDoor.PPr
open Go.RowKit Go.Proofs.YtgdgklibilddgaaGreatDoorW.PrintWords Go.Proofs.YtgdgklibilddgaaGreatDoorW.PrintLast Go.Proofs.YtgdgklibilddgaaGreatDoorW.PrintMore
attribute [local go_sem] max2_int min2_int max_two min_two max_three min_three max_four min_four   -- for this text's walks alone

end Go.Proofs.YtgdgklibilddgaaGreatDoor.PPr

namespace Go.Proofs.YtgdgklibilddgaaGreatDoor.PPr
open Go.RowKit Go.Proofs.YtgdgklibilddgaaGreatDoorW.PrintWords Go.Proofs.YtgdgklibilddgaaGreatDoorW.PrintLast Go.Proofs.YtgdgklibilddgaaGreatDoorW.PrintMore
attribute [local go_sem] max2_int min2_int max_two min_two max_three min_three max_four min_four   -- for this text's walks alone

attribute [local go_sem high] eqA38
end Go.Proofs.YtgdgklibilddgaaGreatDoor.PPr

namespace Go.Proofs.YtgdgklibilddgaaGreatDoor
open Go.RowKit Go.Proofs.YtgdgklibilddgaaGreatDoorW.PrintWords Go.Proofs.YtgdgklibilddgaaGreatDoorW.PrintMore Go.Proofs.YtgdgklibilddgaaGreatDoor.PPr

theorem len_hl {n : Nat} (hn : n < 340282366920938463463374607431768211456) : num_Len.f (hi n) (lo n) = some ((lenN n : Nat) : Int) := by
  unfold num_Len.f; rw [if_pos (okW_hl n), num_hi_lo hn]
theorem within_mk {v : Bool} {n : Nat} {b : Int} {m : Nat} {c : Int} (h1 : rightP v n b = true) (h2 : rightP v m c = true) (h3 : c ≤ b) (h4 : n / 2 ^ fr v c = m / 2 ^ fr v c) : withinS v n b v m c = true := by
  unfold withinS
  rw [h1, h2, decide_eq_true h3, hasS_mk h2 (rightP_B h1) h4]; rfl
end Go.Proofs.YtgdgklibilddgaaGreatDoor

namespace Go.Proofs.YtgdgklibilddgaaGreatDoor
open Go.RowKit Go.Proofs.YtgdgklibilddgaaGreatDoorW.PrintWords Go.Proofs.YtgdgklibilddgaaGreatDoor.PPr

def cutsS (v : Bool) (n : Nat) (b bits : Int) : Bool := rightP v n b && (decide (b ≤ bits) && decide (bits ≤ (widthN v : Int)))
theorem cutsS_iff {v : Bool} {n : Nat} {b bits : Int} : cutsS v n b bits = true ↔ rightP v n b = true ∧ b ≤ bits ∧ bits ≤ (widthN v : Int) := by
  unfold cutsS; simp
theorem cuts_f (v : Bool) (n : Nat) (b bits : Int) (hn : n < 340282366920938463463374607431768211456) : carve_cuts.f v (hi n) (lo n) b bits = some (cutsS v n b bits) := by
  unfold carve_cuts.f cutsS
  rw [pright_hl v b hn]
  simp only [bsome]
  cases rightP v n b
  · rfl
  · rw [if_pos rfl]
    by_cases h : b ≤ bits
    · rw [if_pos h, awidth_hl, decide_eq_true h]
      simp only [bsome, Bool.true_and]
    · rw [if_neg h, decide_eq_false h]; rfl
theorem rcuts_f (K : Nat) (hK : 600 ≤ K) (v : Bool) (n : Nat) (b bits : Int) (hn : n < 340282366920938463463374607431768211456) : platbookref04_Cuts.f K v (hi n) (lo n) b bits = some (cutsS v n b bits) := by
  unfold platbookref04_Cuts.f cutsS
  rw [rrightP_f K hK v n b hn]
  simp only [bsome]
  cases rightP v n b
  · rfl
  · rw [if_pos rfl]
    by_cases h : b ≤ bits
    · rw [if_pos h, width_hl, decide_eq_true h]
      simp only [bsome, Bool.true_and]
    · rw [if_neg h, decide_eq_false h]; rfl
def blockS (v : Bool) (n : Nat) (b bits : Int) (i : Nat) : Bool × Nat × Int × Int :=
  if cutsS v n b bits = true then (if (lenN i : Int) ≤ bits - b then (v, n + i * 2 ^ (widthN v - bits.toNat), bits, 0) else (false, 0, 0, 12)) else (false, 0, 0, 1)
/-- the numbers that are behind a block's -/
theorem block_room {v : Bool} {n : Nat} {b bits : Int} {i : Nat} (h : cutsS v n b bits = true) (hi' : (lenN i : Int) ≤ bits - b) :
    i < 2 ^ (bits - b).toNat ∧ i * 2 ^ (widthN v - bits.toNat) < 2 ^ fr v b ∧ n + i * 2 ^ (widthN v - bits.toNat) < 2 ^ widthN v ∧ fr v b = (bits - b).toNat + (widthN v - bits.toNat) := by
  obtain ⟨h1, h2, h3⟩ := cutsS_iff.1 h
  obtain ⟨p1, p2, p3, p4⟩ := rightP_iff.1 h1
  have hf : fr v b = (bits - b).toNat + (widthN v - bits.toNat) := by unfold fr; omega
  have hl : i < 2 ^ (bits - b).toNat := (lenN_iff _ _).1 (by omega)
  have hp := Nat.two_pow_pos (widthN v - bits.toNat)
  have h4 : i * 2 ^ (widthN v - bits.toNat) < 2 ^ fr v b := by
    rw [hf, Nat.pow_add]; exact Nat.mul_lt_mul_of_pos_right hl hp
  have := last_lt h1
  exact ⟨hl, h4, by omega, hf⟩
theorem shlN_eq {i k : Nat} (hk : k < 128) (h : i * 2 ^ k < 340282366920938463463374607431768211456) : shlN i (k : Int) = i * 2 ^ k := by
  unfold shlN
  rw [if_neg (by omega), if_neg (by omega), Int.toNat_natCast, Nat.mod_eq_of_lt h]
theorem block_f (v : Bool) (n : Nat) (b bits : Int) (i : Nat) (hn : n < 340282366920938463463374607431768211456) (hi' : i < 340282366920938463463374607431768211456) : carve_Block.f v (hi n) (lo n) b bits (hi i) (lo i) = some (tup5 (blockS v n b bits i)) := by
  unfold carve_Block.f blockS
  rw [cuts_f v n b bits hn]
  simp only [bsome]
  cases h : cutsS v n b bits
  · simp [tup5, hi00, lo00]
  · obtain ⟨h1, h2, h3⟩ := cutsS_iff.1 h
    obtain ⟨p1, p2, p3, p4⟩ := rightP_iff.1 h1
    have hw := widthN_le v
    rw [if_pos rfl, if_pos rfl, len_hl hi']
    simp only [bsome]
    rw [w64 (by omega) (by omega)]
    by_cases hl : (lenN i : Int) ≤ bits - b
    · rw [if_neg (by omega), if_pos hl, awidth_hl]
      simp only [bsome]
      obtain ⟨r1, r2, r3, r4⟩ := block_room h hl
      have r5 : i * 2 ^ (widthN v - bits.toNat) < 340282366920938463463374607431768211456 := by
        have := Nat.lt_of_lt_of_le r3 (pow_w v); omega
      rw [w64 (by omega) (by omega), show ((widthN v : Nat) : Int) - bits = ((widthN v - bits.toNat : Nat) : Int) by omega, shl_hl hi' (by omega)]
      simp only [bsome]
      have e : shlN i ((widthN v - bits.toNat : Nat) : Int) = i * 2 ^ (widthN v - bits.toNat) := by
        by_cases hk : widthN v - bits.toNat < 128
        · exact shlN_eq hk r5
        · have hb0 : bits = 0 := by omega
          have : (bits - b).toNat = 0 := by omega
          rw [this] at r1
          have : i = 0 := by simpa using r1
          subst this
          unfold shlN; split <;> simp
      rw [e, or_hl hn r5, or_small p4 r2]
      simp only [bsome, tup5]
    · rw [if_pos (by omega), if_neg hl]; simp [tup5, hi00, lo00]
end Go.Proofs.YtgdgklibilddgaaGreatDoor

namespace Go.Proofs.YtgdgklibilddgaaGreatDoor
open Go.RowKit Go.Proofs.YtgdgklibilddgaaGreatDoorW.PrintWords Go.Proofs.YtgdgklibilddgaaGreatDoor.PPr

theorem awake04_f : platbooklaw04_awake.f 1000 = some true := by decide +kernel
end Go.Proofs.YtgdgklibilddgaaGreatDoor

namespace Go.Proofs.YtgdgklibilddgaaGreatDoor
open Go.RowKit Go.Proofs.YtgdgklibilddgaaGreatDoorW.PrintWords Go.Proofs.YtgdgklibilddgaaGreatDoor.PPr

theorem shr_hl {n : Nat} {k : Int} (hn : n < 340282366920938463463374607431768211456) (hk : -9223372036854775808 ≤ k) : num_Shr.f (hi n) (lo n) k = some (hi (shrN n k), lo (shrN n k)) := by
  unfold num_Shr.f; rw [okW_hl, decide_eq_true hk, num_hi_lo hn]; rfl
theorem shrN_all {n : Nat} (k : Nat) (hn : n < 340282366920938463463374607431768211456) : shrN n (k : Int) = n / 2 ^ k := by
  by_cases h : k < 128
  · exact shrN_nat h hn
  · unfold shrN shlN
    rw [if_pos (by omega)]
    symm
    apply Nat.div_eq_of_lt
    refine Nat.lt_of_lt_of_le hn ?_
    have := Nat.pow_le_pow_right (n := 2) (by omega) (show 128 ≤ k by omega)
    rw [show (2 : Nat) ^ 128 = 340282366920938463463374607431768211456 by decide] at this
    exact this
theorem ones_hl (k : Int) : num_Ones.f k = some (hi (onesN k), lo (onesN k)) := rfl
theorem below_f (v : Bool) (n : Nat) (b : Int) (u : Bool) (x last : Nat) (h0 : 0 ≤ b) (h1 : b ≤ (widthN u : Int)) (hl : last ≤ 1000) (hx : x < 340282366920938463463374607431768211456) :
    carve_below.f v (hi n) (lo n) b u (hi x) (lo x) (last : Int) = some (hi (x % 2 ^ fr u b / 2 ^ last), lo (x % 2 ^ fr u b / 2 ^ last)) := by
  unfold carve_below.f
  have hw := widthN_le u
  rw [awidth_hl]
  simp only [bsome]
  rw [w64 (by omega) (by omega), ones_hl, ones_val h0 h1]
  simp only [bsome]
  rw [and_hl hx (fr_lt u b), and_ones]
  simp only [bsome]
  have hm : x % 2 ^ fr u b < 340282366920938463463374607431768211456 := Nat.lt_of_le_of_lt (Nat.mod_le _ _) hx
  rw [shr_hl hm (by omega), shrN_all last hm]
  simp only [bsome]
end Go.Proofs.YtgdgklibilddgaaGreatDoor

namespace Go.Proofs.YtgdgklibilddgaaGreatDoor
open Go.RowKit Go.Proofs.YtgdgklibilddgaaGreatDoorW.PrintWords Go.Proofs.YtgdgklibilddgaaGreatDoor.PPr

theorem ncmp_hl {n m : Nat} (hn : n < 340282366920938463463374607431768211456) (hm : m < 340282366920938463463374607431768211456) : num_Cmp.f (hi n) (lo n) (hi m) (lo m) = some (cmpN n m) := by
  unfold num_Cmp.f; rw [okW_hl, okW_hl, num_hi_lo hn, num_hi_lo hm]; rfl
theorem fr_toNat (v : Bool) (c : Int) : widthN v - c.toNat = fr v c := rfl
/-- what the block of a number is -/
theorem block_at {v : Bool} {n : Nat} {b bits : Int} {i : Nat} (h : cutsS v n b bits = true) (hl : (lenN i : Int) ≤ bits - b) :
    blockS v n b bits i = (v, n + i * 2 ^ fr v bits, bits, 0) ∧ rightP v (n + i * 2 ^ fr v bits) bits = true ∧ (n + i * 2 ^ fr v bits) / 2 ^ fr v bits = n / 2 ^ fr v bits + i ∧ (n + i * 2 ^ fr v bits) / 2 ^ fr v b = n / 2 ^ fr v b := by
  obtain ⟨h1, h2, h3⟩ := cutsS_iff.1 h
  obtain ⟨p1, p2, p3, p4⟩ := rightP_iff.1 h1
  obtain ⟨r1, r2, r3, r4⟩ := block_room h hl
  rw [fr_toNat] at r2 r3 r4
  have hp := Nat.two_pow_pos (fr v bits)
  have hpb := Nat.two_pow_pos (fr v b)
  refine ⟨?_, rightP_iff.2 ⟨r3, by omega, h3, ?_⟩, ?_, ?_⟩
  · unfold blockS; rw [if_pos h, if_pos hl, fr_toNat]
  · rw [Nat.add_mul_mod_self_right]
    obtain ⟨q, rfl⟩ := Nat.dvd_of_mod_eq_zero p4
    rw [r4, Nat.add_comm (bits - b).toNat, Nat.pow_add, Nat.mul_assoc]; exact Nat.mul_mod_right _ _
  · exact Nat.add_mul_div_right _ _ hp
  · obtain ⟨q, rfl⟩ := Nat.dvd_of_mod_eq_zero p4
    rw [Nat.mul_add_div hpb, Nat.div_eq_of_lt r2, Nat.mul_div_cancel_left _ hpb, Nat.add_zero]
theorem block_ok {v : Bool} {n : Nat} {b bits : Int} {i : Nat} (h : (blockS v n b bits i).2.2.2 = 0) : cutsS v n b bits = true ∧ (lenN i : Int) ≤ bits - b := by
  unfold blockS at h
  split at h
  · split at h
    · exact ⟨by assumption, by assumption⟩
    · cases h
  · cases h
end Go.Proofs.YtgdgklibilddgaaGreatDoor

namespace Go.Proofs.YtgdgklibilddgaaGreatDoor
open Go.RowKit Go.Proofs.YtgdgklibilddgaaGreatDoorW.PrintWords Go.Proofs.YtgdgklibilddgaaGreatDoor.PPr

theorem within_iff {v : Bool} {n : Nat} {b : Int} {u : Bool} {m : Nat} {c : Int} : withinS v n b u m c = true ↔ rightP v n b = true ∧ rightP u m c = true ∧ c ≤ b ∧ hasS u m c v n = true := by
  unfold withinS; simp [Bool.and_eq_true]
theorem both_overlap {v : Bool} {n : Nat} {b : Int} {u : Bool} {m : Nat} {c : Int} {t : Bool} {x : Nat} (hp : hasS v n b t x = true) (hq : hasS u m c t x = true) : overlapS v n b u m c = true := by
  obtain ⟨p1, pb, rfl, p2⟩ := hasS_right hp
  obtain ⟨q1, qb, rfl, q2⟩ := hasS_right hq
  unfold overlapS
  rw [Bool.or_eq_true]
  by_cases h : c ≤ b
  · refine .inl (within_iff.2 ⟨p1, q1, h, hasS_mk q1 (rightP_B p1) ?_⟩)
    have hfr : fr t b ≤ fr t c := by unfold fr; omega
    rw [← q2]
    exact (div_mono (a := 0) p2 hfr).symm
  · refine .inr (within_iff.2 ⟨q1, p1, by omega, hasS_mk p1 (rightP_B q1) ?_⟩)
    have hfr : fr t c ≤ fr t b := by unfold fr; omega
    rw [← p2]
    exact (div_mono (a := 0) q2 hfr).symm
theorem has_iff {v : Bool} {n : Nat} {b : Int} {x : Nat} (h : rightP v n b = true) : hasS v n b v x = true ↔ n ≤ x ∧ x ≤ n + (2 ^ fr v b - 1) := by
  rw [has_between h]
  simp only [Bool.and_eq_true, decide_eq_true_iff, cmpA_le]
  constructor
  · rintro ⟨_, h1, h2⟩; exact ⟨h1, h2⟩
  · rintro ⟨h1, h2⟩; exact ⟨rightB_iff.2 (Nat.lt_of_le_of_lt h2 (last_lt h)), h1, h2⟩
theorem overlap_kind {v : Bool} {n : Nat} {b : Int} {u : Bool} {m : Nat} {c : Int} (h : overlapS v n b u m c = true) : u = v ∧ rightP v n b = true ∧ rightP u m c = true := by
  unfold overlapS at h
  rw [Bool.or_eq_true] at h
  rcases h with h | h
  · obtain ⟨h1, h2, _, h3⟩ := within_iff.1 h
    exact ⟨(hasS_right h3).2.2.1.symm, h1, h2⟩
  · obtain ⟨h1, h2, _, h3⟩ := within_iff.1 h
    exact ⟨(hasS_right h3).2.2.1, h2, h1⟩
/-- two overlap just if neither ends ahead of the other one's first address -/
theorem overlap_iff {v : Bool} {x : Nat} {a : Int} {y : Nat} {c : Int} (hx : rightP v x a = true) (hy : rightP v y c = true) :
    overlapS v x a v y c = true ↔ x ≤ y + (2 ^ fr v c - 1) ∧ y ≤ x + (2 ^ fr v a - 1) := by
  constructor
  · intro h
    unfold overlapS at h
    rw [Bool.or_eq_true] at h
    rcases h with h | h
    · have := (has_iff hy).1 (within_iff.1 h).2.2.2; omega
    · have := (has_iff hx).1 (within_iff.1 h).2.2.2; omega
  · rintro ⟨h1, h2⟩
    exact both_overlap (t := v) (x := max x y) ((has_iff hx).2 (by omega)) ((has_iff hy).2 (by omega))
theorem within_ends {v : Bool} {n : Nat} {b : Int} {m : Nat} {c : Int} (h : withinS v n b v m c = true) : m ≤ n ∧ n + (2 ^ fr v b - 1) ≤ m + (2 ^ fr v c - 1) := by
  obtain ⟨h1, h2, h3, h4⟩ := within_iff.1 h
  have h5 := (has_iff h2).1 h4
  refine ⟨h5.1, ?_⟩
  have hfr : fr v b ≤ fr v c := by unfold fr; omega
  have hpb := Nat.two_pow_pos (fr v b)
  have hpc := Nat.two_pow_pos (fr v c)
  obtain ⟨N, hN⟩ := Nat.dvd_of_mod_eq_zero (rightP_iff.1 h1).2.2.2
  obtain ⟨M, hM⟩ := Nat.dvd_of_mod_eq_zero (rightP_iff.1 h2).2.2.2
  have e : 2 ^ fr v c = 2 ^ fr v b * 2 ^ (fr v c - fr v b) := by rw [← Nat.pow_add]; congr 1; omega
  have e2 : m + 2 ^ fr v c = 2 ^ fr v b * (2 ^ (fr v c - fr v b) * M + 2 ^ (fr v c - fr v b)) := by
    rw [Nat.mul_add, ← Nat.mul_assoc, ← e, ← hM]
  have h6 : n < m + 2 ^ fr v c := by omega
  rw [hN, e2] at h6
  have h7 := Nat.lt_of_mul_lt_mul_left h6
  have h8 : 2 ^ fr v b * (N + 1) ≤ 2 ^ fr v b * (2 ^ (fr v c - fr v b) * M + 2 ^ (fr v c - fr v b)) := Nat.mul_le_mul_left _ h7
  rw [← e2, Nat.mul_add, ← hN, Nat.mul_one] at h8
  omega
/-- the ends of what two have in common -/
def partE (v : Bool) (n : Nat) (b : Int) (u : Bool) (m : Nat) (c : Int) : Nat × Int := if withinS v n b u m c = true then (n, b) else (m, c)
def spanS (v : Bool) (n : Nat) (b bits : Int) (u : Bool) (m : Nat) (c : Int) : Nat × Nat × Int :=
  if cutsS v n b bits = true ∧ rightP u m c = true then
    (if overlapS v n b u m c = true then ((partE v n b u m c).1 % 2 ^ fr v b / 2 ^ fr v bits, ((partE v n b u m c).1 + (2 ^ fr v (partE v n b u m c).2 - 1)) % 2 ^ fr v b / 2 ^ fr v bits, 0) else (0, 0, 12))
  else (0, 0, 1)
def tupS (x : Nat × Nat × Int) : Int × Int × Int × Int × Int := (hi x.1, lo x.1, hi x.2.1, lo x.2.1, x.2.2)
theorem span_j1 (k : Nat) {v : Bool} {n : Nat} {b bits : Int} {f : Nat} {c : Int} (hn : n < 340282366920938463463374607431768211456) (hc : cutsS v n b bits = true) (hf : rightP v f c = true) :
    carve_Span.j1 (k + 1) bits v (hi n) (lo n) b v (hi f) (lo f) c = some (hi (f % 2 ^ fr v b / 2 ^ fr v bits), lo (f % 2 ^ fr v b / 2 ^ fr v bits), hi ((f + (2 ^ fr v c - 1)) % 2 ^ fr v b / 2 ^ fr v bits), lo ((f + (2 ^ fr v c - 1)) % 2 ^ fr v b / 2 ^ fr v bits), 0) := by
  obtain ⟨h1, h2, h3⟩ := cutsS_iff.1 hc
  obtain ⟨p1, p2, p3, p4⟩ := rightP_iff.1 h1
  have hw := widthN_le v
  have hfl : f < 340282366920938463463374607431768211456 := Nat.lt_of_lt_of_le (rightP_iff.1 hf).1 (pow_w v)
  have hll : f + (2 ^ fr v c - 1) < 340282366920938463463374607431768211456 := Nat.lt_of_lt_of_le (last_lt hf) (pow_w v)
  have hs : fr v bits ≤ 1000 := by have := fr_le v bits; omega
  rw [carve_Span.j1, awidth_hl]
  simp only [bsome]
  rw [w64 (by omega) (by omega), show ((widthN v : Nat) : Int) - bits = ((fr v bits : Nat) : Int) by unfold fr; omega, below_f v n b v f _ p2 p3 hs hfl, last_f v f c hfl, lastS_ok hf]
  simp only [bsome, tup3]
  rw [below_f v n b v _ _ p2 p3 hs hll]
  simp only [bsome]
theorem part_ok {v : Bool} {n : Nat} {b : Int} {m : Nat} {c : Int} (h : overlapS v n b v m c = true) :
    rightP v (partE v n b v m c).1 (partE v n b v m c).2 = true ∧ n ≤ (partE v n b v m c).1 ∧ (partE v n b v m c).1 + (2 ^ fr v (partE v n b v m c).2 - 1) ≤ n + (2 ^ fr v b - 1) := by
  obtain ⟨_, h1, h2⟩ := overlap_kind h
  unfold partE
  cases hw : withinS v n b v m c
  · have hq : withinS v m c v n b = true := by unfold overlapS at h; rw [hw, Bool.false_or] at h; exact h
    have := within_ends hq
    rw [if_neg (by decide)]
    exact ⟨h2, this.1, this.2⟩
  · rw [if_pos rfl]
    exact ⟨h1, Nat.le_refl _, Nat.le_refl _⟩
theorem span_f (K : Nat) (hK : 3 ≤ K) (v : Bool) (n : Nat) (b bits : Int) (u : Bool) (m : Nat) (c : Int) (hn : n < 340282366920938463463374607431768211456) (hm : m < 340282366920938463463374607431768211456) : carve_Span.f K v (hi n) (lo n) b bits u (hi m) (lo m) c = some (tupS (spanS v n b bits u m c)) := by
  obtain ⟨k, rfl⟩ : ∃ k, K = k + 1 + 1 := ⟨K - 2, by omega⟩
  unfold carve_Span.f spanS
  rw [cuts_f v n b bits hn, pright_hl u c hm]
  simp only [bsome]
  cases h : cutsS v n b bits
  · rw [if_neg (by simp), carve_Span.j0, if_pos rfl, if_neg (by simp)]; simp [tupS, hi00, lo00]
  · cases h2 : rightP u m c
    · rw [if_pos rfl, carve_Span.j0, if_pos (show (!false) = true from rfl), if_neg (by simp)]; simp [tupS, hi00, lo00]
    · rw [if_pos rfl, carve_Span.j0, if_neg (by simp), if_pos (show true = true ∧ true = true from ⟨rfl, rfl⟩), overlap_f _ (by omega) v n b u m c hn hm]
      simp only [bsome]
      cases ho : overlapS v n b u m c
      · simp [tupS, hi00, lo00]
      · obtain ⟨rfl, h1, _⟩ := overlap_kind ho
        rw [if_pos rfl, if_pos rfl, within_f _ (by omega) u n b u m c hn hm]
        simp only [bsome]
        unfold partE
        cases hw : withinS u n b u m c
        · rw [if_neg (by decide), if_neg (by decide), span_j1 k hn h h2]; rfl
        · rw [if_pos rfl, if_pos rfl, span_j1 k hn h h1]; rfl
/-- where the span's ends lie, and which blocks lie between them -/
theorem span_between {v : Bool} {n : Nat} {b bits : Int} {m : Nat} {c : Int} (hc : cutsS v n b bits = true) (h : overlapS v n b v m c = true) :
    (spanS v n b bits v m c).2.2 = 0 ∧ (spanS v n b bits v m c).1 ≤ (spanS v n b bits v m c).2.1 ∧ (lenN (spanS v n b bits v m c).1 : Int) ≤ bits - b ∧ (lenN (spanS v n b bits v m c).2.1 : Int) ≤ bits - b ∧
    (∀ i, (lenN i : Int) ≤ bits - b → overlapS v (n + i * 2 ^ fr v bits) bits v m c = (decide ((spanS v n b bits v m c).1 ≤ i) && decide (i ≤ (spanS v n b bits v m c).2.1))) := by
  obtain ⟨_, h1, h2⟩ := overlap_kind h
  obtain ⟨_, hb1, hb2⟩ := cutsS_iff.1 hc
  obtain ⟨p1, p2, p3, p4⟩ := rightP_iff.1 h1
  obtain ⟨g1, g2, g3⟩ := part_ok h
  have hs := Nat.two_pow_pos (fr v bits)
  have hpb := Nat.two_pow_pos (fr v b)
  have hpq := Nat.two_pow_pos (fr v (partE v n b v m c).2)
  have hf : fr v b = (bits - b).toNat + fr v bits := by unfold fr; omega
  -- for each block: what it overlaps of the other one is what they have in common
  have hz : ∀ i, (lenN i : Int) ≤ bits - b → (overlapS v (n + i * 2 ^ fr v bits) bits v m c = true ↔
      n + i * 2 ^ fr v bits ≤ (partE v n b v m c).1 + (2 ^ fr v (partE v n b v m c).2 - 1) ∧ (partE v n b v m c).1 ≤ n + i * 2 ^ fr v bits + (2 ^ fr v bits - 1)) := by
    intro i hl
    obtain ⟨a1, a2, a3, a4⟩ := block_at hc hl
    rw [overlap_iff a2 h2]
    have hin := within_ends (within_mk a2 h1 hb1 a4)
    unfold partE
    cases hw : withinS v n b v m c
    · rw [if_neg (by decide)]
    · have := within_ends hw
      rw [if_pos rfl]
      simp only
      constructor <;> intro _ <;> constructor <;> omega
  have eS : spanS v n b bits v m c = ((partE v n b v m c).1 % 2 ^ fr v b / 2 ^ fr v bits, ((partE v n b v m c).1 + (2 ^ fr v (partE v n b v m c).2 - 1)) % 2 ^ fr v b / 2 ^ fr v bits, 0) := by
    unfold spanS; rw [if_pos ⟨hc, h2⟩, if_pos h]
  rw [eS]
  simp only
  obtain ⟨r0, hr0⟩ : ∃ r0, (partE v n b v m c).1 = n + r0 := ⟨(partE v n b v m c).1 - n, by omega⟩
  obtain ⟨r1, hr1⟩ : ∃ r1, (partE v n b v m c).1 + (2 ^ fr v (partE v n b v m c).2 - 1) = n + r1 := ⟨(partE v n b v m c).1 + (2 ^ fr v (partE v n b v m c).2 - 1) - n, by omega⟩
  have hle : r0 ≤ r1 := by omega
  have hlt : r1 < 2 ^ fr v b := by omega
  have hmod : ∀ r, r < 2 ^ fr v b → (n + r) % 2 ^ fr v b = r := by
    intro r hr
    obtain ⟨q, hq⟩ := Nat.dvd_of_mod_eq_zero p4
    rw [hq, Nat.mul_add_mod, Nat.mod_eq_of_lt hr]
  have hlen : ∀ r, r < 2 ^ fr v b → (lenN (r / 2 ^ fr v bits) : Int) ≤ bits - b := by
    intro r hr
    have : r / 2 ^ fr v bits < 2 ^ (bits - b).toNat := by
      rw [Nat.div_lt_iff_lt_mul hs, ← Nat.pow_add, ← hf]; exact hr
    have := (lenN_iff _ _).2 this
    omega
  rw [hr1, hr0, hmod r0 (by omega), hmod r1 hlt]
  refine ⟨trivial, Nat.div_le_div_right hle, hlen r0 (by omega), hlen r1 hlt, fun i hl => ?_⟩
  rw [Bool.eq_iff_iff, hz i hl, hr1, hr0]
  simp only [Bool.and_eq_true, decide_eq_true_iff]
  have k1 : i ≤ r1 / 2 ^ fr v bits ↔ i * 2 ^ fr v bits ≤ r1 := Nat.le_div_iff_mul_le hs
  have k2 : r0 / 2 ^ fr v bits < i + 1 ↔ r0 < (i + 1) * 2 ^ fr v bits := Nat.div_lt_iff_lt_mul hs
  rw [Nat.add_mul, Nat.one_mul] at k2
  have k3 : r0 / 2 ^ fr v bits ≤ i ↔ r0 < i * 2 ^ fr v bits + 2 ^ fr v bits := by rw [← k2]; exact Nat.lt_succ_iff.symm
  rw [k1, k3]
  constructor
  · rintro ⟨x1, x2⟩; constructor <;> omega
  · rintro ⟨x1, x2⟩; constructor <;> omega
theorem cmpN_le (a b : Nat) : cmpN a b ≤ 0 ↔ a ≤ b := by
  unfold cmpN
  split
  · constructor <;> omega
  · split
    · constructor <;> omega
    · constructor <;> omega
theorem spanS_lt (v : Bool) (n : Nat) (b bits : Int) (u : Bool) (m : Nat) (c : Int) : (spanS v n b bits u m c).1 < 340282366920938463463374607431768211456 ∧ (spanS v n b bits u m c).2.1 < 340282366920938463463374607431768211456 := by
  have hp : 2 ^ fr v b < 340282366920938463463374607431768211456 + 1 := by have := fr_lt v b; omega
  have hq : ∀ x : Nat, x % 2 ^ fr v b / 2 ^ fr v bits < 340282366920938463463374607431768211456 := by
    intro x
    have := Nat.mod_lt x (Nat.two_pow_pos (fr v b))
    exact Nat.lt_of_le_of_lt (Nat.div_le_self _ _) (by omega)
  unfold spanS
  split
  · split
    · exact ⟨hq _, hq _⟩
    · decide
  · decide
theorem carveSpans_f (v : Bool) (n : Nat) (b bits : Int) (u : Bool) (m : Nat) (c : Int) (i : Nat) (hn : n < 340282366920938463463374607431768211456) (hm : m < 340282366920938463463374607431768211456) (hi' : i < 340282366920938463463374607431768211456) :
    platbooklaw04_CarveSpans.f 1000 v (hi n) (lo n) b bits u (hi m) (lo m) c (hi i) (lo i) = some true := by
  obtain ⟨sl1, sl2⟩ := spanS_lt v n b bits u m c
  unfold platbooklaw04_CarveSpans.f
  rw [awake04_f, span_f 1000 (by omega) v n b bits u m c hn hm, rcuts_f 1000 (by omega) v n b bits hn, rrightP_f 1000 (by omega) u m c hm]
  simp only [bsome, if_true, tupS]
  have bad : cutsS v n b bits = false ∨ rightP u m c = false → platbooklaw04_CarveSpans.j0 1000 bits (spanS v n b bits u m c).2.2 true v (hi n) (lo n) b u (hi m) (lo m) c (hi i) (lo i) (hi (spanS v n b bits u m c).1) (lo (spanS v n b bits u m c).1) (hi (spanS v n b bits u m c).2.1) (lo (spanS v n b bits u m c).2.1) = some true := by
    intro h
    have e : spanS v n b bits u m c = (0, 0, 1) := by
      unfold spanS; rw [if_neg]; rintro ⟨h1, h2⟩
      rcases h with h | h
      · rw [h1] at h; cases h
      · rw [h2] at h; cases h
    rw [e, show 1000 = 999 + 1 from rfl, platbooklaw04_CarveSpans.j0, if_pos rfl]
    rfl
  cases hc : cutsS v n b bits
  · rw [if_neg (by decide)]; exact bad (.inl hc)
  · rw [if_pos rfl]
    cases hq : rightP u m c
    · exact bad (.inr hq)
    · rw [show 1000 = 999 + 1 from rfl, platbooklaw04_CarveSpans.j0, if_neg (by decide), roverlap_f 999 (by omega) v n b u m c hn hm]
      simp only [bsome]
      cases ho : overlapS v n b u m c
      · have e : spanS v n b bits u m c = (0, 0, 12) := by
          unfold spanS; rw [if_pos ⟨hc, hq⟩, if_neg (by rw [ho]; decide)]
        rw [e, if_neg (by decide)]
        rfl
      · obtain ⟨rfl, h1, _⟩ := overlap_kind ho
        obtain ⟨s0, s1, s2, s3, s4⟩ := span_between hc ho
        obtain ⟨f1, f2, _, _⟩ := block_at hc s2
        obtain ⟨t1, t2, _, _⟩ := block_at hc s3
        rw [if_pos rfl, s0, if_pos rfl, ncmp_hl sl1 sl2]
        simp only [bsome]
        rw [decide_eq_false (by have := (cmpN_le _ _).2 s1; omega), show 999 = 998 + 1 from rfl, platbooklaw04_CarveSpans.j1, if_neg (by decide), block_f u n b bits _ hn sl1, block_f u n b bits _ hn sl2, f1, t1]
        have hfl : n + (spanS u n b bits u m c).1 * 2 ^ fr u bits < 340282366920938463463374607431768211456 := Nat.lt_of_lt_of_le (rightP_iff.1 f2).1 (pow_w u)
        have htl : n + (spanS u n b bits u m c).2.1 * 2 ^ fr u bits < 340282366920938463463374607431768211456 := Nat.lt_of_lt_of_le (rightP_iff.1 t2).1 (pow_w u)
        simp only [bsome, tup5, if_true]
        rw [overlap_f 998 (by omega) u _ bits u m c hfl hm, overlap_f 998 (by omega) u _ bits u m c htl hm, s4 _ s2, s4 _ s3, decide_eq_true (Nat.le_refl (spanS u n b bits u m c).1), decide_eq_true s1, decide_eq_true (Nat.le_refl (spanS u n b bits u m c).2.1)]
        simp only [bsome, Bool.and_self, if_true, Bool.not_true]
        rw [show 998 = 997 + 1 from rfl, platbooklaw04_CarveSpans.j2, if_neg (by decide), block_f u n b bits i hn hi']
        simp only [bsome, tup5]
        by_cases hi0 : (blockS u n b bits i).2.2.2 = 0
        · obtain ⟨_, hl⟩ := block_ok hi0
          obtain ⟨z1, z2, _, _⟩ := block_at hc hl
          have hzl : n + i * 2 ^ fr u bits < 340282366920938463463374607431768211456 := Nat.lt_of_lt_of_le (rightP_iff.1 z2).1 (pow_w u)
          rw [z1]
          simp only [if_true]
          rw [overlap_f 997 (by omega) u _ bits u m c hzl hm, s4 i hl, ncmp_hl sl1 hi', ncmp_hl hi' sl2]
          simp only [bsome]
          by_cases g1 : (spanS u n b bits u m c).1 ≤ i
          · rw [if_pos ((cmpN_le _ _).2 g1), decide_eq_true g1, Bool.true_and]
            have : decide (cmpN i (spanS u n b bits u m c).2.1 ≤ 0) = decide (i ≤ (spanS u n b bits u m c).2.1) := by
              rw [Bool.eq_iff_iff, decide_eq_true_iff, decide_eq_true_iff]; exact cmpN_le _ _
            rw [this]; simp
          · rw [if_neg (fun hh => g1 ((cmpN_le _ _).1 hh)), decide_eq_false g1]; rfl
        · rw [if_neg hi0]
theorem carveSpans_walk (v : Bool) (n : Nat) (b bits : Int) (u : Bool) (m : Nat) (c : Int) (i : Nat) (w : World) (hn : n < 340282366920938463463374607431768211456) (_ : (Lit.int .i64 b).wf = true) (hm : m < 340282366920938463463374607431768211456) (_ : (Lit.int .i64 c).wf = true) (hi' : i < 340282366920938463463374607431768211456) (hG : Glob w) :
    Calls Tryz.prog 10 #[PfxV v n b, .int .i64 bits, PfxV u m c, numV i] w fun e w' => e = .returned (.bool true) ∧ Below w.heap.size w w' :=
  platbooklaw04_CarveSpans.calls 1000 v (hi n) (lo n) b bits u (hi m) (lo m) c (hi i) (lo i) true w hG rfl (carveSpans_f v n b bits u m c i hn hm hi')
end Go.Proofs.YtgdgklibilddgaaGreatDoor

namespace Go.Proofs.YtgdgklibilddgaaGreatDoor
open Go.ChangeShapes Go.WideShapes Go.ChangeAt Go.RowKit

section
variable {H : Type} {enc : TypeId × Value → H} {P : Program}
theorem post_below {f : Func} {s : ChangeSpec} {apart fresh handsOn again : Bool} {W W' : World} {args : Array Value} {v : Value} {ds gs : List (DataW H)} {before pa pv : List MemPlace}
    (hW : DataW.Whole enc P f.params.toList s.vars apart W args.toList ds gs before)
    (hres : ∀ (b : Nat) (sp : Nat → Bool) (hd : Bool), DataW.TrodAll enc P W' b sp hd f.resultTypes.toList (v.resultList f.resultTypes.size) (s.fn H (ds ++ gs)).results [])
    (hargs : ∀ sp : Nat → Bool, (∀ p ∈ before, sp p.block = true) → DataW.TrodAll enc P W' 0 sp true f.params.toList args.toList (s.fn H (ds ++ gs)).args pa)
    (hvars : ∀ sp : Nat → Bool, (∀ p ∈ before, sp p.block = true) → DataW.TrodVars enc P W' sp s.vars (s.fn H (ds ++ gs)).vars pv)
    (hps : before = pa ++ pv) (hb : Below W.heap.size W W')
    (hok : ∀ (j : Nat) (t : TypeId) (r : Value), f.resultTypes[j]? = some t → (v.resultList f.resultTypes.size)[j]? = some r → Value.okWide P W' .any 0 t r) :
    s.post enc P f apart fresh handsOn again W args v W' := by
  have hlt : ∀ p ∈ before, p.block < W.heap.size := fun p hp => hW.lt p hp
  have hold : ∀ p ∈ before, (fun b => decide (b < W.heap.size)) p.block = true := fun p hp => by simpa using hlt p hp
  refine ⟨ds, gs, before, [], pa, pv, hW, hres _ _ _, hargs _ hold, hvars _ hold, World.keptBut_mono (fun p hp => ⟨hp, ?_⟩) (hb.frame (· ∈ before)), fun _ => ?_⟩
  · rw [hps, List.mem_append] at hp
    exact Or.inr hp
  · obtain ⟨_, _, _, _, _, hz, hn⟩ := hW
    refine ⟨hok, _, _, ([] ++ pa) ++ pv, ⟨[] ++ pa, pv, trodAll_append (hargs _ (fun _ _ => rfl)) (hres _ _ _), hvars _ (fun _ _ => rfl), rfl, ?_, ?_⟩, ?_⟩
    · intro b off hp
      have hin : MemPlace.cell b off ∈ before := by rw [hps]; simpa using hp
      rw [hb.frozen (hlt _ hin)]
      exact hz b off hin
    · intro ha
      have := hn ha
      rw [hps] at this
      simpa using this
    · intro p hp _
      rw [hps]
      simpa using hp
end

theorem Tryz.own : ownKnob Tryz.prog.godebug = none := by kernel_rfl
theorem u64_bd {n : Int} (h : (Lit.int .u64 n).wf = true) : 0 ≤ n ∧ n < 18446744073709551616 := by
  simp [Lit.wf, IntKind.min, IntKind.max, IntKind.bits, IntKind.signed] at h
  omega
end Go.Proofs.YtgdgklibilddgaaGreatDoor

namespace Go.Proofs.YtgdgklibilddgaaGreatDoor
open Go.RowKit

def listA : List (String × DataW Unit) := [("math/bits.deBruijn32tab", Rows.laid_math_bits_deBruijn32tab), ("math/bits.deBruijn64tab", Rows.laid_math_bits_deBruijn64tab), ("internal/strconv.uint64pow10", Rows.laid_internal_strconv_uint64pow10), ("unicode/utf8.acceptRanges", Rows.laid_unicode_utf8_acceptRanges), ("strconv.ErrRange", Rows.laid_strconv_ErrRange), ("strconv.ErrSyntax", Rows.laid_strconv_ErrSyntax), ("unicode/utf8.first", Rows.laid_unicode_utf8_first)]
theorem doorA_met (os : Os) (args : Array Value) : laidMetH Tryz.prog listA ((World.laidAll Tryz.prog os listA).forCall (fun _ _ => 0) ⟨#[], args, []⟩).memory := by
  rw [MakeChecks.laidMetH_plain _ _ _ (by kernel_rfl)]; exact laidMet_laidAll _ (by kernel_rfl) (by kernel_rfl)
def tabZ : List Int := Lib.deBruijn64tab.map Int.ofNat
theorem listA_tab : (Rows.laid_math_bits_deBruijn64tab : DataW Unit) = Lib.tabData .u8 tabZ := by kernel_rfl
theorem listA_pow : (Rows.laid_internal_strconv_uint64pow10 : DataW Unit) = Lib.tabData .u64 Lib.pow10Tab := by kernel_rfl
theorem err_star : "*" ++ "errors.errorString" = "*errors.errorString" := by decide
theorem err_name (u : TypeId) (h : Tryz.prog.typeName? 3 u = some "*errors.errorString") : u = 170 :=
  typeName_ptr_named (nm := "errors.errorString") (by rw [err_star]; kernel_rfl) (by kernel_rfl) (by decide) u (by rw [err_star]; exact h)
theorem glob_of {W : World} (h : laidMetH Tryz.prog listA W) (hs : W.ShapedOpen Tryz.prog) : Glob W := by
  rw [MakeChecks.laidMetH_plain _ _ _ (by kernel_rfl)] at h
  unfold listA at h
  have h2 := h.tail
  have h3 := h2.tail
  have h5 := h3.tail.tail
  have h6 := h5.tail
  rw [listA_tab] at h2
  rw [listA_pow] at h3
  refine ⟨?_, ?_, ?_, ?_, ?_⟩
  · exact cell_of_shapedOpen_int (g := 0) (t := 3) (zero := #[.int .i64 0]) hs (of_decide_eq_true (by kernel_rfl)) (by kernel_rfl) rfl (by kernel_rfl) (by kernel_rfl) Tryz.underlying3
  · obtain ⟨a, s, hv, _⟩ := laid_sentinel h6 (g := 1) (by kernel_rfl) (by kernel_rfl) Tryz.underlying83 err_name Tryz.underlying170 Tryz.underlying172 rfl rfl Tryz.underlying9 (by kernel_rfl) (by kernel_rfl)
    exact ⟨_, _, hv⟩
  · obtain ⟨a, s, hv, _⟩ := laid_sentinel h5 (g := 2) (by kernel_rfl) (by kernel_rfl) Tryz.underlying83 err_name Tryz.underlying170 Tryz.underlying172 rfl rfl Tryz.underlying9 (by kernel_rfl) (by kernel_rfl)
    exact ⟨_, _, hv⟩
  · exact Lib.tabIs_of_head (P := Tryz.prog) (g := 3) (t := 174) (e := 22) (n := 20) (by kernel_rfl) (by kernel_rfl) Tryz.underlying174 Tryz.underlying22 (by kernel_rfl) (by kernel_rfl) h3
  · have hT := Lib.tabIs_of_head (P := Tryz.prog) (g := 5) (t := 185) (e := 5) (n := 64) (by kernel_rfl) (by kernel_rfl) Tryz.underlying185 Tryz.underlying5 (by kernel_rfl) (by kernel_rfl) h2
    intro j hj
    have hc := hT.cell (g := 5) (by kernel_rfl) j (by unfold tabZ; rw [List.length_map, show Lib.deBruijn64tab.length = 64 by decide]; exact hj)
    rw [hc]
    have e : tabZ.getD j 0 = ((Lib.deBruijn64tab.getD j 0 : Nat) : Int) := by
      unfold tabZ
      simp only [List.getD_eq_getElem?_getD, List.getElem?_map]
      cases Lib.deBruijn64tab[j]? <;> rfl
    rw [e]
/-- the plain wrap with the row's condition and the start's shape -/
theorem lift_shaped {H : Type} {enc : TypeId × Value → H} {C : Checked} {os : Os} {f : FuncId} {fn : Func} {s : ChangeSpec} {X : World → Array Value → Prop}
    (hX : ∀ (w w' : World) (args : Array Value), w.heap = w'.heap → X w args → X w' args)
    (own : ownKnob C.prog.godebug = none) (started : os.Started) (noInit : C.prog.inits.idxOf? f = none) (hfn : C.prog.funcs[f]? = some fn)
    (witness : ∃ (w : World) (tape : Tape) (i : Input), w.os = os ∧ (w.forCall tape i).Shaped C.prog ∧ i.vars = [] ∧ Input.okWide C.prog (w.forCall tape i) .any w.heap.size f i ∧
      ((s.pre enc C.prog fn [] false (w.forCall tape i).memory i.args ∧ X (w.forCall tape i).memory i.args) ∧ sizedMet enc C.prog fn (OpenSpec.ofChange s) false (w.forCall tape i).memory i.args) ∧ ({} : Assume).holds C.prog (lone (Frame.enter C.prog f i.args .normal) [] (w.forCall tape i)))
    (contract : ∀ (W : World) (base : Nat) (args : Array Value) (ds gs : List (DataW H)) (before : List MemPlace),
      (∀ (j : Nat) t v, fn.params[j]? = some t → args[j]? = some v → Value.okWide C.prog W .any base t v) →
      DataW.Whole enc C.prog fn.params.toList s.vars false W args.toList ds gs before → X W args → W.ShapedOpen C.prog →
      Calls C.prog f args W fun e W' => ∃ v, e = .returned v ∧ s.post enc C.prog fn false true false false W args v W') :
    ReturnsInHanded {} C os f .any (fun w args => (s.pre enc C.prog fn [] false w args ∧ X w args) ∧ sizedMet enc C.prog fn (OpenSpec.ofChange s) false w args) (s.post enc C.prog fn false true false false) := by
  refine returnsInHanded_of_calls own started noInit witness ?_
  intro w tape i _ hshape _ hok hpre _
  obtain ⟨_, _, _, fn2, hfn2, _, _, _, _, hval⟩ := hok
  obtain rfl : fn2 = fn := Option.some.inj (hfn2.symm.trans hfn)
  obtain ⟨⟨⟨ds, gs, before, hw, _⟩, hx⟩, _⟩ := hpre
  refine (contract (w.forCall tape i) w.heap.size i.args ds gs before hval (DataW.Whole.of_heap (w' := w.forCall tape i) (by rfl) hw) (hX _ _ _ (by rfl) hx) hshape).mono fun e W' ⟨v, he, hp⟩ => ?_
  subst he
  exact ChangeSpec.post_blind hp
end Go.Proofs.YtgdgklibilddgaaGreatDoor

namespace Go.Proofs.YtgdgklibilddgaaGreatDoor
open Go.ChangeShapes Go.WideShapes Go.ChangeAt Go.RowKit Go.Joins

theorem Tryz.cellsNum : Tryz.prog.cellsOf 24 = 2 := by kernel_rfl

set_option maxRecDepth 100000 in
/-- an argument that is a number of 128 bits -/
theorem open_num {H : Type} {enc : TypeId × Value → H} {W : World} {base b0 : Nat} {sp : Nat → Bool} {v : Value} {d : DataW H} {p : List MemPlace} {r : Reach}
    (hv : Value.okWide Tryz.prog W r b0 24 v) (h : DataW.Trod enc Tryz.prog W base sp true 24 v d p) :
    ∃ n : Nat, n < 340282366920938463463374607431768211456 ∧ v = numV n ∧ d = .agg [.lit (.int .u64 (hi n)), .lit (.int .u64 (lo n))] ∧ p = [] ∧ (Lit.int .u64 (hi n)).wf = true ∧ (Lit.int .u64 (lo n)).wf = true := by
  obtain ⟨c0, c1, y0, y1, m, rfl, rfl, rfl, hy0, hy1⟩ := open_agg2 Tryz.underlying24 (by kernel_rfl) Tryz.cellsNum hv h
  obtain ⟨a, e0, rfl, wa⟩ := DataW.trod_int Tryz.underlying22 hy0
  obtain ⟨b, e1, rfl, wb⟩ := DataW.trod_int Tryz.underlying22 hy1
  simp at e0 e1
  subst e0 e1
  obtain ⟨a0, a1⟩ := u64_bd wa
  obtain ⟨b0', b1⟩ := u64_bd wb
  refine ⟨num a b, num_lt a1 b1, ?_, ?_, rfl, ?_, ?_⟩
  · simp only [numV, hi_num a0 a1 b0' b1, lo_num b0' b1]
  · simp only [hi_num a0 a1 b0' b1, lo_num b0' b1]
  · rw [hi_num a0 a1 b0' b1]; exact wa
  · rw [lo_num b0' b1]; exact wb

set_option maxRecDepth 100000 in
theorem shut_num {H : Type} {enc : TypeId × Value → H} {W : World} {base : Nat} {sp : Nat → Bool} {n : Nat} (wa : (Lit.int .u64 (hi n)).wf = true) (wb : (Lit.int .u64 (lo n)).wf = true) :
    DataW.Trod enc Tryz.prog W base sp true 24 (numV n) (.agg [.lit (.int .u64 (hi n)), .lit (.int .u64 (lo n))]) [] :=
  shut_agg2 (y0 := (.lit (.int .u64 (hi n)), [])) (y1 := (.lit (.int .u64 (lo n)), [])) Tryz.underlying24 (by kernel_rfl) Tryz.cellsNum ⟨1, by simp [DataW.trod, Tryz.underlying22, wa]⟩ ⟨1, by simp [DataW.trod, Tryz.underlying22, wb]⟩
end Go.Proofs.YtgdgklibilddgaaGreatDoor

namespace Go.Proofs.YtgdgklibilddgaaGreatDoor
open Go.ChangeShapes Go.WideShapes Go.ChangeAt Go.RowKit Go.Joins

set_option maxRecDepth 100000 in
theorem Tryz.cellsAddr : Tryz.prog.cellsOf 26 = 3 := by kernel_rfl
def numD {H : Type} (n : Nat) : DataW H := .agg [.lit (.int .u64 (hi n)), .lit (.int .u64 (lo n))]
def addrD {H : Type} (v : Bool) (n : Nat) : DataW H := .agg [.lit (.bool v), numD n]
/-- the number's words are in their bounds -/
def numOk (n : Nat) : Prop := (Lit.int .u64 (hi n)).wf = true ∧ (Lit.int .u64 (lo n)).wf = true

set_option maxRecDepth 100000 in
theorem trod_bool_form {H : Type} {enc : TypeId × Value → H} {P : Program} {w : World} {base : Nat} {sp : Nat → Bool} {held : Bool} {fuel : Nat} {t : TypeId} {c : Value} {x : DataW H × List MemPlace} (ht : P.underlying t = some .bool)
    (h : DataW.trod enc P w base sp held fuel t [c] = some x) : ∃ b, c = .bool b ∧ x = (.lit (.bool b), []) := by
  cases fuel with
  | zero => simp [DataW.trod] at h
  | succ fuel =>
    simp only [DataW.trod, ht] at h
    split at h
    · rename_i e1 e2
      simp at e2
      subst e2
      exact ⟨_, rfl, (Option.some.inj h).symm⟩
    all_goals first | (rename_i e1 _; cases e1; done) | (cases h; done) | skip
    all_goals simp_all
set_option maxRecDepth 100000 in
theorem trod_num_form {H : Type} {enc : TypeId × Value → H} {W : World} {base : Nat} {sp : Nat → Bool} {held : Bool} {fuel : Nat} {c0 c1 : Value} {x : DataW H × List MemPlace}
    (h : DataW.trod enc Tryz.prog W base sp held fuel 24 [c0, c1] = some x) : ∃ n : Nat, n < 340282366920938463463374607431768211456 ∧ c0 = .int .u64 (hi n) ∧ c1 = .int .u64 (lo n) ∧ x = (numD n, []) ∧ numOk n := by
  obtain ⟨y0, y1, m, rfl, _, h0, h1⟩ := trod_struct2 Tryz.underlying24 h
  have h0' : DataW.trod enc Tryz.prog W base sp held m 22 [c0] = some y0 := h0
  have h1' : DataW.trod enc Tryz.prog W base sp held m 22 [c1] = some y1 := h1
  obtain ⟨a, e0, rfl, wa⟩ := DataW.trod_int Tryz.underlying22 h0'
  obtain ⟨b, e1, rfl, wb⟩ := DataW.trod_int Tryz.underlying22 h1'
  simp at e0 e1
  subst e0 e1
  obtain ⟨a0, a1⟩ := u64_bd wa
  obtain ⟨b0', b1⟩ := u64_bd wb
  refine ⟨num a b, num_lt a1 b1, ?_, ?_, ?_, ?_, ?_⟩
  · rw [hi_num a0 a1 b0' b1]
  · rw [lo_num b0' b1]
  · unfold numD; rw [hi_num a0 a1 b0' b1, lo_num b0' b1]; rfl
  · rw [hi_num a0 a1 b0' b1]; exact wa
  · rw [lo_num b0' b1]; exact wb
set_option maxRecDepth 100000 in
theorem trod_num_mk {H : Type} {enc : TypeId × Value → H} {W : World} {base : Nat} {sp : Nat → Bool} {held : Bool} {n : Nat} (h : numOk n) : DataW.trod enc Tryz.prog W base sp held 2 24 [.int .u64 (hi n), .int .u64 (lo n)] = some (numD n, []) := by
  obtain ⟨wa, wb⟩ := h
  have := trod_struct2_mk (enc := enc) (w := W) (base := base) (spare := sp) (held := held) (n := 1) (cs := [.int .u64 (hi n), .int .u64 (lo n)]) (y0 := (.lit (.int .u64 (hi n)), [])) (y1 := (.lit (.int .u64 (lo n)), [])) Tryz.underlying24 Tryz.cellsNum.symm
    (by show DataW.trod enc Tryz.prog W base sp held 1 22 [.int .u64 (hi n)] = _; simp [DataW.trod, Tryz.underlying22, wa])
    (by show DataW.trod enc Tryz.prog W base sp held 1 22 [.int .u64 (lo n)] = _; simp [DataW.trod, Tryz.underlying22, wb])
  exact this
set_option maxRecDepth 100000 in
theorem trod_addr_form {H : Type} {enc : TypeId × Value → H} {W : World} {base : Nat} {sp : Nat → Bool} {held : Bool} {fuel : Nat} {c0 c1 c2 : Value} {x : DataW H × List MemPlace}
    (h : DataW.trod enc Tryz.prog W base sp held fuel 26 [c0, c1, c2] = some x) : ∃ (v : Bool) (n : Nat), n < 340282366920938463463374607431768211456 ∧ c0 = .bool v ∧ c1 = .int .u64 (hi n) ∧ c2 = .int .u64 (lo n) ∧ x = (addrD v n, []) ∧ numOk n := by
  obtain ⟨y0, y1, m, rfl, _, h0, h1⟩ := trod_struct2 Tryz.underlying26 h
  have h0' : DataW.trod enc Tryz.prog W base sp held m 4 [c0] = some y0 := h0
  have h1' : DataW.trod enc Tryz.prog W base sp held m 24 [c1, c2] = some y1 := h1
  obtain ⟨v, rfl, rfl⟩ := trod_bool_form Tryz.underlying4 h0'
  obtain ⟨n, hn, rfl, rfl, rfl, ho⟩ := trod_num_form h1'
  exact ⟨v, n, hn, rfl, rfl, rfl, rfl, ho⟩
set_option maxRecDepth 100000 in
theorem trod_addr_mk {H : Type} {enc : TypeId × Value → H} {W : World} {base : Nat} {sp : Nat → Bool} {held : Bool} {v : Bool} {n : Nat} (h : numOk n) : DataW.trod enc Tryz.prog W base sp held 3 26 [.bool v, .int .u64 (hi n), .int .u64 (lo n)] = some (addrD v n, []) := by
  have := trod_struct2_mk (enc := enc) (w := W) (base := base) (spare := sp) (held := held) (n := 2) (cs := [.bool v, .int .u64 (hi n), .int .u64 (lo n)]) (y0 := (.lit (.bool v), [])) (y1 := (numD n, [])) Tryz.underlying26 Tryz.cellsAddr.symm
    (by show DataW.trod enc Tryz.prog W base sp held 2 4 [.bool v] = _; simp [DataW.trod, Tryz.underlying4])
    (trod_num_mk h)
  exact this
end Go.Proofs.YtgdgklibilddgaaGreatDoor

namespace Go.Proofs.YtgdgklibilddgaaGreatDoor
open Go.ChangeShapes Go.WideShapes Go.ChangeAt Go.RowKit Go.Joins

set_option maxRecDepth 100000 in
theorem Tryz.cellsPfx : Tryz.prog.cellsOf 38 = 4 := by kernel_rfl
def pfxD {H : Type} (v : Bool) (n : Nat) (b : Int) : DataW H := .agg [addrD v n, .lit (.int .i64 b)]
def pfxOk (n : Nat) (b : Int) : Prop := numOk n ∧ (Lit.int .i64 b).wf = true
set_option maxRecDepth 100000 in
theorem trod_pfx_form {H : Type} {enc : TypeId × Value → H} {W : World} {base : Nat} {sp : Nat → Bool} {held : Bool} {fuel : Nat} {c0 c1 c2 c3 : Value} {x : DataW H × List MemPlace}
    (h : DataW.trod enc Tryz.prog W base sp held fuel 38 [c0, c1, c2, c3] = some x) : ∃ (v : Bool) (n : Nat) (b : Int), n < 340282366920938463463374607431768211456 ∧ c0 = .bool v ∧ c1 = .int .u64 (hi n) ∧ c2 = .int .u64 (lo n) ∧ c3 = .int .i64 b ∧ x = (pfxD v n b, []) ∧ pfxOk n b := by
  obtain ⟨y0, y1, m, rfl, _, h0, h1⟩ := trod_struct2 Tryz.underlying38 h
  have h0' : DataW.trod enc Tryz.prog W base sp held m 26 [c0, c1, c2] = some y0 := h0
  have h1' : DataW.trod enc Tryz.prog W base sp held m 3 [c3] = some y1 := h1
  obtain ⟨v, n, hn, rfl, rfl, rfl, rfl, ho⟩ := trod_addr_form h0'
  obtain ⟨b, e1, rfl, wb⟩ := DataW.trod_int Tryz.underlying3 h1'
  simp at e1
  subst e1
  exact ⟨v, n, b, hn, rfl, rfl, rfl, rfl, rfl, ho, wb⟩
set_option maxRecDepth 100000 in
theorem trod_pfx_mk {H : Type} {enc : TypeId × Value → H} {W : World} {base : Nat} {sp : Nat → Bool} {held : Bool} {v : Bool} {n : Nat} {b : Int} (h : pfxOk n b) : DataW.trod enc Tryz.prog W base sp held 4 38 [.bool v, .int .u64 (hi n), .int .u64 (lo n), .int .i64 b] = some (pfxD v n b, []) := by
  have wb := h.2
  have := trod_struct2_mk (enc := enc) (w := W) (base := base) (spare := sp) (held := held) (n := 3) (cs := [.bool v, .int .u64 (hi n), .int .u64 (lo n), .int .i64 b]) (y0 := (addrD v n, [])) (y1 := (.lit (.int .i64 b), [])) Tryz.underlying38 Tryz.cellsPfx.symm
    (trod_addr_mk h.1)
    (by show DataW.trod enc Tryz.prog W base sp held 3 3 [.int .i64 b] = _; simp [DataW.trod, Tryz.underlying3, wb])
  exact this
theorem arr4 {α : Type} {cs : Array α} (h : cs.size = 4) : ∃ c0 c1 c2 c3, cs = #[c0, c1, c2, c3] := by
  rcases cs with ⟨l⟩
  match l, h with
  | [a, b, c, d], _ => exact ⟨a, b, c, d, rfl⟩
set_option maxRecDepth 100000 in
/-- a prefix as an argument -/
theorem open_pfx {H : Type} {enc : TypeId × Value → H} {W : World} {base b0 : Nat} {sp : Nat → Bool} {v : Value} {d : DataW H} {p : List MemPlace} {r : Reach}
    (hv : Value.okWide Tryz.prog W r b0 38 v) (h : DataW.Trod enc Tryz.prog W base sp true 38 v d p) :
    ∃ (u : Bool) (n : Nat) (b : Int), n < 340282366920938463463374607431768211456 ∧ (Lit.int .i64 b).wf = true ∧ v = PfxV u n b ∧ d = pfxD u n b ∧ p = [] ∧ pfxOk n b := by
  obtain ⟨cs, rfl, hsz⟩ := okWide_struct Tryz.underlying38 hv
  obtain ⟨c0, c1, c2, c3, rfl⟩ := arr4 (hsz.trans Tryz.cellsPfx)
  obtain ⟨fuel, hf⟩ := h
  obtain ⟨u, n, b, hn, rfl, rfl, rfl, rfl, e, ho⟩ := trod_pfx_form hf
  simp only [Prod.mk.injEq] at e
  exact ⟨u, n, b, hn, ho.2, rfl, e.1, e.2, ho⟩
set_option maxRecDepth 100000 in
theorem shut_pfx {H : Type} {enc : TypeId × Value → H} {W : World} {base : Nat} {sp : Nat → Bool} {u : Bool} {n : Nat} {b : Int} (h : pfxOk n b) :
    DataW.Trod enc Tryz.prog W base sp true 38 (PfxV u n b) (pfxD u n b) [] := ⟨4, trod_pfx_mk h⟩
end Go.Proofs.YtgdgklibilddgaaGreatDoor

namespace Go.Proofs.YtgdgklibilddgaaGreatDoor
open Go.ChangeShapes Go.WideShapes Go.ChangeAt Go.RowKit
open Go.ChangeMaps (open_string shut_string)

set_option maxRecDepth 100000 in
theorem carveSpans_lifted (os : Os) (started : os.Started) (H : Type) (enc : TypeId × Value → H) :
    ReturnsInHanded {} Tryz.checked os 10 .any (fun w args => (Rows.carveSpansSpec.pre enc Tryz.prog Tryz.f10 [] false w args ∧ laidMetH Tryz.prog listA w) ∧ sizedMet enc Tryz.prog Tryz.f10 (OpenSpec.ofChange Rows.carveSpansSpec) false w args)
      (Rows.carveSpansSpec.post enc Tryz.prog Tryz.f10 false true false false) := by
  refine lift_shaped (C := Tryz.checked) (X := fun w _ => laidMetH Tryz.prog listA w) (fun _ _ _ hh h => h.of_heap hh) Tryz.own started (by kernel_rfl) Tryz.func10
    (ChangeSpec.witness_shaped (enc := enc) (C := Tryz.checked) (os := os) (X := fun w _ => laidMetH Tryz.prog listA w) false (World.laidAll Tryz.prog os listA) #[.agg #[.bool false, .int .u64 0, .int .u64 0, .int .i64 0], .int .i64 0, .agg #[.bool false, .int .u64 0, .int .u64 0, .int .i64 0], .agg #[.int .u64 0, .int .u64 0]] 8 (World.laidAll_os _ _ _) (World.shaped_of_ZipB (by kernel_rfl) (by kernel_rfl)) (by kernel_rfl) (by kernel_rfl) (by kernel_rfl) (doorA_met os _)) ?_
  intro W base args ds gs before hval0 hW hL hSh
  have hval : ∀ (j : Nat) t v, Tryz.f10.params[j]? = some t → args[j]? = some v → Value.okWide Tryz.prog W .any base t v := hval0
  have hW' := hW
  obtain ⟨p, q, hA0, hV, rfl, _, _⟩ := hW
  have hA : DataW.TrodAll enc Tryz.prog W 0 (fun _ => true) true Tryz.f10.params.toList args.toList ds p := hA0
  rw [Tryz.params10] at hA hval
  obtain ⟨v0, v1, v2, v3, d0, d1, d2, d3, p0, p1, p2, p3, rfl, rfl, rfl, h0, h1, h2, h3⟩ := trodAll_four hA
  obtain ⟨rfl, rfl⟩ := trodVars_none hV
  obtain ⟨u0, x0, b0, hx0, hb0, rfl, rfl, rfl, ho0⟩ := open_pfx (hval 0 38 v0 rfl rfl) h0
  obtain ⟨x1, rfl, rfl, rfl, wx1⟩ := open_int Tryz.underlying3 (hval 1 3 v1 rfl rfl) h1
  obtain ⟨u2, x2, b2, hx2, hb2, rfl, rfl, rfl, ho2⟩ := open_pfx (hval 2 38 v2 rfl rfl) h2
  obtain ⟨x3, hx3, rfl, rfl, rfl, wa3, wb3⟩ := open_num (hval 3 24 v3 rfl rfl) h3
  clear hA0 hval0
  simp only [List.append_nil] at hW'
  refine (carveSpans_walk u0 x0 b0 x1 u2 x2 b2 x3 W hx0 hb0 hx2 hb2 hx3 (glob_of hL hSh)).mono fun e W' ⟨he, hw⟩ => ?_
  subst he
  exact ⟨_, rfl, post_below (pa := []) (pv := []) hW' (fun _ _ _ => trodAll_mk1 (shut_bool Tryz.underlying4 _)) (fun sp _ => trodAll_mk4 (shut_pfx ho0) (shut_int Tryz.underlying3 wx1) (shut_pfx ho2) (shut_num wa3 wb3)) (fun _ _ => rfl) rfl
    hw (ok_one (by kernel_rfl) rfl (okWide_bool_mk Tryz.underlying4 _))⟩

theorem carveSpans_row : Rows.CarveSpansSaid :=
  OpenClaim.holds_of_wide 10 Tryz.f10 rfl rfl rfl rfl rfl rfl rfl ⟨rfl, rfl, rfl, rfl, rfl⟩ rfl rfl rfl rfl rfl (by kernel_rfl) Tryz.func10 (by kernel_rfl)
    (of_decide_eq_true (by kernel_rfl)) (by unfold Func.isWrapper; first | (rw [if_pos (by decide +kernel)]; kernel_rfl) | (rw [if_neg (by decide +kernel)]; exact ⟨rfl, rfl⟩))
    (fun os started H enc _ => carveSpans_lifted os started H enc)

theorem carveSpans_card : Rows.CarveSpansCardSaid :=
  Claim7.holds_tied_plain_at .later [] [.data, .data, .data, .data, .sentinel, .sentinel, .pinned] true Rows.carveSpansCard.stood.harness true
    carveSpans_row (fun _ h => by cases h) (by kernel_rfl) (fun _ h => by cases h) carveSpans_row_tie rfl ⟨rfl, rfl⟩ (by kernel_rfl) rfl
    (fun f fn hf hfn => by
      obtain rfl : f = 10 := Option.some.inj ((show Tryz.prog.funcNamed "platbook/platbooklaw04.CarveSpans" = some 10 by kernel_rfl).symm.trans hf) |>.symm
      obtain rfl : fn = Tryz.f10 := (Option.some.inj (Tryz.func10.symm.trans hfn)).symm
      exact ⟨by kernel_rfl, fun j t ht => by
        rw [Tryz.params10] at ht
        have hm : t ∈ [38, 3, 38, 24] := by simpa using Array.mem_of_getElem? ht
        have hall : ([38, 3, 38, 24].all fun u => !Tryz.prog.wantsStandIn u) = true := by kernel_rfl
        exact (show Tryz.prog.wantsStandIn t = false by simpa using List.all_eq_true.1 hall t hm)⟩)
    (by kernel_rfl)
end Go.Proofs.YtgdgklibilddgaaGreatDoor

#print axioms Go.Proofs.YtgdgklibilddgaaGreatDoor.carveSpans_card
