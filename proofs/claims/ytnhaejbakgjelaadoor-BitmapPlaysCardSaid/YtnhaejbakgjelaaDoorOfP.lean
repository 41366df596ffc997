/- Plain laws of bitmaps: out of bytes. No program in sight. -/
import Derived.Test.YtnhaejbakgjelaaDoorByP
import Derived.Laws.BytesArg
import Derived.WalkKit
namespace Go.Proofs.YtnhaejbakgjelaaDoor
open Go.RowKit

/-- byte i of a text, 0 behind its end -/
def bS (s : ByteArray) (i : Nat) : Nat := if h : i < s.size then (s[i]'h).toNat else 0
theorem bS_at {s : ByteArray} {i : Nat} (h : i < s.size) : bS s i = (s[i]'h).toNat := dif_pos h
theorem bS_lt (s : ByteArray) (i : Nat) : bS s i < 256 := by
  unfold bS; split
  · exact (s[i]).toNat_lt
  · omega
theorem bS_end {s : ByteArray} {i : Nat} (h : s.size ≤ i) : bS s i = 0 := dif_neg (by omega)
def sizeS (s : ByteArray) : Nat := bS s 0 * 16777216 + bS s 1 * 65536 + bS s 2 * 256 + bS s 3
def bitS (s : ByteArray) (x : Nat) : Bool := (bS s (4 + x / 8)).testBit (x % 8)
theorem i64_or_nat (a b : Nat) (ha : a < 9223372036854775808) (hb : b < 9223372036854775808) : bits .or .i64 (a : Int) (b : Int) = ((a ||| b : Nat) : Int) := by
  have hx : a ||| b < 2 ^ 63 := Nat.or_lt_two_pow (by omega) (by omega)
  have h1 : (BitVec.ofInt 64 (a : Int)).toNat = a := by
    rw [BitVec.ofInt_natCast, BitVec.toNat_ofNat]; exact Nat.mod_eq_of_lt (by omega)
  have h2 : (BitVec.ofInt 64 (b : Int)).toNat = b := by
    rw [BitVec.ofInt_natCast, BitVec.toNat_ofNat]; exact Nat.mod_eq_of_lt (by omega)
  show IntKind.i64.wrap ((BitVec.ofInt 64 (a : Int) ||| BitVec.ofInt 64 (b : Int)).toNat : Int) = _
  rw [BitVec.toNat_or, h1, h2, IntKind.wrap_i64]
  omega
theorem size_bits (s : ByteArray) (h : 4 ≤ s.size) :
    bits .or .i64 (bits .or .i64 (bits .or .i64 (wrap64 (wrap64 ((s[0]'(by omega)).toNat : Int) * 16777216)) (wrap64 (wrap64 ((s[1]'(by omega)).toNat : Int) * 65536))) (wrap64 (wrap64 ((s[2]'(by omega)).toNat : Int) * 256))) (wrap64 ((s[3]'(by omega)).toNat : Int)) = ((sizeS s : Nat) : Int) := by
  unfold sizeS
  rw [bS_at (show 0 < s.size by omega), bS_at (show 1 < s.size by omega), bS_at (show 2 < s.size by omega), bS_at (show 3 < s.size by omega)]
  have a0 := (s[0]'(by omega)).toNat_lt
  have a1 := (s[1]'(by omega)).toNat_lt
  have a2 := (s[2]'(by omega)).toNat_lt
  have a3 := (s[3]'(by omega)).toNat_lt
  generalize (s[0]'(by omega)).toNat = x0 at *
  generalize (s[1]'(by omega)).toNat = x1 at *
  generalize (s[2]'(by omega)).toNat = x2 at *
  generalize (s[3]'(by omega)).toNat = x3 at *
  have e0 : wrap64 (wrap64 (x0 : Int) * 16777216) = ((x0 * 16777216 : Nat) : Int) := by rw [wrap64, wrap64]; omega
  have e1 : wrap64 (wrap64 (x1 : Int) * 65536) = ((x1 * 65536 : Nat) : Int) := by rw [wrap64, wrap64]; omega
  have e2 : wrap64 (wrap64 (x2 : Int) * 256) = ((x2 * 256 : Nat) : Int) := by rw [wrap64, wrap64]; omega
  have e3 : wrap64 (x3 : Int) = (x3 : Int) := by rw [wrap64]; omega
  rw [e0, e1, e2, e3, i64_or_nat _ _ (by omega) (by omega), nat_join 24 (x0 * 16777216) (x1 * 65536) (by omega) (by omega),
    i64_or_nat _ _ (by omega) (by omega), nat_join 16 (x0 * 16777216 + x1 * 65536) (x2 * 256) (by omega) (by omega),
    i64_or_nat _ _ (by omega) (by omega), nat_join 8 (x0 * 16777216 + x1 * 65536 + x2 * 256) x3 (by omega) (by omega)]
/-- what is read when k bytes are -/
def readS (s : ByteArray) (k : Nat) : Nat → Bool := fun x => decide (x < 8 * k) && bitS s x
theorem byte_shift (s : ByteArray) (k : Nat) : bS s (4 + k) * 2 ^ (8 * (k % 8)) = W (fun x => (decide (8 * k ≤ x) && decide (x < 8 * k + 8)) && bitS s x) (k / 8) := by
  have hb := bS_lt s (4 + k)
  refine W_of ?_ fun j hj => ?_
  · have : 2 ^ (8 * (k % 8)) ≤ 2 ^ 56 := Nat.pow_le_pow_right (by omega) (by omega)
    calc bS s (4 + k) * 2 ^ (8 * (k % 8)) < 256 * 2 ^ (8 * (k % 8)) := Nat.mul_lt_mul_of_pos_right hb (Nat.two_pow_pos _)
      _ ≤ 256 * 2 ^ 56 := Nat.mul_le_mul_left _ this
      _ = 2 ^ 64 := by decide
  · rw [Nat.testBit_mul_two_pow]
    unfold bitS
    by_cases h1 : 8 * (k % 8) ≤ j
    · by_cases h2 : j < 8 * (k % 8) + 8
      · have e1 : 4 + (64 * (k / 8) + j) / 8 = 4 + k := by omega
        have e2 : (64 * (k / 8) + j) % 8 = j - 8 * (k % 8) := by omega
        rw [e1, e2]
        have d1 : decide (8 * k ≤ 64 * (k / 8) + j) = true := decide_eq_true (by omega)
        have d2 : decide (64 * (k / 8) + j < 8 * k + 8) = true := decide_eq_true (by omega)
        simp [h1, d1, d2]
      · have d2 : decide (64 * (k / 8) + j < 8 * k + 8) = false := decide_eq_false (by omega)
        rw [d2, Nat.testBit_lt_two_pow (Nat.lt_of_lt_of_le hb (Nat.pow_le_pow_right (n := 2) (by omega) (show 8 ≤ j - 8 * (k % 8) by omega)))]
        simp
    · have d1 : decide (8 * k ≤ 64 * (k / 8) + j) = false := decide_eq_false (by omega)
      simp [h1, d1]
theorem read_step (s : ByteArray) (k : Nat) : bits .or .u64 (W (readS s k) (k / 8) : Int) (IntKind.u64.wrap ((bS s (4 + k) : Int) * 2 ^ (k % 8 * 8))) = ((W (readS s (k + 1)) (k / 8) : Nat) : Int) := by
  have e : IntKind.u64.wrap ((bS s (4 + k) : Int) * 2 ^ (k % 8 * 8)) = ((W (fun x => (decide (8 * k ≤ x) && decide (x < 8 * k + 8)) && bitS s x) (k / 8) : Nat) : Int) := by
    rw [← byte_shift, show ((bS s (4 + k) : Int) * 2 ^ (k % 8 * 8)) = ((bS s (4 + k) * 2 ^ (8 * (k % 8)) : Nat) : Int) from by rw [Nat.mul_comm 8]; simp, IntKind.wrap_u64]
    have := W_lt (fun x => (decide (8 * k ≤ x) && decide (x < 8 * k + 8)) && bitS s x) (k / 8)
    rw [← byte_shift] at this
    omega
  rw [e, i_or]
  congr 1
  exact W_congr fun j _ => by
    unfold readS
    generalize 64 * (k / 8) + j = x
    cases bitS s x
    · simp
    · by_cases h1 : x < 8 * k
      · have : x < 8 * (k + 1) := by omega
        simp [h1, this]
      · by_cases h2 : x < 8 * k + 8
        · have : x < 8 * (k + 1) := by omega
          have h3 : 8 * k ≤ x := by omega
          simp [h2, this, h3]
        · have : ¬ x < 8 * (k + 1) := by omega
          simp [h1, h2, this]
theorem read_other (s : ByteArray) {k k' : Nat} (h : k' ≠ k / 8) : W (readS s k) k' = W (readS s (k + 1)) k' :=
  W_congr fun j hj => by
    unfold readS
    congr 1
    rw [Bool.eq_iff_iff]; simp only [decide_eq_true_eq]; omega
theorem read_start (s : ByteArray) : readS s 0 = fun _ => false := by funext x; unfold readS; simp
theorem read_end (s : ByteArray) {k : Nat} (h : s.size = 4 + k) : readS s k = bitS s := by
  funext x
  unfold readS
  by_cases e : x < 8 * k
  · simp [e]
  · have : bitS s x = false := by unfold bitS; rw [bS_end (by omega)]; simp
    simp [e, this]
/-- does it say a map? -/
def okS (s : ByteArray) : Prop := 4 ≤ s.size ∧ sizeS s ≤ 65536 ∧ s.size = 4 + (sizeS s + 7) / 8 ∧ ∀ x, sizeS s ≤ x → bitS s x = false
/-- the last word has nothing above the last bit -/
theorem rest_zero {f : Nat → Bool} {n : Nat} (hr : 0 < n % 64) : (W f (n / 64) / 2 ^ (n % 64) = 0) ↔ ∀ x, n ≤ x → x < 64 * (n / 64) + 64 → f x = false := by
  constructor
  · intro h x h1 h2
    have hb := W_bit f (n / 64) (x - 64 * (n / 64))
    rw [show 64 * (n / 64) + (x - 64 * (n / 64)) = x from by omega] at hb
    have h3 : W f (n / 64) < 2 ^ (n % 64) := by
      rcases Nat.lt_or_ge (W f (n / 64)) (2 ^ (n % 64)) with h4 | h4
      · exact h4
      · have := Nat.div_pos h4 (Nat.two_pow_pos (n % 64)); omega
    rw [Nat.testBit_lt_two_pow (Nat.lt_of_lt_of_le h3 (Nat.pow_le_pow_right (n := 2) (by omega) (show n % 64 ≤ x - 64 * (n / 64) by omega)))] at hb
    simpa [show x - 64 * (n / 64) < 64 by omega] using hb.symm
  · intro h
    refine Nat.div_eq_of_lt ?_
    refine Nat.lt_pow_two_of_testBit _ fun i hi => ?_
    rw [W_bit]
    by_cases h2 : i < 64
    · rw [h (64 * (n / 64) + i) (by omega) (by omega)]; simp
    · simp [h2]
/-- the bytes of the map that bytes say are these bytes -/
theorem bytes_back {s : ByteArray} (h : okS s) : strOfNums (bytesOf (bitS s) (sizeS s)) = s := by
  obtain ⟨h1, h2, h3, h4⟩ := h
  have hb : ∀ t, by8 (bitS s) (8 * t) = bS s (4 + t) := by
    intro t
    apply Nat.eq_of_testBit_eq
    intro j
    unfold by8
    rw [b8_bit]
    by_cases hj : j < 8
    · unfold bitS
      rw [show (8 * t + j) / 8 = t from by omega, show (8 * t + j) % 8 = j from by omega]; simp [hj]
    · rw [Nat.testBit_lt_two_pow (Nat.lt_of_lt_of_le (bS_lt s (4 + t)) (Nat.pow_le_pow_right (n := 2) (by omega) (show 8 ≤ j by omega)))]; simp [hj]
  have a0 := bS_lt s 0
  have a1 := bS_lt s 1
  have a2 := bS_lt s 2
  have a3 := bS_lt s 3
  have hl : (strOfNums (bytesOf (bitS s) (sizeS s))).size = s.size := by rw [strOfNums_size, bytesOf_length]; omega
  have hd : ∀ i, i < s.size → (bytesOf (bitS s) (sizeS s))[i]? = some ((bS s i : Nat) : Int) := by
    intro i hi
    unfold bytesOf
    by_cases hi4 : i < 4
    · rw [List.getElem?_append_left (by simpa [hdr] using hi4)]
      have hdr0 : hdr (sizeS s) = [((bS s 0 : Nat) : Int), ((bS s 1 : Nat) : Int), ((bS s 2 : Nat) : Int), ((bS s 3 : Nat) : Int)] := by
        unfold hdr sizeS
        simp only [List.cons.injEq, and_true]
        refine ⟨by omega, by omega, by omega, by omega⟩
      rw [hdr0]
      rcases (show i = 0 ∨ i = 1 ∨ i = 2 ∨ i = 3 by omega) with rfl | rfl | rfl | rfl <;> rfl
    · rw [List.getElem?_append_right (by simp [hdr]; omega)]
      have e : i - (hdr (sizeS s)).length = i - 4 := by simp [hdr]
      rw [e]
      unfold body
      rw [List.getElem?_map, List.getElem?_range (by omega)]
      simp only [Option.map_some]
      rw [hb, show 4 + (i - 4) = i from by omega]
  apply ByteArray.ext
  apply Array.ext_getElem?
  intro i
  rw [show (strOfNums (bytesOf (bitS s) (sizeS s))).data[i]? = (strOfNums (bytesOf (bitS s) (sizeS s))).data.toList[i]? from by simp, strOfNums_data, List.getElem?_map]
  by_cases hi : i < s.size
  · rw [hd i hi]
    simp only [Option.map_some]
    have hi' : i < s.data.size := hi
    rw [Array.getElem?_eq_getElem hi', bS_at hi]
    simp
    rfl
  · have hlen := bytesOf_length (bitS s) (sizeS s)
    rw [List.getElem?_eq_none (by rw [hlen]; omega), Array.getElem?_eq_none (show s.data.size ≤ i from by have : s.data.size = s.size := rfl; omega)]
    rfl
/-- below k -/
def cutS (s : ByteArray) (k : Nat) : Nat → Bool := fun x => decide (x < k) && bitS s x
theorem cutS_zero (s : ByteArray) : cutS s 0 = fun _ => false := by funext x; unfold cutS; simp
theorem cutS_step (s : ByteArray) (k : Nat) : upd (cutS s k) k (bitS s k) = cutS s (k + 1) := by
  funext x
  unfold upd cutS
  by_cases e : x = k
  · subst e; rw [if_pos rfl]; simp
  · rw [if_neg e]
    congr 1
    rw [Bool.eq_iff_iff]; simp only [decide_eq_true_eq]; omega
theorem cutS_ok {s : ByteArray} (h : okS s) : cutS s (sizeS s) = bitS s := by
  funext x
  unfold cutS
  by_cases e : x < sizeS s
  · simp [e]
  · rw [h.2.2.2 x (by omega)]; simp
theorem cutS_top (s : ByteArray) (n : Nat) : ∀ x, n ≤ x → cutS s n x = false := fun x h => by
  unfold cutS; rw [show decide (x < n) = false from decide_eq_false (by omega)]; rfl
theorem bytes_only {s : ByteArray} (h1 : 4 ≤ s.size) (h2 : sizeS s ≤ 65536) (h3 : s.size = 4 + (sizeS s + 7) / 8) (h : strOfNums (bytesOf (cutS s (sizeS s)) (sizeS s)) = s) : okS s := by
  refine ⟨h1, h2, h3, fun x hx => ?_⟩
  by_cases hx2 : 4 + x / 8 < s.size
  · have e : bS s (4 + x / 8) = by8 (cutS s (sizeS s)) (8 * (x / 8)) := by
      have hl : (bytesOf (cutS s (sizeS s)) (sizeS s))[4 + x / 8]? = some ((by8 (cutS s (sizeS s)) (8 * (x / 8)) : Nat) : Int) := by
        unfold bytesOf
        rw [List.getElem?_append_right (by simp [hdr])]
        have e : 4 + x / 8 - (hdr (sizeS s)).length = x / 8 := by simp [hdr]
        rw [e]
        unfold body
        rw [List.getElem?_map, List.getElem?_range (by omega)]
        rfl
      have hs : s.data[4 + x / 8]? = some (s[4 + x / 8]) := by
        have hi' : 4 + x / 8 < s.data.size := hx2
        rw [Array.getElem?_eq_getElem hi']; rfl
      have hq : s.data[4 + x / 8]? = (strOfNums (bytesOf (cutS s (sizeS s)) (sizeS s))).data.toList[4 + x / 8]? := by
        rw [h]; simp
      rw [hs, strOfNums_data, List.getElem?_map, hl] at hq
      simp only [Option.map_some, Option.some.injEq] at hq
      rw [bS_at hx2, hq]
      have := by8_lt (cutS s (sizeS s)) (8 * (x / 8))
      generalize by8 (cutS s (sizeS s)) (8 * (x / 8)) = z at *
      simp
      omega
    unfold bitS
    rw [e]
    unfold by8
    rw [b8_bit]
    have : cutS s (sizeS s) (8 * (x / 8) + x % 8) = false := cutS_top s _ _ (by omega)
    rw [this]; simp
  · unfold bitS; rw [bS_end (by omega)]; simp
theorem bit_half (s : ByteArray) (i : Nat) : ((((bS s (4 + i / 8) / 2 ^ (i % 8) : Nat) : Int) % 2 == 1) : Bool) = bitS s i := by
  unfold bitS
  rw [Nat.testBit_eq_decide_div_mod_eq, Bool.eq_iff_iff]
  simp only [beq_iff_eq, decide_eq_true_eq]
  omega
theorem size_sum (s : ByteArray) (h : 4 ≤ s.size) :
    wrap64 (wrap64 (wrap64 (wrap64 (wrap64 ((s[0]'(by omega)).toNat : Int) * 16777216) + wrap64 (wrap64 ((s[1]'(by omega)).toNat : Int) * 65536)) + wrap64 (wrap64 ((s[2]'(by omega)).toNat : Int) * 256)) + wrap64 ((s[3]'(by omega)).toNat : Int)) = ((sizeS s : Nat) : Int) := by
  unfold sizeS
  rw [bS_at (show 0 < s.size by omega), bS_at (show 1 < s.size by omega), bS_at (show 2 < s.size by omega), bS_at (show 3 < s.size by omega)]
  have a0 := (s[0]'(by omega)).toNat_lt
  have a1 := (s[1]'(by omega)).toNat_lt
  have a2 := (s[2]'(by omega)).toNat_lt
  have a3 := (s[3]'(by omega)).toNat_lt
  generalize (s[0]'(by omega)).toNat = x0 at *
  generalize (s[1]'(by omega)).toNat = x1 at *
  generalize (s[2]'(by omega)).toNat = x2 at *
  generalize (s[3]'(by omega)).toNat = x3 at *
  have e0 : wrap64 (wrap64 (x0 : Int) * 16777216) = ((x0 * 16777216 : Nat) : Int) := by rw [wrap64, wrap64]; omega
  have e1 : wrap64 (wrap64 (x1 : Int) * 65536) = ((x1 * 65536 : Nat) : Int) := by rw [wrap64, wrap64]; omega
  have e2 : wrap64 (wrap64 (x2 : Int) * 256) = ((x2 * 256 : Nat) : Int) := by rw [wrap64, wrap64]; omega
  have e3 : wrap64 (x3 : Int) = (x3 : Int) := by rw [wrap64]; omega
  rw [e0, e1, e2, e3]
  rw [IntWalk.wrap64_in (((x0 * 16777216 : Nat) : Int) + ((x1 * 65536 : Nat) : Int)) (by omega), IntWalk.wrap64_in (((x0 * 16777216 : Nat) : Int) + ((x1 * 65536 : Nat) : Int) + ((x2 * 256 : Nat) : Int)) (by omega), IntWalk.wrap64_in _ (by omega)]
  omega
theorem wrap_twice (x : Int) : wrap64 (wrap64 x) = wrap64 x := by unfold wrap64; omega
end Go.Proofs.YtnhaejbakgjelaaDoor
