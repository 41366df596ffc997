/-
A part of the proof of blocksNil_card: its lemmas and walks, part 1. No condition.
-/
import Derived.WalkLawsBesides
import Derived.Lib.Hide
import Derived.RegionTactic
import Derived.ChangeAlike
import Derived.Laws.BitsAllLaws
import Derived.Shelf.Strings.Builder1
import Derived.Shelf.Strings.Builder2
import Derived.Shelf.Strings.OnBuilder
import Derived.Shelf.Strings.BuilderF
import Derived.Shelf.Strings.BuilderK
import Derived.Shelf.Utf8.RuneCount
import Derived.Shelf.Strings.Builder2Cap
import Derived.Shelf.Strconv.Atoi
import Derived.Shelf.Strconv.Itoa0
import Derived.Shelf.Strconv.Itoa1
import Derived.Shelf.LaysM
import Derived.Shelf.Strconv.Itoa2
import Derived.Shelf.Strconv.Itoa3
import Derived.Shelf.Strconv.AtoiErrFast
import Derived.Shelf.Strconv.ParseIntEmpty
import Derived.Shelf.Strconv.AtoiFail
import Derived.Shelf.Strconv.Clone
import Derived.Shelf.Strconv.SyntaxError
import Derived.Shelf.LaysC
import Derived.Shelf.Strconv.ToError
import Derived.Shelf.Strconv.Lower
import Derived.Shelf.Strconv.ParseUint10
import Derived.Shelf.Strconv.ParseUint10Empty
import Derived.Shelf.Strconv.ParseUint10Any
import Derived.Shelf.Strconv.ParseInt10
import Derived.Shelf.Strconv.AtoiLong
import Derived.Shelf.Strconv.AtoiInnerAll
import Derived.Shelf.Strconv.RangeError
import Derived.Shelf.Strconv.ToErrorRange
import Derived.Shelf.Strconv.AtoiAll
import Derived.Shelf.Strconv.ParseUintEmpty
import Derived.Shelf.Strconv.ParseUint10b64
import Derived.Shelf.Strconv.ParseUint10b32
import Derived.Shelf.Strconv.ParseUint10b16
import Derived.Shelf.Strconv.ParseUint10b8
import Derived.Ground.MpProg
import Derived.Shelf.Pu.ParseUintPublic10
import Derived.Shelf.Pu.ErrVarParseUint
import Derived.Shelf.Strings.Search1
import Derived.Shelf.Strings.Search2
import Derived.Shelf.Strings.Search3
import Derived.Shelf.Strings.Cut
import Derived.Shelf.Strings.Count
import Derived.Shelf.Strings.Shaped
import Derived.Shelf.Strings.Split
import Derived.Shelf.Strings.SplitShaped
import Derived.Shelf.Unicode.Decode
import Derived.Shelf.Strings.RuneCount
import Derived.Shelf.Strings.Explode
import Derived.Shelf.Unicode.DecodeSlow
import Derived.Shelf.Unicode.DecodeAny
import Derived.Laws.Externs
import Derived.Laws.ResultCell
import Derived.LoopTactic
import Derived.Lib.ItoaNum
import Derived.Deep.RegionWith
import Derived.StillTailTactics
import Derived.Laws.AppendOwn
import Derived.Laws.Bits64b
import Derived.Lib.Split
import Derived.Lib.ParseIntB
import Derived.Lib.Join
import Derived.Lib.LaidTab
import Derived.Lib.AppendIntMem
import Derived.Lib.AtoiErrMem
import Derived.Shelf.Spec.TrailingZeros
import Derived.Outline
import Derived.Deep.AppendSrc
import Derived.Test.YtpfilldnfpcpkaaGreatDoorBnlM0
set_option linter.unusedVariables false
set_option linter.unusedSimpArgs false
namespace Go.Proofs.YtpfilldnfpcpkaaGreatDoor
open Go.RowKit

theorem bl_alloc {a w : World} (h : Below a.heap.size a w) (o : Obj) : Below a.heap.size a (w.alloc o) := h.alloc h.size o
theorem bl_drew {a w : World} (h : Below a.heap.size a w) : Below a.heap.size a w.drew := h.drew
theorem bl_trans {a b c : World} (h : Below a.heap.size a b) (k : Below b.heap.size b c) : Below a.heap.size a c := h.trans (k.mono h.size)
theorem bl_set {a w : World} (h : Below a.heap.size a w) {p : Addr} (hp : a.heap.size ≤ p.block) (u : Value) : Below a.heap.size a (w.setCell p u) := h.setCell hp u
theorem bcell {W w1 : World} (hb : Below W.heap.size W w1) : (∀ b o, b < W.heap.size → w1.cell? ⟨b, o, none⟩ = W.cell? ⟨b, o, none⟩) ∧ (∀ b o, b < W.heap.size → w1.frozen? ⟨b, o, none⟩ = W.frozen? ⟨b, o, none⟩) :=
  ⟨fun b o h => hb.cell (p := ⟨b, o, none⟩) h, fun b o h => hb.frozen (p := ⟨b, o, none⟩) h⟩
theorem bl_drewN {a w : World} (h : Below a.heap.size a w) (n : Nat) : Below a.heap.size a (w.drewN n) := ⟨h.os, h.tape, h.output, h.size, h.block⟩
end Go.Proofs.YtpfilldnfpcpkaaGreatDoor

namespace Go.Proofs.YtpfilldnfpcpkaaGreatDoor
open Go.RowKit
theorem bl_ {a w : World} (h : Below a.heap.size a w := by repeat (first | (with_reducible exact Below.refl _ _) | (with_reducible assumption) | (with_reducible refine bl_alloc ?_ _) | (with_reducible refine bl_drew ?_) | (with_reducible refine bl_drewN ?_ _) | (with_reducible refine bl_set ?_ (by first | (simp; done) | (simp; omega)) _) | (with_reducible refine bl_trans ?_ ‹_›))) : Below a.heap.size a w := h
end Go.Proofs.YtpfilldnfpcpkaaGreatDoor
namespace Go.Proofs.YtpfilldnfpcpkaaGreatDoor
open Go.RowKit

def hi (n : Nat) : Int := ((n / 18446744073709551616 % 18446744073709551616 : Nat) : Int)
def lo (n : Nat) : Int := ((n % 18446744073709551616 : Nat) : Int)
abbrev numV (n : Nat) : Value := .agg #[.int .u64 (hi n), .int .u64 (lo n)]
def num (h l : Int) : Nat := h.toNat * 18446744073709551616 + l.toNat

theorem hi_nn (n : Nat) : 0 ≤ hi n := by unfold hi; omega
theorem hi_lt (n : Nat) : hi n < 18446744073709551616 := by unfold hi; omega
theorem lo_nn (n : Nat) : 0 ≤ lo n := by unfold lo; omega
theorem lo_lt (n : Nat) : lo n < 18446744073709551616 := by unfold lo; omega
theorem num_hi_lo {n : Nat} (h : n < 340282366920938463463374607431768211456) : num (hi n) (lo n) = n := by unfold num hi lo; omega
theorem num_lt {h l : Int} (h1 : h < 18446744073709551616) (h2 : l < 18446744073709551616) : num h l < 340282366920938463463374607431768211456 := by unfold num; omega
theorem hi_num {h l : Int} (h0 : 0 ≤ h) (h1 : h < 18446744073709551616) (l0 : 0 ≤ l) (h2 : l < 18446744073709551616) : hi (num h l) = h := by unfold num hi; omega
theorem lo_num {h l : Int} (l0 : 0 ≤ l) (h2 : l < 18446744073709551616) : lo (num h l) = l := by unfold num lo; omega
theorem numV_of {A B : Int} {N : Nat} (a0 : 0 ≤ A) (a1 : A < 18446744073709551616) (b0 : 0 ≤ B) (b1 : B < 18446744073709551616) (h : num A B = N) : Value.agg #[.int .u64 A, .int .u64 B] = numV N := by
  subst h; simp only [numV, hi_num a0 a1 b0 b1, lo_num b0 b1]
theorem hi_lo_eq {a b : Nat} (ha : a < 340282366920938463463374607431768211456) (hb : b < 340282366920938463463374607431768211456) : (hi a = hi b ∧ lo a = lo b) ↔ a = b := by
  constructor
  · rintro ⟨h1, h2⟩; rw [← num_hi_lo ha, ← num_hi_lo hb, h1, h2]
  · rintro rfl; exact ⟨rfl, rfl⟩

def addN (a b : Nat) : Nat := (a + b) % 340282366920938463463374607431768211456
def addF (a b : Nat) : Bool := decide (a + b < 340282366920938463463374607431768211456)
def shlN (a : Nat) (k : Int) : Nat :=
  if 128 ≤ k ∨ k ≤ -128 then 0 else if k < 0 then a / 2 ^ (-k).toNat else a * 2 ^ k.toNat % 340282366920938463463374607431768211456
def notN (a : Nat) : Nat := 340282366920938463463374607431768211455 - a
def onesN (k : Int) : Nat := if k < 1 then 0 else if 128 ≤ k then 340282366920938463463374607431768211455 else 2 ^ k.toNat - 1
def lenN (a : Nat) : Nat := if a = 0 then 0 else Nat.log2 a + 1
def cmpN (a b : Nat) : Int := if a < b then -1 else if a = b then 0 else 1
theorem xor_max (a : Int) (h1 : 0 ≤ a) (h2 : a < 18446744073709551616) : bits .xor .u64 IntKind.u64.max a = 18446744073709551615 - a := by
  have e : IntKind.u64.max = 18446744073709551615 := by decide
  rw [e, u64_xor _ _ (by omega) (by omega) h1 h2]
  have : ((18446744073709551615 : Int).toNat ^^^ a.toNat) = 2 ^ 64 - (a.toNat + 1) := by
    rw [show (18446744073709551615 : Int).toNat = 2 ^ 64 - 1 from by decide]
    apply Nat.eq_of_testBit_eq
    intro i
    rw [Nat.testBit_xor, Nat.testBit_two_pow_sub_one, Nat.testBit_two_pow_sub_succ (by omega)]
    by_cases hi : i < 64
    · simp [hi]
    · simp [hi, Nat.testBit_lt_two_pow (show a.toNat < 2 ^ i from Nat.lt_of_lt_of_le (by omega : a.toNat < 2 ^ 64) (Nat.pow_le_pow_right (by omega) (by omega)))]
  rw [this]; omega

theorem not_words {ah al : Int} (h1 : 0 ≤ ah) (h2 : ah < 18446744073709551616) (h3 : 0 ≤ al) (h4 : al < 18446744073709551616) :
    Value.agg #[.int .u64 (bits .xor .u64 IntKind.u64.max ah), .int .u64 (bits .xor .u64 IntKind.u64.max al)] = numV (notN (num ah al)) := by
  rw [xor_max ah h1 h2, xor_max al h3 h4]
  refine numV_of (by omega) (by omega) (by omega) (by omega) ?_
  unfold num notN; omega

theorem wrap_u64 {x : Int} (h : 0 ≤ x) : IntKind.u64.wrap x = x % 18446744073709551616 := by
  rfl

theorem pow_cast (k : Nat) : ((2 : Int) ^ k) = ((2 ^ k : Nat) : Int) := by simp

theorem pow_split {k : Nat} (hk : k ≤ 64) : 2 ^ (64 - k) * 2 ^ k = 18446744073709551616 := by
  rw [← Nat.pow_add, show 64 - k + k = 64 from by omega]

/-- the low word's upper bits lie behind the high word's lower bits -/
theorem or_shift {h l k : Nat} (hk : k < 64) (hl : l < 18446744073709551616) :
    (h * 2 ^ k % 18446744073709551616) ||| (l / 2 ^ (64 - k)) = (h * 18446744073709551616 + l) * 2 ^ k / 18446744073709551616 % 18446744073709551616 := by
  have hp := pow_split (k := k) (by omega)
  have hlt : l / 2 ^ (64 - k) < 2 ^ k := by
    rw [Nat.div_lt_iff_lt_mul (Nat.two_pow_pos _), Nat.mul_comm, hp]; exact hl
  have e1 : h * 2 ^ k % 18446744073709551616 = 2 ^ k * (h % 2 ^ (64 - k)) := by
    rw [← hp, Nat.mul_mod_mul_right, Nat.mul_comm]
  rw [e1, ← Nat.two_pow_add_eq_or_of_lt hlt]
  have e2 : (h * 18446744073709551616 + l) * 2 ^ k / 18446744073709551616 = h * 2 ^ k + l / 2 ^ (64 - k) := by
    have e4 : l * 2 ^ k / 18446744073709551616 = l / 2 ^ (64 - k) := by rw [← hp, Nat.mul_div_mul_right _ _ (Nat.two_pow_pos _)]
    rw [Nat.add_mul, Nat.mul_right_comm, Nat.add_comm, Nat.add_mul_div_right _ _ (by omega), Nat.add_comm, e4]
  rw [e2, ← hp, Nat.mul_comm (2 ^ (64 - k)) (2 ^ k)]
  have e3 : (h * 2 ^ k + l / 2 ^ (64 - k)) = 2 ^ k * h + l / 2 ^ (64 - k) := by rw [Nat.mul_comm]
  rw [e3, Nat.mod_mul, Nat.mul_add_mod, Nat.mod_eq_of_lt hlt, Nat.mul_add_div (Nat.two_pow_pos _), Nat.div_eq_of_lt hlt, Nat.add_zero, Nat.add_comm]


end Go.Proofs.YtpfilldnfpcpkaaGreatDoor

namespace Go.Proofs.YtpfilldnfpcpkaaGreatDoor
open Go.RowKit

theorem numV_nat {A B N : Nat} (hA : A < 18446744073709551616) (hB : B < 18446744073709551616) (h : A * 18446744073709551616 + B = N) :
    Value.agg #[.int .u64 (A : Int), .int .u64 (B : Int)] = numV N := by
  refine numV_of (by omega) (by omega) (by omega) (by omega) ?_
  unfold num; simp only [Int.toNat_natCast]; exact h
theorem wrap_nat (x : Nat) : IntKind.u64.wrap (x : Int) = ((x % 18446744073709551616 : Nat) : Int) := by
  rw [wrap_u64 (by omega)]; omega
theorem mulpow (a k : Nat) : (a : Int) * 2 ^ k = ((a * 2 ^ k : Nat) : Int) := by
  rw [Int.natCast_mul, Int.natCast_pow]; rfl
theorem divpow (a k : Nat) : (a : Int) / 2 ^ k = ((a / 2 ^ k : Nat) : Int) := by
  rw [Int.natCast_ediv, Int.natCast_pow]; rfl
theorem two64 : (2 : Nat) ^ 64 = 18446744073709551616 := by decide

theorem join_mod (x : Nat) : x / 18446744073709551616 % 18446744073709551616 * 18446744073709551616 + x % 18446744073709551616 = x % 340282366920938463463374607431768211456 := by omega
theorem join_div {x : Nat} : x / 18446744073709551616 * 18446744073709551616 + x % 18446744073709551616 = x := by omega

theorem shl_nat {h l k : Nat} (hk : k < 64) (hl : l < 18446744073709551616) :
    ((h * 2 ^ k % 18446744073709551616) ||| (l / 2 ^ (64 - k))) * 18446744073709551616 + l * 2 ^ k % 18446744073709551616 = (h * 18446744073709551616 + l) * 2 ^ k % 340282366920938463463374607431768211456 := by
  rw [or_shift hk hl]
  have c4 : l * 2 ^ k % 18446744073709551616 = (h * 18446744073709551616 + l) * 2 ^ k % 18446744073709551616 := by
    rw [Nat.add_mul, Nat.mul_right_comm, Nat.mul_add_mod_self_right]
  rw [c4]
  exact join_mod _

theorem or_lt {a b : Nat} (ha : a < 18446744073709551616) (hb : b < 18446744073709551616) : a ||| b < 18446744073709551616 := by
  rw [← two64] at *; exact Nat.or_lt_two_pow ha hb

theorem shl_words {h l k : Nat} (h1 : h < 18446744073709551616) (h2 : l < 18446744073709551616) (k1 : k < 64) :
    Value.agg #[.int .u64 (bits .or .u64 (IntKind.u64.wrap ((h : Int) * 2 ^ k)) ((l : Int) / 2 ^ (64 - k))), .int .u64 (IntKind.u64.wrap ((l : Int) * 2 ^ k))] = numV (shlN (h * 18446744073709551616 + l) k) := by
  have hlt : l / 2 ^ (64 - k) < 18446744073709551616 := Nat.lt_of_le_of_lt (Nat.div_le_self _ _) h2
  have hm : ∀ x : Nat, x % 18446744073709551616 < 18446744073709551616 := fun x => Nat.mod_lt _ (by omega)
  rw [mulpow, mulpow, divpow, wrap_nat, wrap_nat, u64_or_nat _ _ (hm _) hlt]
  refine numV_nat (or_lt (hm _) hlt) (hm _) ?_
  rw [shl_nat k1 h2]
  unfold shlN
  rw [if_neg (by omega), if_neg (by omega), Int.toNat_natCast]

theorem shl_words_up {h l k : Nat} (k1 : k < 64) :
    Value.agg #[.int .u64 (IntKind.u64.wrap ((l : Int) * 2 ^ k)), .int .u64 0] = numV (shlN (h * 18446744073709551616 + l) ((k : Int) + 64)) := by
  have hm : ∀ x : Nat, x % 18446744073709551616 < 18446744073709551616 := fun x => Nat.mod_lt _ (by omega)
  rw [mulpow, wrap_nat]
  refine numV_nat (B := 0) (hm _) (by omega) ?_
  unfold shlN
  rw [if_neg (by omega), if_neg (by omega), show ((k : Int) + 64).toNat = k + 64 from by omega]
  rw [Nat.pow_add, ← Nat.mul_assoc, two64]
  have e3 : (h * 18446744073709551616 + l) * 2 ^ k = h * 2 ^ k * 18446744073709551616 + l * 2 ^ k := by rw [Nat.add_mul, Nat.mul_right_comm]
  rw [e3]
  clear e3 hm
  generalize h * 2 ^ k = x
  generalize l * 2 ^ k = y
  omega

theorem or_shift_r {h l k : Nat} (hk : k < 64) (hl : l < 18446744073709551616) :
    (l / 2 ^ k) ||| (h * 2 ^ (64 - k) % 18446744073709551616) = (h * 18446744073709551616 + l) / 2 ^ k % 18446744073709551616 := by
  have hp := pow_split (k := k) (by omega)
  have hlt : l / 2 ^ k < 2 ^ (64 - k) := by
    rw [Nat.div_lt_iff_lt_mul (Nat.two_pow_pos _), hp]; exact hl
  have e1 : h * 2 ^ (64 - k) % 18446744073709551616 = 2 ^ (64 - k) * (h % 2 ^ k) := by
    rw [← hp, Nat.mul_comm (2 ^ (64 - k)) (2 ^ k), Nat.mul_mod_mul_right, Nat.mul_comm]
  rw [e1, Nat.or_comm, ← Nat.two_pow_add_eq_or_of_lt hlt]
  have e2 : (h * 18446744073709551616 + l) / 2 ^ k = h * 2 ^ (64 - k) + l / 2 ^ k := by
    rw [← hp, ← Nat.mul_assoc, Nat.add_comm, Nat.add_mul_div_right _ _ (Nat.two_pow_pos _), Nat.add_comm]
  rw [e2, ← hp]
  have e3 : h * 2 ^ (64 - k) + l / 2 ^ k = 2 ^ (64 - k) * h + l / 2 ^ k := by rw [Nat.mul_comm]
  rw [e3, Nat.mod_mul, Nat.mul_add_mod, Nat.mod_eq_of_lt hlt, Nat.mul_add_div (Nat.two_pow_pos _), Nat.div_eq_of_lt hlt, Nat.add_zero, Nat.add_comm]

def shrN (a : Nat) (k : Int) : Nat := shlN a (-k)
theorem shrN_nat {a k : Nat} (k1 : k < 128) (ha : a < 340282366920938463463374607431768211456) : shrN a k = a / 2 ^ k := by
  unfold shrN shlN
  rw [if_neg (by omega)]
  by_cases hK : k = 0
  · subst hK; simp; omega
  · rw [if_pos (by omega), show (- -(k : Int)).toNat = k from by omega]

theorem div_join {h l k : Nat} (hl : l < 18446744073709551616) : h / 2 ^ k = (h * 18446744073709551616 + l) / 2 ^ k / 18446744073709551616 := by
  rw [Nat.div_div_eq_div_mul, Nat.mul_comm (2 ^ k), ← Nat.div_div_eq_div_mul]
  congr 1; omega

theorem shr_words {h l k : Nat} (h1 : h < 18446744073709551616) (h2 : l < 18446744073709551616) (k1 : k < 64) :
    Value.agg #[.int .u64 ((h : Int) / 2 ^ k), .int .u64 (bits .or .u64 ((l : Int) / 2 ^ k) (IntKind.u64.wrap ((h : Int) * 2 ^ (64 - k))))] = numV (shrN (h * 18446744073709551616 + l) k) := by
  have hlt : l / 2 ^ k < 18446744073709551616 := Nat.lt_of_le_of_lt (Nat.div_le_self _ _) h2
  have hlt2 : h / 2 ^ k < 18446744073709551616 := Nat.lt_of_le_of_lt (Nat.div_le_self _ _) h1
  have hm : ∀ x : Nat, x % 18446744073709551616 < 18446744073709551616 := fun x => Nat.mod_lt _ (by omega)
  rw [mulpow, divpow, divpow, wrap_nat, u64_or_nat _ _ hlt (hm _)]
  refine numV_nat hlt2 (or_lt hlt (hm _)) ?_
  rw [or_shift_r k1 h2, shrN_nat (by omega) (by omega), div_join (h := h) (l := l) (k := k) h2]
  exact join_div

theorem shr_words_up {h l k : Nat} (h1 : h < 18446744073709551616) (h2 : l < 18446744073709551616) (k1 : k < 64) :
    Value.agg #[.int .u64 0, .int .u64 ((h : Int) / 2 ^ k)] = numV (shrN (h * 18446744073709551616 + l) ((k : Int) + 64)) := by
  have hlt2 : h / 2 ^ k < 18446744073709551616 := Nat.lt_of_le_of_lt (Nat.div_le_self _ _) h1
  rw [divpow]
  refine numV_nat (A := 0) (by omega) hlt2 ?_
  rw [show ((k : Int) + 64) = ((64 + k : Nat) : Int) from by omega, shrN_nat (by omega) (by omega), Nat.pow_add, two64, ← Nat.div_div_eq_div_mul]
  rw [show (h * 18446744073709551616 + l) / 18446744073709551616 = h from by omega, Nat.zero_mul, Nat.zero_add]

theorem shlN_lt (a : Nat) (k : Int) (ha : a < 340282366920938463463374607431768211456) : shlN a k < 340282366920938463463374607431768211456 := by
  unfold shlN
  split
  · omega
  · split
    · exact Nat.lt_of_le_of_lt (Nat.div_le_self _ _) ha
    · exact Nat.mod_lt _ (by omega)
theorem shl_over {a : Nat} {k : Int} (h : 128 ≤ k ∨ k ≤ -128) : Value.agg #[.int .u64 0, .int .u64 0] = numV (shlN a k) := by
  unfold shlN; rw [if_pos h]; rfl
theorem shr_over {a : Nat} {k : Int} (h : 128 ≤ k ∨ k ≤ -128) : Value.agg #[.int .u64 0, .int .u64 0] = numV (shrN a k) := by
  unfold shrN shlN; rw [if_pos (by omega)]; rfl

theorem ones_words {k : Int} (k1 : 1 ≤ k) (k2 : k < 128) :
    onesN k = notN (num (hi (shlN (num (hi (notN (num 0 0))) (lo (notN (num 0 0)))) k)) (lo (shlN (num (hi (notN (num 0 0))) (lo (notN (num 0 0)))) k))) := by
  have e0 : notN (num 0 0) = 340282366920938463463374607431768211455 := by decide
  rw [e0, num_hi_lo (n := 340282366920938463463374607431768211455) (by omega), num_hi_lo (shlN_lt _ _ (by omega))]
  obtain ⟨K, rfl⟩ := Int.eq_ofNat_of_zero_le (show 0 ≤ k by omega)
  unfold onesN shlN notN
  rw [if_neg (by omega), if_neg (by omega), if_neg (by omega), if_neg (by omega), Int.toNat_natCast]
  have hp : 2 ^ K * 2 ^ (128 - K) = 340282366920938463463374607431768211456 := by
    rw [← Nat.pow_add, show K + (128 - K) = 128 from by omega]
  have h1 : 0 < 2 ^ K := Nat.two_pow_pos _
  have h2 : 0 < 2 ^ (128 - K) := Nat.two_pow_pos _
  have e1 : 340282366920938463463374607431768211455 * 2 ^ K = 340282366920938463463374607431768211456 * (2 ^ K - 1) + (340282366920938463463374607431768211456 - 2 ^ K) := by
    have : 2 ^ K ≤ 340282366920938463463374607431768211456 := by rw [← hp]; exact Nat.le_mul_of_pos_right _ h2
    generalize 2 ^ K = x at *
    omega
  have h3 : 2 ^ K ≤ 340282366920938463463374607431768211456 := by rw [← hp]; exact Nat.le_mul_of_pos_right _ h2
  rw [e1, Nat.mul_add_mod]
  clear e1 hp h2 e0
  generalize 2 ^ K = x at *
  omega
end Go.Proofs.YtpfilldnfpcpkaaGreatDoor

namespace Go.Proofs
open Go.Shelf
def Tryz.lays156_ren : Go.Shelf.Ren := ⟨fun | 156 => 158 | 165 => 183 | 166 => 184 | 169 => 185 | 240 => 199 | 241 => 200 | 276 => 211 | 277 => 212 | n => n, fun | 31 => 190 | 9 => 9 | 3 => 3 | 4 => 4 | 0 => 0 | 20 => 20 | 72 => 214 | 76 => 145 | 70 => 212 | 37 => 166 | 75 => 144 | 127 => 228 | 164 => 240 | 5 => 5 | 80 => 55 | n => n, fun | n => n⟩
theorem Tryz.lays156 : Go.Proofs.Lays.n156 Tryz.prog Tryz.lays156_ren := {
  mixed := by kernel_rfl
  f156 := Tryz.func158.trans (congrArg some (by kernel_rfl))
  f165 := Tryz.func183.trans (congrArg some (by kernel_rfl))
  f166 := Tryz.func184.trans (congrArg some (by kernel_rfl))
  f169 := Tryz.func185.trans (congrArg some (by kernel_rfl))
  f240 := Tryz.func199.trans (congrArg some (by kernel_rfl))
  f241 := Tryz.func200.trans (congrArg some (by kernel_rfl))
  f276 := Tryz.func211.trans (congrArg some (by kernel_rfl))
  f277 := Tryz.func212.trans (congrArg some (by kernel_rfl))
  t0 := Tryz.underlying0
  a0 := Tryz.isAgg0
  z0 := Tryz.sizeOf0
  v0 := Tryz.zeroValue0
  t3 := Tryz.underlying3
  a3 := Tryz.isAgg3
  z3 := Tryz.sizeOf3
  v3 := Tryz.zeroValue3
  t4 := Tryz.underlying4
  a4 := Tryz.isAgg4
  z4 := Tryz.sizeOf4
  v4 := Tryz.zeroValue4
  t9 := Tryz.underlying9
  a9 := Tryz.isAgg9
  z9 := Tryz.sizeOf9
  v9 := Tryz.zeroValue9
  t20 := Tryz.underlying20
  a20 := Tryz.isAgg20
  z20 := Tryz.sizeOf20
  v20 := Tryz.zeroValue20
  t31 := Tryz.underlying190
  a31 := Tryz.isAgg190
  z31 := Tryz.sizeOf190
  v31 := Tryz.zeroValue190
  t37 := Tryz.underlying166
  a37 := Tryz.isAgg166
  z37 := Tryz.sizeOf166
  v37 := Tryz.zeroValue166
  t70 := Tryz.underlying212
  a70 := Tryz.isAgg212
  z70 := Tryz.sizeOf212
  v70 := Tryz.zeroValue212
  t72 := Tryz.underlying214
  a72 := Tryz.isAgg214
  z72 := Tryz.sizeOf214
  v72 := Tryz.zeroValue214
  t75 := Tryz.underlying144
  a75 := Tryz.isAgg144
  z75 := Tryz.sizeOf144
  v75 := Tryz.zeroValue144
  t76 := Tryz.underlying145
  a76 := Tryz.isAgg145
  z76 := Tryz.sizeOf145
  v76 := Tryz.zeroValue145
  t127 := Tryz.underlying228
  a127 := Tryz.isAgg228
  z127 := Tryz.sizeOf228
  v127 := Tryz.zeroValue228
  t164 := Tryz.underlying240
  a164 := Tryz.isAgg240
  z164 := Tryz.sizeOf240
  v164 := Tryz.zeroValue240 }
theorem Tryz.Builder_Extra_156 : Builder.Extra Tryz.prog Tryz.lays156_ren := {
  sizeBuilder := by kernel_rfl
  liesBuilder := by kernel_rfl
  t5 := Tryz.underlying5
  a5 := Tryz.isAgg5
  z5 := Tryz.sizeOf5
  v5 := Tryz.zeroValue5
  infoByte := by kernel_rfl
  cellsByte := by kernel_rfl
  sizeByte := by kernel_rfl
  neB5 := by decide }
open Go.RowKit in
/-- No element: the empty string; the world is as it was. (Whatever the slice's address and capacity: a nil slice too.) (LAID: no walk: one application.) -/
theorem Tryz.strings_Join_none (a : Option Addr) (c : Nat) (sep : ByteArray) (w : World) :
    Calls Tryz.prog 158 #[.slice a 0 c, .string sep] w fun e w' => e = .returned (.string ⟨#[]⟩) ∧ w' = w := Any.strings_Join_none Tryz.lays156 Tryz.Builder_Extra_156 a c sep w
open Go.RowKit in
/-- strings.Join: "Join concatenates the elements of its first argument to create a single string. The separator string sep is placed between elements in the resulting string.": HOWEVER MANY ELEMENTS. Below the heap's end the world is as it was. (LAID: no walk: one application.) -/
theorem Tryz.strings_Join (bk o c : Nat) (xs : List ByteArray) (sep : ByteArray) (w : World) (hcells : ∀ (j : Nat) x, xs[j]? = some x → w.cell? ⟨bk, o + j, none⟩ = some (.string x)) (hbk : bk < w.heap.size) (hN : xs.length ≤ 140737488355328) (hcap : xs.length ≤ c) (hlen : (Lib.join (xs.map (·.data.toList)) sep.data.toList).length ≤ 140737488355328) :
    Calls Tryz.prog 158 #[.slice (some ⟨bk, o, none⟩) xs.length c, .string sep] w fun e w' => e = .returned (.string ⟨(Lib.join (xs.map (·.data.toList)) sep.data.toList).toArray⟩) ∧ Below w.heap.size w w' := Any.strings_Join Tryz.lays156 Tryz.Builder_Extra_156 bk o c xs sep w hcells hbk hN hcap hlen
def Tryz.lays129_ren : Go.Shelf.Ren := ⟨fun | 129 => 166 | n => n, fun | 53 => 22 | 3 => 3 | 4 => 4 | 46 => 165 | 5 => 5 | 9 => 9 | n => n, fun | n => n⟩
theorem Tryz.lays129 : Go.Proofs.Lays.n129 Tryz.prog Tryz.lays129_ren := {
  mixed := by kernel_rfl
  f129 := Tryz.func166.trans (congrArg some (by kernel_rfl))
  t3 := Tryz.underlying3
  a3 := Tryz.isAgg3
  z3 := Tryz.sizeOf3
  v3 := Tryz.zeroValue3
  t4 := Tryz.underlying4
  a4 := Tryz.isAgg4
  z4 := Tryz.sizeOf4
  v4 := Tryz.zeroValue4
  t5 := Tryz.underlying5
  a5 := Tryz.isAgg5
  z5 := Tryz.sizeOf5
  v5 := Tryz.zeroValue5
  t9 := Tryz.underlying9
  a9 := Tryz.isAgg9
  z9 := Tryz.sizeOf9
  v9 := Tryz.zeroValue9
  t46 := Tryz.underlying165
  a46 := Tryz.isAgg165
  z46 := Tryz.sizeOf165
  v46 := Tryz.zeroValue165
  t53 := Tryz.underlying22
  a53 := Tryz.isAgg22
  z53 := Tryz.sizeOf22
  v53 := Tryz.zeroValue22 }
/-- bits.Len64: "Len64 returns the minimum number of bits required to represent x; the result is 0 for x == 0.": IT RETURNS 'Lib.bitLen x'; the world is as it was. ('h0', 'h1': x is a uint64.) (LAID: no walk: one application.) -/
theorem Tryz.bits_Len64 (x : Int) (w : World) (h0 : 0 ≤ x) (h1 : x ≤ 18446744073709551615) :
    Calls Tryz.prog 166 #[.int .u64 x] w fun e w' => e = .returned (.int .i64 (Lib.bitLen x.toNat)) ∧ w' = w := Any.bits_Len64 Tryz.lays129 x w h0 h1
def Tryz.laysM171_ren : Go.Shelf.Ren := ⟨fun | 171 => 114 | 243 => 156 | 246 => 182 | 283 => 195 | 284 => 196 | 285 => 197 | 286 => 198 | 129 => 166 | 317 => 207 | 318 => 208 | 319 => 209 | 320 => 210 | 337 => 216 | 338 => 165 | n => n, fun | 3 => 3 | 9 => 9 | 2 => 2 | 4 => 4 | 171 => 224 | 0 => 0 | 53 => 22 | 37 => 166 | 5 => 5 | 173 => 226 | 212 => 237 | 51 => 182 | 20 => 20 | 213 => 238 | 46 => 165 | 232 => 247 | 233 => 216 | n => n, fun | 17 => 4 | 18 => 5 | 19 => 0 | n => n⟩
theorem Tryz.laysM171 : Go.Proofs.LaysM.n171 Tryz.prog Tryz.laysM171_ren := {
  mixed := by kernel_rfl
  f129 := Tryz.func166.trans (congrArg some (by kernel_rfl))
  f171 := Tryz.func114.trans (congrArg some (by kernel_rfl))
  f243 := Tryz.func156.trans (congrArg some (by kernel_rfl))
  f246 := Tryz.func182.trans (congrArg some (by kernel_rfl))
  f283 := Tryz.func195.trans (congrArg some (by kernel_rfl))
  f284 := Tryz.func196.trans (congrArg some (by kernel_rfl))
  f285 := Tryz.func197.trans (congrArg some (by kernel_rfl))
  f286 := Tryz.func198.trans (congrArg some (by kernel_rfl))
  f317 := Tryz.func207.trans (congrArg some (by kernel_rfl))
  f318 := Tryz.func208.trans (congrArg some (by kernel_rfl))
  f319 := Tryz.func209.trans (congrArg some (by kernel_rfl))
  f320 := Tryz.func210.trans (congrArg some (by kernel_rfl))
  f337 := Tryz.func216.trans (congrArg some (by kernel_rfl))
  f338 := Tryz.func165.trans (congrArg some (by kernel_rfl))
  t0 := Tryz.underlying0
  a0 := Tryz.isAgg0
  z0 := Tryz.sizeOf0
  v0 := Tryz.zeroValue0
  t2 := Tryz.underlying2
  a2 := Tryz.isAgg2
  z2 := Tryz.sizeOf2
  v2 := Tryz.zeroValue2
  t3 := Tryz.underlying3
  a3 := Tryz.isAgg3
  z3 := Tryz.sizeOf3
  v3 := Tryz.zeroValue3
  t4 := Tryz.underlying4
  a4 := Tryz.isAgg4
  z4 := Tryz.sizeOf4
  v4 := Tryz.zeroValue4
  t5 := Tryz.underlying5
  a5 := Tryz.isAgg5
  z5 := Tryz.sizeOf5
  v5 := Tryz.zeroValue5
  t9 := Tryz.underlying9
  a9 := Tryz.isAgg9
  z9 := Tryz.sizeOf9
  v9 := Tryz.zeroValue9
  t20 := Tryz.underlying20
  a20 := Tryz.isAgg20
  z20 := Tryz.sizeOf20
  v20 := Tryz.zeroValue20
  t37 := Tryz.underlying166
  a37 := Tryz.isAgg166
  z37 := Tryz.sizeOf166
  v37 := Tryz.zeroValue166
  t46 := Tryz.underlying165
  a46 := Tryz.isAgg165
  z46 := Tryz.sizeOf165
  v46 := Tryz.zeroValue165
  t51 := Tryz.underlying182
  a51 := Tryz.isAgg182
  z51 := Tryz.sizeOf182
  v51 := Tryz.zeroValue182
  t53 := Tryz.underlying22
  a53 := Tryz.isAgg22
  z53 := Tryz.sizeOf22
  v53 := Tryz.zeroValue22
  t171 := Tryz.underlying224
  a171 := Tryz.isAgg224
  z171 := Tryz.sizeOf224
  v171 := Tryz.zeroValue224
  t173 := Tryz.underlying226
  a173 := Tryz.isAgg226
  z173 := Tryz.sizeOf226
  v173 := Tryz.zeroValue226
  t212 := Tryz.underlying237
  a212 := Tryz.isAgg237
  z212 := Tryz.sizeOf237
  v212 := Tryz.zeroValue237
  t213 := Tryz.underlying238
  a213 := Tryz.isAgg238
  z213 := Tryz.sizeOf238
  t232 := Tryz.underlying247
  a232 := Tryz.isAgg247
  z232 := Tryz.sizeOf247
  v232 := Tryz.zeroValue247
  t233 := Tryz.underlying216
  a233 := Tryz.isAgg216
  z233 := Tryz.sizeOf216
  v233 := Tryz.zeroValue216
  g17 := by kernel_rfl
  g18 := by kernel_rfl
  g19 := by kernel_rfl
  i0 := by kernel_rfl
  i2 := by kernel_rfl
  i3 := by kernel_rfl
  i4 := by kernel_rfl
  i5 := by kernel_rfl
  i9 := by kernel_rfl
  i20 := by kernel_rfl
  i37 := by kernel_rfl
  i46 := by kernel_rfl
  i51 := by kernel_rfl
  i53 := by kernel_rfl
  i171 := by kernel_rfl
  i173 := by kernel_rfl
  i212 := by kernel_rfl
  i232 := by kernel_rfl
  i233 := by kernel_rfl
  m17 := by kernel_rfl
  m18 := by kernel_rfl
  m19 := by kernel_rfl }
open Go.RowKit Go.Sort Go.Lib in
/-- strconv.Itoa: "Itoa is equivalent to FormatInt(int64(i), 10).": i's DECIMAL NUMERAL ('Lib.itoa': a '-' where i is negative, then the digits), FOR EVERY int. The world behind the call: the world before it, new blocks behind the heap (the library's 'var a [24]byte'), draws. (LAID: no walk: one application.) -/
theorem Tryz.strconv_Itoa (n : Int) (h0 : -9223372036854775808 ≤ n) (h1 : n ≤ 9223372036854775807) (w : World) (htab : Lib.TabIs Tryz.prog w "internal/strconv.uint64pow10" .u64 Lib.pow10Tab) :
    Calls Tryz.prog 114 #[.int .i64 n] w fun e w' => e = .returned (.string ⟨(Lib.itoa n).toArray⟩) ∧ ∃ k os, w' = grow (w.drewN k) os := Any.strconv_Itoa Tryz.laysM171 n h0 h1 w htab
def Tryz.lays321_ren : Go.Shelf.Ren := ⟨fun | 321 => 205 | n => n, fun | 5 => 5 | n => n, fun | n => n⟩
theorem Tryz.lays321 : Go.Proofs.Lays.n321 Tryz.prog Tryz.lays321_ren := {
  mixed := by kernel_rfl
  f321 := Tryz.func205.trans (congrArg some (by kernel_rfl))
  t5 := Tryz.underlying5
  a5 := Tryz.isAgg5
  z5 := Tryz.sizeOf5
  v5 := Tryz.zeroValue5 }
open Go.RowKit in
/-- internal/strconv.lower: 'c | ('x' - 'X')': the bit 32 set. The world is as it was. (LAID: no walk: one application.) -/
theorem Tryz.internal_strconv_lower (c : Int) (w : World) :
    Calls Tryz.prog 205 #[.int .u8 c] w fun e w' => e = .returned (.int .u8 (bits .or .u8 c 32)) ∧ w' = w := Any.internal_strconv_lower Tryz.lays321 c w
def Tryz.laysC172_ren : Go.Shelf.Ren := ⟨fun | 172 => 113 | 244 => 154 | 245 => 155 | 247 => 177 | 279 => 178 | 280 => 179 | 281 => 180 | 282 => 181 | 287 => 192 | 316 => 193 | 171 => 114 | 205 => 194 | 321 => 205 | 322 => 206 | 243 => 156 | 246 => 182 | 283 => 195 | 284 => 196 | 285 => 197 | 286 => 198 | 129 => 166 | 317 => 207 | 318 => 208 | 319 => 209 | 320 => 210 | 337 => 216 | 338 => 165 | n => n, fun | 9 => 9 | 3 => 3 | 75 => 144 | 76 => 145 | 4 => 4 | 5 => 5 | 167 => 205 | 37 => 166 | 0 => 0 | 85 => 206 | 2 => 2 | 168 => 208 | 53 => 22 | 175 => 201 | 46 => 165 | 210 => 222 | 127 => 228 | 145 => 235 | 143 => 233 | 21 => 21 | 171 => 224 | 173 => 226 | 212 => 237 | 51 => 182 | 20 => 20 | 213 => 238 | 232 => 247 | 233 => 216 | 80 => 55 | n => n, fun | 15 => 2 | 16 => 3 | 17 => 4 | 18 => 5 | 19 => 0 | n => n⟩
theorem Tryz.laysC172 : Go.Proofs.LaysC.n172 Tryz.prog Tryz.laysC172_ren := {
  mixed := by kernel_rfl
  f129 := Tryz.func166.trans (congrArg some (by kernel_rfl))
  f171 := Tryz.func114.trans (congrArg some (by kernel_rfl))
  f172 := Tryz.func113.trans (congrArg some (by kernel_rfl))
  f205 := Tryz.func194.trans (congrArg some (by kernel_rfl))
  f243 := Tryz.func156.trans (congrArg some (by kernel_rfl))
  f244 := Tryz.func154.trans (congrArg some (by kernel_rfl))
  f245 := Tryz.func155.trans (congrArg some (by kernel_rfl))
  f246 := Tryz.func182.trans (congrArg some (by kernel_rfl))
  f247 := Tryz.func177.trans (congrArg some (by kernel_rfl))
  f279 := Tryz.func178.trans (congrArg some (by kernel_rfl))
  f280 := Tryz.func179.trans (congrArg some (by kernel_rfl))
  f281 := Tryz.func180.trans (congrArg some (by kernel_rfl))
  f282 := Tryz.func181.trans (congrArg some (by kernel_rfl))
  f283 := Tryz.func195.trans (congrArg some (by kernel_rfl))
  f284 := Tryz.func196.trans (congrArg some (by kernel_rfl))
  f285 := Tryz.func197.trans (congrArg some (by kernel_rfl))
  f286 := Tryz.func198.trans (congrArg some (by kernel_rfl))
  f287 := Tryz.func192.trans (congrArg some (by kernel_rfl))
  f316 := Tryz.func193.trans (congrArg some (by kernel_rfl))
  f317 := Tryz.func207.trans (congrArg some (by kernel_rfl))
  f318 := Tryz.func208.trans (congrArg some (by kernel_rfl))
  f319 := Tryz.func209.trans (congrArg some (by kernel_rfl))
  f320 := Tryz.func210.trans (congrArg some (by kernel_rfl))
  f321 := Tryz.func205.trans (congrArg some (by kernel_rfl))
  f322 := Tryz.func206.trans (congrArg some (by kernel_rfl))
  f337 := Tryz.func216.trans (congrArg some (by kernel_rfl))
  f338 := Tryz.func165.trans (congrArg some (by kernel_rfl))
  t0 := Tryz.underlying0
  a0 := Tryz.isAgg0
  z0 := Tryz.sizeOf0
  v0 := Tryz.zeroValue0
  t2 := Tryz.underlying2
  a2 := Tryz.isAgg2
  z2 := Tryz.sizeOf2
  v2 := Tryz.zeroValue2
  t3 := Tryz.underlying3
  a3 := Tryz.isAgg3
  z3 := Tryz.sizeOf3
  v3 := Tryz.zeroValue3
  t4 := Tryz.underlying4
  a4 := Tryz.isAgg4
  z4 := Tryz.sizeOf4
  v4 := Tryz.zeroValue4
  t5 := Tryz.underlying5
  a5 := Tryz.isAgg5
  z5 := Tryz.sizeOf5
  v5 := Tryz.zeroValue5
  t9 := Tryz.underlying9
  a9 := Tryz.isAgg9
  z9 := Tryz.sizeOf9
  v9 := Tryz.zeroValue9
  t20 := Tryz.underlying20
  a20 := Tryz.isAgg20
  z20 := Tryz.sizeOf20
  v20 := Tryz.zeroValue20
  t21 := Tryz.underlying21
  a21 := Tryz.isAgg21
  z21 := Tryz.sizeOf21
  v21 := Tryz.zeroValue21
  t37 := Tryz.underlying166
  a37 := Tryz.isAgg166
  z37 := Tryz.sizeOf166
  v37 := Tryz.zeroValue166
  t46 := Tryz.underlying165
  a46 := Tryz.isAgg165
  z46 := Tryz.sizeOf165
  v46 := Tryz.zeroValue165
  t51 := Tryz.underlying182
  a51 := Tryz.isAgg182
  z51 := Tryz.sizeOf182
  v51 := Tryz.zeroValue182
  t53 := Tryz.underlying22
  a53 := Tryz.isAgg22
  z53 := Tryz.sizeOf22
  v53 := Tryz.zeroValue22
  t75 := Tryz.underlying144
  a75 := Tryz.isAgg144
  z75 := Tryz.sizeOf144
  v75 := Tryz.zeroValue144
  t76 := Tryz.underlying145
  a76 := Tryz.isAgg145
  z76 := Tryz.sizeOf145
  v76 := Tryz.zeroValue145
  t85 := Tryz.underlying206
  a85 := Tryz.isAgg206
  z85 := Tryz.sizeOf206
  v85 := Tryz.zeroValue206
  t127 := Tryz.underlying228
  a127 := Tryz.isAgg228
  z127 := Tryz.sizeOf228
  v127 := Tryz.zeroValue228
  t143 := Tryz.underlying233
  a143 := Tryz.isAgg233
  z143 := Tryz.sizeOf233
  v143 := Tryz.zeroValue233
  t145 := Tryz.underlying235
  a145 := Tryz.isAgg235
  z145 := Tryz.sizeOf235
  v145 := Tryz.zeroValue235
  t167 := Tryz.underlying205
  a167 := Tryz.isAgg205
  z167 := Tryz.sizeOf205
  v167 := Tryz.zeroValue205
  t168 := Tryz.underlying208
  a168 := Tryz.isAgg208
  z168 := Tryz.sizeOf208
  v168 := Tryz.zeroValue208
  t171 := Tryz.underlying224
  a171 := Tryz.isAgg224
  z171 := Tryz.sizeOf224
  v171 := Tryz.zeroValue224
  t173 := Tryz.underlying226
  a173 := Tryz.isAgg226
  z173 := Tryz.sizeOf226
  v173 := Tryz.zeroValue226
  t175 := Tryz.underlying201
  a175 := Tryz.isAgg201
  z175 := Tryz.sizeOf201
  v175 := Tryz.zeroValue201
  t210 := Tryz.underlying222
  a210 := Tryz.isAgg222
  z210 := Tryz.sizeOf222
  v210 := Tryz.zeroValue222
  t212 := Tryz.underlying237
  a212 := Tryz.isAgg237
  z212 := Tryz.sizeOf237
  v212 := Tryz.zeroValue237
  t213 := Tryz.underlying238
  a213 := Tryz.isAgg238
  z213 := Tryz.sizeOf238
  t232 := Tryz.underlying247
  a232 := Tryz.isAgg247
  z232 := Tryz.sizeOf247
  v232 := Tryz.zeroValue247
  t233 := Tryz.underlying216
  a233 := Tryz.isAgg216
  z233 := Tryz.sizeOf216
  v233 := Tryz.zeroValue216
  g15 := by kernel_rfl
  g16 := by kernel_rfl
  g17 := by kernel_rfl
  g18 := by kernel_rfl
  g19 := by kernel_rfl
  t80 := Tryz.underlying55
  a80 := Tryz.isAgg55
  z80 := Tryz.sizeOf55
  v80 := Tryz.zeroValue55
  i0 := by kernel_rfl
  i2 := by kernel_rfl
  i3 := by kernel_rfl
  i4 := by kernel_rfl
  i5 := by kernel_rfl
  i9 := by kernel_rfl
  i20 := by kernel_rfl
  i21 := by kernel_rfl
  i37 := by kernel_rfl
  i46 := by kernel_rfl
  i51 := by kernel_rfl
  i53 := by kernel_rfl
  i75 := by kernel_rfl
  i76 := by kernel_rfl
  i80 := by kernel_rfl
  i85 := by kernel_rfl
  i127 := by kernel_rfl
  i143 := by kernel_rfl
  i145 := by kernel_rfl
  i167 := by kernel_rfl
  i168 := by kernel_rfl
  i171 := by kernel_rfl
  i173 := by kernel_rfl
  i175 := by kernel_rfl
  i210 := by kernel_rfl
  i212 := by kernel_rfl
  i232 := by kernel_rfl
  i233 := by kernel_rfl
  m15 := by kernel_rfl
  m16 := by kernel_rfl
  m17 := by kernel_rfl
  m18 := by kernel_rfl
  m19 := by kernel_rfl
  c0 := by kernel_rfl
  c2 := by kernel_rfl
  c3 := by kernel_rfl
  c4 := by kernel_rfl
  c5 := by kernel_rfl
  c9 := by kernel_rfl
  c20 := by kernel_rfl
  c21 := by kernel_rfl
  c37 := by kernel_rfl
  c46 := by kernel_rfl
  c51 := by kernel_rfl
  c53 := by kernel_rfl
  c75 := by kernel_rfl
  c76 := by kernel_rfl
  c80 := by kernel_rfl
  c85 := by kernel_rfl
  c127 := by kernel_rfl
  c143 := by kernel_rfl
  c145 := by kernel_rfl
  c167 := by kernel_rfl
  c168 := by kernel_rfl
  c171 := by kernel_rfl
  c173 := by kernel_rfl
  c175 := by kernel_rfl
  c210 := by kernel_rfl
  c212 := by kernel_rfl
  c213 := by kernel_rfl
  c232 := by kernel_rfl
  c233 := by kernel_rfl }
open Go.RowKit in
/-- strconv.Atoi, AT EVERY STRING THAT SPELLS AN int ('Lib.atoiAll .. = .ok v'; of whatever length: leading zeros count): v, AND NO ERROR. The world: as it was, or with the one new row that '[]byte(..)' lays. (LAID: no walk: one application.) -/
theorem Tryz.strconv_Atoi_ok (s : ByteArray) (hmax : s.size ≤ 9223372036854775806) (v : Int) (h : Lib.atoiAll s.data.toList = .ok v) (w : World) :
    Calls Tryz.prog 113 #[.string s] w fun e w' => e = .returned (.tuple #[.int .i64 v, .nilIface]) ∧ (w' = w ∨ ∃ t, w' = Lib.bytesWorld w 5 t) := Any.strconv_Atoi_ok Tryz.laysC172 s hmax v h w
open Go.RowKit in
/-- strconv.Atoi, AT EVERY STRING THAT IS NO DECIMAL NUMERAL ('.syntax'): 0, AND AN ERROR THAT IS NOT nil: a *NumError in a new block N: {Func: "Atoi", Num: s's bytes, Err: what the variable ErrSyntax holds}. Of what was there nothing has turned. (LAID: no walk: one application.) -/
theorem Tryz.strconv_Atoi_syntax (s : ByteArray) (hlim : s.size ≤ 281474976710656) (h : Lib.atoiAll s.data.toList = Lib.atoiAll []) (ev : Value) (w : World) (hv : w.cell? ⟨2, 0, none⟩ = some ev) (hev : ev = .nilIface ∨ ∃ te pe, ev = .iface te pe) :
    Calls Tryz.prog 113 #[.string s] w fun e w' => ∃ N, e = .returned (.tuple #[.int .i64 (0), .iface 208 (.pointer (some ⟨N, 0, none⟩))]) ∧ w.heap.size ≤ N ∧ w'.heap[N]? = some (.cells #[.string ⟨#[65, 116, 111, 105]⟩, .string s, ev] 222 (0, 0)) ∧ Below w.heap.size w w' := Any.strconv_Atoi_syntax Tryz.laysC172 s hlim h ev w hv hev
open Go.RowKit in
/-- strconv.Atoi, AT EVERY NUMERAL THAT NO int HOLDS ('.range'): THE GREATEST OR THE LEAST int, BY THE SIGN ('Lib.atoiSat'), AND AN ERROR THAT IS NOT nil: a *NumError in a new block N: {Func: "Atoi", Num: s's bytes, Err: what the variable ErrRange holds}. Of what was there nothing has turned. (LAID: no walk: one application.) -/
theorem Tryz.strconv_Atoi_range (s : ByteArray) (hlim : s.size ≤ 281474976710656) (h : Lib.atoiAll s.data.toList = .range) (ev : Value) (w : World) (hv : w.cell? ⟨3, 0, none⟩ = some ev) (hev : ev = .nilIface ∨ ∃ te pe, ev = .iface te pe) :
    Calls Tryz.prog 113 #[.string s] w fun e w' => ∃ N, e = .returned (.tuple #[.int .i64 (Lib.atoiSat s.data.toList), .iface 208 (.pointer (some ⟨N, 0, none⟩))]) ∧ w.heap.size ≤ N ∧ w'.heap[N]? = some (.cells #[.string ⟨#[65, 116, 111, 105]⟩, .string s, ev] 222 (0, 0)) ∧ Below w.heap.size w w' := Any.strconv_Atoi_range Tryz.laysC172 s hlim h ev w hv hev
def Tryz.laysPu14_ren : Go.Shelf.Ren := ⟨fun | 14 => 174 | 16 => 192 | 17 => 155 | 19 => 205 | 20 => 206 | 21 => 178 | 22 => 179 | 23 => 180 | 24 => 181 | 25 => 193 | 27 => 114 | 26 => 194 | 28 => 156 | 29 => 182 | 30 => 195 | 31 => 196 | 32 => 197 | 33 => 198 | 35 => 166 | 34 => 207 | 36 => 208 | 37 => 209 | 38 => 210 | 39 => 216 | 40 => 165 | n => n, fun | 9 => 9 | 3 => 3 | 22 => 22 | 24 => 144 | 25 => 201 | 4 => 4 | 34 => 205 | 5 => 5 | 36 => 165 | 37 => 166 | 0 => 0 | 39 => 208 | 21 => 21 | 44 => 222 | 47 => 228 | 50 => 235 | 48 => 233 | 2 => 2 | 52 => 224 | 55 => 226 | 59 => 237 | 60 => 182 | 20 => 20 | 61 => 238 | 65 => 247 | 66 => 216 | 67 => 55 | n => n, fun | 0 => 2 | 1 => 3 | 2 => 4 | 3 => 5 | 4 => 0 | n => n⟩
theorem Tryz.laysPu14 : Go.Proofs.LaysPu.n14 Tryz.prog Tryz.laysPu14_ren := {
  mixed := by kernel_rfl
  f14 := Tryz.func174.trans (congrArg some (by kernel_rfl))
  f16 := Tryz.func192.trans (congrArg some (by kernel_rfl))
  f17 := Tryz.func155.trans (congrArg some (by kernel_rfl))
  f19 := Tryz.func205.trans (congrArg some (by kernel_rfl))
  f20 := Tryz.func206.trans (congrArg some (by kernel_rfl))
  f21 := Tryz.func178.trans (congrArg some (by kernel_rfl))
  f22 := Tryz.func179.trans (congrArg some (by kernel_rfl))
  f23 := Tryz.func180.trans (congrArg some (by kernel_rfl))
  f24 := Tryz.func181.trans (congrArg some (by kernel_rfl))
  f25 := Tryz.func193.trans (congrArg some (by kernel_rfl))
  f26 := Tryz.func194.trans (congrArg some (by kernel_rfl))
  f27 := Tryz.func114.trans (congrArg some (by kernel_rfl))
  f28 := Tryz.func156.trans (congrArg some (by kernel_rfl))
  f29 := Tryz.func182.trans (congrArg some (by kernel_rfl))
  f30 := Tryz.func195.trans (congrArg some (by kernel_rfl))
  f31 := Tryz.func196.trans (congrArg some (by kernel_rfl))
  f32 := Tryz.func197.trans (congrArg some (by kernel_rfl))
  f33 := Tryz.func198.trans (congrArg some (by kernel_rfl))
  f34 := Tryz.func207.trans (congrArg some (by kernel_rfl))
  f35 := Tryz.func166.trans (congrArg some (by kernel_rfl))
  f36 := Tryz.func208.trans (congrArg some (by kernel_rfl))
  f37 := Tryz.func209.trans (congrArg some (by kernel_rfl))
  f38 := Tryz.func210.trans (congrArg some (by kernel_rfl))
  f39 := Tryz.func216.trans (congrArg some (by kernel_rfl))
  f40 := Tryz.func165.trans (congrArg some (by kernel_rfl))
  t0 := Tryz.underlying0
  a0 := Tryz.isAgg0
  z0 := Tryz.sizeOf0
  v0 := Tryz.zeroValue0
  i0 := by kernel_rfl
  t2 := Tryz.underlying2
  a2 := Tryz.isAgg2
  z2 := Tryz.sizeOf2
  v2 := Tryz.zeroValue2
  i2 := by kernel_rfl
  t3 := Tryz.underlying3
  a3 := Tryz.isAgg3
  z3 := Tryz.sizeOf3
  v3 := Tryz.zeroValue3
  i3 := by kernel_rfl
  t4 := Tryz.underlying4
  a4 := Tryz.isAgg4
  z4 := Tryz.sizeOf4
  v4 := Tryz.zeroValue4
  i4 := by kernel_rfl
  t5 := Tryz.underlying5
  a5 := Tryz.isAgg5
  z5 := Tryz.sizeOf5
  v5 := Tryz.zeroValue5
  i5 := by kernel_rfl
  t9 := Tryz.underlying9
  a9 := Tryz.isAgg9
  z9 := Tryz.sizeOf9
  v9 := Tryz.zeroValue9
  i9 := by kernel_rfl
  t20 := Tryz.underlying20
  a20 := Tryz.isAgg20
  z20 := Tryz.sizeOf20
  v20 := Tryz.zeroValue20
  i20 := by kernel_rfl
  t21 := Tryz.underlying21
  a21 := Tryz.isAgg21
  z21 := Tryz.sizeOf21
  v21 := Tryz.zeroValue21
  i21 := by kernel_rfl
  t22 := Tryz.underlying22
  a22 := Tryz.isAgg22
  z22 := Tryz.sizeOf22
  v22 := Tryz.zeroValue22
  i22 := by kernel_rfl
  t24 := Tryz.underlying144
  a24 := Tryz.isAgg144
  z24 := Tryz.sizeOf144
  v24 := Tryz.zeroValue144
  i24 := by kernel_rfl
  t25 := Tryz.underlying201
  a25 := Tryz.isAgg201
  z25 := Tryz.sizeOf201
  v25 := Tryz.zeroValue201
  i25 := by kernel_rfl
  t34 := Tryz.underlying205
  a34 := Tryz.isAgg205
  z34 := Tryz.sizeOf205
  v34 := Tryz.zeroValue205
  i34 := by kernel_rfl
  c34 := by kernel_rfl
  t36 := Tryz.underlying165
  a36 := Tryz.isAgg165
  z36 := Tryz.sizeOf165
  v36 := Tryz.zeroValue165
  i36 := by kernel_rfl
  t37 := Tryz.underlying166
  a37 := Tryz.isAgg166
  z37 := Tryz.sizeOf166
  v37 := Tryz.zeroValue166
  i37 := by kernel_rfl
  t39 := Tryz.underlying208
  a39 := Tryz.isAgg208
  z39 := Tryz.sizeOf208
  v39 := Tryz.zeroValue208
  i39 := by kernel_rfl
  t44 := Tryz.underlying222
  a44 := Tryz.isAgg222
  z44 := Tryz.sizeOf222
  v44 := Tryz.zeroValue222
  i44 := by kernel_rfl
  t47 := Tryz.underlying228
  a47 := Tryz.isAgg228
  z47 := Tryz.sizeOf228
  v47 := Tryz.zeroValue228
  i47 := by kernel_rfl
  t48 := Tryz.underlying233
  a48 := Tryz.isAgg233
  z48 := Tryz.sizeOf233
  v48 := Tryz.zeroValue233
  i48 := by kernel_rfl
  t50 := Tryz.underlying235
  a50 := Tryz.isAgg235
  z50 := Tryz.sizeOf235
  v50 := Tryz.zeroValue235
  i50 := by kernel_rfl
  t52 := Tryz.underlying224
  a52 := Tryz.isAgg224
  z52 := Tryz.sizeOf224
  v52 := Tryz.zeroValue224
  i52 := by kernel_rfl
  t55 := Tryz.underlying226
  a55 := Tryz.isAgg226
  z55 := Tryz.sizeOf226
  v55 := Tryz.zeroValue226
  i55 := by kernel_rfl
  t59 := Tryz.underlying237
  a59 := Tryz.isAgg237
  z59 := Tryz.sizeOf237
  v59 := Tryz.zeroValue237
  i59 := by kernel_rfl
  t60 := Tryz.underlying182
  a60 := Tryz.isAgg182
  z60 := Tryz.sizeOf182
  v60 := Tryz.zeroValue182
  i60 := by kernel_rfl
  t61 := Tryz.underlying238
  a61 := Tryz.isAgg238
  z61 := Tryz.sizeOf238
  t65 := Tryz.underlying247
  a65 := Tryz.isAgg247
  z65 := Tryz.sizeOf247
  v65 := Tryz.zeroValue247
  i65 := by kernel_rfl
  t66 := Tryz.underlying216
  a66 := Tryz.isAgg216
  z66 := Tryz.sizeOf216
  v66 := Tryz.zeroValue216
  i66 := by kernel_rfl
  t67 := Tryz.underlying55
  a67 := Tryz.isAgg55
  z67 := Tryz.sizeOf55
  v67 := Tryz.zeroValue55
  i67 := by kernel_rfl
  g0 := by kernel_rfl
  m0 := by kernel_rfl
  g1 := by kernel_rfl
  m1 := by kernel_rfl
  g2 := by kernel_rfl
  m2 := by kernel_rfl
  g3 := by kernel_rfl
  m3 := by kernel_rfl
  g4 := by kernel_rfl
  m4 := by kernel_rfl }
open Go.RowKit in
/-- strconv.ParseUint(s, 10, 8), AT EVERY STRING THAT SPELLS A uint8 ('Lib.parseUintB 8 s.data.toList = .ok u'): u, AND NO ERROR. (LAID: no walk: one application.) -/
theorem Tryz.strconv_ParseUint_10_at8_ok (s : ByteArray) (hmax : s.size ≤ 9223372036854775806) (u : Nat) (h : Lib.parseUintB 8 s.data.toList = .ok u) (w : World) :
    Calls Tryz.prog 174 #[.string s, .int .i64 10, .int .i64 8] w fun e w' => e = .returned (.tuple #[.int .u64 u, .nilIface]) ∧ (w' = w ∨ w' = Lib.bytesWorld w 5 s) := Any.strconv_ParseUint_10_at8_ok Tryz.laysPu14 s hmax u h w
open Go.RowKit in
theorem Tryz.strconv_ParseUint_10_at8_syntax_var (s : ByteArray) (hlim : s.size ≤ 281474976710656) (h : Lib.parseUintB 8 s.data.toList = Lib.parseUintB 8 []) (tp : TypeId) (p : Value) (w : World) (hvar : w.var? Tryz.prog "strconv.ErrSyntax" = some #[.iface tp p]) :
    Calls Tryz.prog 174 #[.string s, .int .i64 10, .int .i64 8] w fun e w' => ∃ N, e = .returned (.tuple #[.int .u64 0, .iface 208 (.pointer (some ⟨N, 0, none⟩))]) ∧ w.heap.size ≤ N ∧ w'.heap[N]? = some (.cells #[.string ⟨#[80, 97, 114, 115, 101, 85, 105, 110, 116]⟩, .string s, .iface tp p] 222 (0, 0)) ∧ Below w.heap.size w w' := Any.strconv_ParseUint_10_at8_syntax_var Tryz.laysPu14 s hlim h tp p w hvar
open Go.RowKit in
theorem Tryz.strconv_ParseUint_10_at8_range_var (s : ByteArray) (hlim : s.size ≤ 281474976710656) (h : Lib.parseUintB 8 s.data.toList = .range) (tp : TypeId) (p : Value) (w : World) (hvar : w.var? Tryz.prog "strconv.ErrRange" = some #[.iface tp p]) :
    Calls Tryz.prog 174 #[.string s, .int .i64 10, .int .i64 8] w fun e w' => ∃ N, e = .returned (.tuple #[.int .u64 255, .iface 208 (.pointer (some ⟨N, 0, none⟩))]) ∧ w.heap.size ≤ N ∧ w'.heap[N]? = some (.cells #[.string ⟨#[80, 97, 114, 115, 101, 85, 105, 110, 116]⟩, .string s, .iface tp p] 222 (0, 0)) ∧ Below w.heap.size w w' := Any.strconv_ParseUint_10_at8_range_var Tryz.laysPu14 s hlim h tp p w hvar
def Tryz.lays144_ren : Go.Shelf.Ren := ⟨fun | 144 => 149 | 143 => 172 | 219 => 171 | 217 => 187 | 225 => 188 | 224 => 189 | 267 => 190 | 266 => 201 | 314 => 202 | n => n, fun | 9 => 9 | 4 => 4 | 3 => 3 | 5 => 5 | 46 => 165 | 146 => 229 | 51 => 182 | n => n, fun | 1 => 1 | n => n⟩
theorem Tryz.lays144 : Go.Proofs.Lays.n144 Tryz.prog Tryz.lays144_ren := {
  mixed := by kernel_rfl
  f143 := Tryz.func172.trans (congrArg some (by kernel_rfl))
  f144 := Tryz.func149.trans (congrArg some (by kernel_rfl))
  f217 := Tryz.func187.trans (congrArg some (by kernel_rfl))
  f219 := Tryz.func171.trans (congrArg some (by kernel_rfl))
  f224 := Tryz.func189.trans (congrArg some (by kernel_rfl))
  f225 := Tryz.func188.trans (congrArg some (by kernel_rfl))
  f266 := Tryz.func201.trans (congrArg some (by kernel_rfl))
  f267 := Tryz.func190.trans (congrArg some (by kernel_rfl))
  f314 := Tryz.func202.trans (congrArg some (by kernel_rfl))
  t3 := Tryz.underlying3
  a3 := Tryz.isAgg3
  z3 := Tryz.sizeOf3
  v3 := Tryz.zeroValue3
  t4 := Tryz.underlying4
  a4 := Tryz.isAgg4
  z4 := Tryz.sizeOf4
  v4 := Tryz.zeroValue4
  t5 := Tryz.underlying5
  a5 := Tryz.isAgg5
  z5 := Tryz.sizeOf5
  v5 := Tryz.zeroValue5
  t9 := Tryz.underlying9
  a9 := Tryz.isAgg9
  z9 := Tryz.sizeOf9
  v9 := Tryz.zeroValue9
  t46 := Tryz.underlying165
  a46 := Tryz.isAgg165
  z46 := Tryz.sizeOf165
  v46 := Tryz.zeroValue165
  t51 := Tryz.underlying182
  a51 := Tryz.isAgg182
  z51 := Tryz.sizeOf182
  v51 := Tryz.zeroValue182
  t146 := Tryz.underlying229
  a146 := Tryz.isAgg229
  z146 := Tryz.sizeOf229
  v146 := Tryz.zeroValue229
  g1 := by kernel_rfl }
open Go.RowKit Go.Lib in
/-- strings.Contains: "Contains reports whether substr is within s.": AT A substr OF ONE BYTE c: IT RETURNS 'decide (0 ≤ Lib.indexByte s c)'; the world is as it was. (LAID: no walk: one application.) -/
theorem Tryz.strings_Contains_one (s : ByteArray) (c : UInt8) (w : World) :
    Calls Tryz.prog 149 #[.string s, .string ⟨#[c]⟩] w fun e w' => e = .returned (.bool (decide (0 ≤ Lib.indexByte s.data.toList c))) ∧ w' = w := Any.strings_Contains_one Tryz.lays144 s c w
def Tryz.lays145_ren : Go.Shelf.Ren := ⟨fun | 145 => 109 | 220 => 148 | 219 => 171 | 217 => 187 | 225 => 188 | 224 => 189 | 267 => 190 | 266 => 201 | 314 => 202 | n => n, fun | 9 => 9 | 4 => 4 | 59 => 139 | 3 => 3 | 5 => 5 | 46 => 165 | 146 => 229 | 51 => 182 | n => n, fun | 1 => 1 | n => n⟩
theorem Tryz.lays145 : Go.Proofs.Lays.n145 Tryz.prog Tryz.lays145_ren := {
  mixed := by kernel_rfl
  f145 := Tryz.func109.trans (congrArg some (by kernel_rfl))
  f217 := Tryz.func187.trans (congrArg some (by kernel_rfl))
  f219 := Tryz.func171.trans (congrArg some (by kernel_rfl))
  f220 := Tryz.func148.trans (congrArg some (by kernel_rfl))
  f224 := Tryz.func189.trans (congrArg some (by kernel_rfl))
  f225 := Tryz.func188.trans (congrArg some (by kernel_rfl))
  f266 := Tryz.func201.trans (congrArg some (by kernel_rfl))
  f267 := Tryz.func190.trans (congrArg some (by kernel_rfl))
  f314 := Tryz.func202.trans (congrArg some (by kernel_rfl))
  t3 := Tryz.underlying3
  a3 := Tryz.isAgg3
  z3 := Tryz.sizeOf3
  v3 := Tryz.zeroValue3
  t4 := Tryz.underlying4
  a4 := Tryz.isAgg4
  z4 := Tryz.sizeOf4
  v4 := Tryz.zeroValue4
  t5 := Tryz.underlying5
  a5 := Tryz.isAgg5
  z5 := Tryz.sizeOf5
  v5 := Tryz.zeroValue5
  t9 := Tryz.underlying9
  a9 := Tryz.isAgg9
  z9 := Tryz.sizeOf9
  v9 := Tryz.zeroValue9
  t46 := Tryz.underlying165
  a46 := Tryz.isAgg165
  z46 := Tryz.sizeOf165
  v46 := Tryz.zeroValue165
  t51 := Tryz.underlying182
  a51 := Tryz.isAgg182
  z51 := Tryz.sizeOf182
  v51 := Tryz.zeroValue182
  t59 := Tryz.underlying139
  a59 := Tryz.isAgg139
  z59 := Tryz.sizeOf139
  v59 := Tryz.zeroValue139
  t146 := Tryz.underlying229
  a146 := Tryz.isAgg229
  z146 := Tryz.sizeOf229
  v146 := Tryz.zeroValue229
  g1 := by kernel_rfl }
open Go.RowKit Go.Lib in
/-- strings.Cut: "Cut slices s around the first instance of sep, returning the text before and after sep. The found result reports whether sep appears in s. If sep does not appear in s, cut returns s, "", false.": IT RETURNS 'Lib.cut s sep'; the world is as it was but for the count of draws. (LAID: no walk: one application.) -/
theorem Tryz.strings_Cut (s sep : ByteArray) (m : Int) (w : World) (hs : s.size < 4294967281) (hm : w.cell? ⟨1, 0, none⟩ = some (.int .i64 m)) :
    Calls Tryz.prog 109 #[.string s, .string sep] w fun e w' => e = .returned (.tuple #[.string ⟨(Lib.cut s.data.toList sep.data.toList).1.toArray⟩, .string ⟨(Lib.cut s.data.toList sep.data.toList).2.1.toArray⟩, .bool (Lib.cut s.data.toList sep.data.toList).2.2]) ∧ ∃ n, w' = w.drewN n := Any.strings_Cut Tryz.lays145 s sep m w hs hm
def Tryz.lays146_ren : Go.Shelf.Ren := ⟨fun | 146 => 173 | 221 => 191 | 268 => 203 | 138 => 204 | 143 => 172 | 195 => 213 | 197 => 214 | 218 => 215 | 219 => 171 | 260 => 217 | 217 => 187 | 225 => 188 | 224 => 189 | 267 => 190 | 266 => 201 | 314 => 202 | n => n, fun | 9 => 9 | 31 => 190 | 3 => 3 | 4 => 4 | 0 => 0 | 105 => 244 | 21 => 21 | 5 => 5 | 46 => 165 | 119 => 248 | 139 => 251 | 138 => 250 | 146 => 229 | 51 => 182 | n => n, fun | 1 => 1 | 3 => 6 | 4 => 7 | n => n⟩
theorem Tryz.lays146 : Go.Proofs.Lays.n146 Tryz.prog Tryz.lays146_ren := {
  mixed := by kernel_rfl
  f138 := Tryz.func204.trans (congrArg some (by kernel_rfl))
  f143 := Tryz.func172.trans (congrArg some (by kernel_rfl))
  f146 := Tryz.func173.trans (congrArg some (by kernel_rfl))
  f195 := Tryz.func213.trans (congrArg some (by kernel_rfl))
  f197 := Tryz.func214.trans (congrArg some (by kernel_rfl))
  f217 := Tryz.func187.trans (congrArg some (by kernel_rfl))
  f218 := Tryz.func215.trans (congrArg some (by kernel_rfl))
  f219 := Tryz.func171.trans (congrArg some (by kernel_rfl))
  f221 := Tryz.func191.trans (congrArg some (by kernel_rfl))
  f224 := Tryz.func189.trans (congrArg some (by kernel_rfl))
  f225 := Tryz.func188.trans (congrArg some (by kernel_rfl))
  f260 := Tryz.func217.trans (congrArg some (by kernel_rfl))
  f266 := Tryz.func201.trans (congrArg some (by kernel_rfl))
  f267 := Tryz.func190.trans (congrArg some (by kernel_rfl))
  f268 := Tryz.func203.trans (congrArg some (by kernel_rfl))
  f314 := Tryz.func202.trans (congrArg some (by kernel_rfl))
  t0 := Tryz.underlying0
  a0 := Tryz.isAgg0
  z0 := Tryz.sizeOf0
  v0 := Tryz.zeroValue0
  t3 := Tryz.underlying3
  a3 := Tryz.isAgg3
  z3 := Tryz.sizeOf3
  v3 := Tryz.zeroValue3
  t4 := Tryz.underlying4
  a4 := Tryz.isAgg4
  z4 := Tryz.sizeOf4
  v4 := Tryz.zeroValue4
  t5 := Tryz.underlying5
  a5 := Tryz.isAgg5
  z5 := Tryz.sizeOf5
  v5 := Tryz.zeroValue5
  t9 := Tryz.underlying9
  a9 := Tryz.isAgg9
  z9 := Tryz.sizeOf9
  v9 := Tryz.zeroValue9
  t21 := Tryz.underlying21
  a21 := Tryz.isAgg21
  z21 := Tryz.sizeOf21
  v21 := Tryz.zeroValue21
  t31 := Tryz.underlying190
  a31 := Tryz.isAgg190
  z31 := Tryz.sizeOf190
  v31 := Tryz.zeroValue190
  t46 := Tryz.underlying165
  a46 := Tryz.isAgg165
  z46 := Tryz.sizeOf165
  v46 := Tryz.zeroValue165
  t51 := Tryz.underlying182
  a51 := Tryz.isAgg182
  z51 := Tryz.sizeOf182
  v51 := Tryz.zeroValue182
  t105 := Tryz.underlying244
  a105 := Tryz.isAgg244
  z105 := Tryz.sizeOf244
  v105 := Tryz.zeroValue244
  t119 := Tryz.underlying248
  a119 := Tryz.isAgg248
  z119 := Tryz.sizeOf248
  t138 := Tryz.underlying250
  a138 := Tryz.isAgg250
  z138 := Tryz.sizeOf250
  v138 := Tryz.zeroValue250
  t139 := Tryz.underlying251
  a139 := Tryz.isAgg251
  z139 := Tryz.sizeOf251
  v139 := Tryz.zeroValue251
  t146 := Tryz.underlying229
  a146 := Tryz.isAgg229
  z146 := Tryz.sizeOf229
  v146 := Tryz.zeroValue229
  g1 := by kernel_rfl
  g3 := by kernel_rfl
  g4 := by kernel_rfl }
open Go.RowKit Go.Lib in
/-- strings.Split. (LAID: no walk: one application.) -/
theorem Tryz.strings_Split (s sep : ByteArray) (m : Int) (w : World) (hs : s.size < 4294967281) (hm : w.cell? ⟨1, 0, none⟩ = some (.int .i64 m)) (h1 : 1 ≤ sep.size) :
    Calls Tryz.prog 173 #[.string s, .string sep] w fun e w' =>
      e = .returned (.slice (some ⟨w.heap.size, 0, none⟩) (Lib.countB s sep + 1) (Lib.countB s sep + 1)) ∧ w' = w.alloc (.cells ((Lib.splitB sep 0 (Lib.countB s sep) s).map Value.string).toArray 9) := Any.strings_Split Tryz.lays146 (by kernel_rfl) s sep m w hs hm h1
end Go.Proofs

namespace Go.Proofs.YtpfilldnfpcpkaaGreatDoor
open Go.RowKit

theorem not_c (ah al : Int) (w : World) (h1 : 0 ≤ ah) (h2 : ah < 18446744073709551616) (h3 : 0 ≤ al) (h4 : al < 18446744073709551616) :
    Calls Tryz.prog 135 #[.agg #[.int .u64 ah, .int .u64 al]] w fun e w' =>
      e = .returned (numV (notN (num ah al))) ∧ Below w.heap.size w w' := by
  rw [← not_words h1 h2 h3 h4]
  have hs : ¬ IntKind.u64.signed = true := by decide
  go_enter Tryz.func135, Tryz.ntmps135
  go_wp2
  refine bodyPost_ret (v := .agg #[.int .u64 (bits .xor .u64 IntKind.u64.max ah), .int .u64 (bits .xor .u64 IntKind.u64.max al)]) (by simp [results, Tryz.results135, go_sem]) rfl ⟨rfl, ?_⟩
  exact bl_alloc (bl_alloc (Below.refl _ _) _) _

theorem of_c (n : Int) (w : World) (h0 : 0 ≤ n) (h1 : n < 18446744073709551616) :
    Calls Tryz.prog 126 #[.int .u64 n] w fun e w' => e = .returned (numV n.toNat) ∧ Below w.heap.size w w' := by
  have q : numV n.toNat = .agg #[.int .u64 0, .int .u64 n] := (numV_of (by omega) (by omega) h0 h1 (by unfold num; simp)).symm
  rw [q]
  clear q
  go_enter Tryz.func126, Tryz.ntmps126
  go_wp2
  refine bodyPost_ret (v := .agg #[.int .u64 0, .int .u64 n]) (by simp [results, Tryz.results126, go_sem]) rfl ⟨rfl, ?_⟩
  exact bl_alloc (Below.refl _ _) _

theorem shl_pos (ah al k : Int) (w : World) (h1 : 0 ≤ ah) (h2 : ah < 18446744073709551616) (h3 : 0 ≤ al) (h4 : al < 18446744073709551616) (k0 : 0 ≤ k) :
    Calls Tryz.prog 167 #[.agg #[.int .u64 ah, .int .u64 al], .int .i64 k] w fun e w' =>
      e = .returned (numV (shlN (num ah al) k)) ∧ Below w.heap.size w w' := by
  have d3 : decide (k < 0) = false := by simp; omega
  rcases Int.lt_or_le k 64 with hk | hk
  · obtain ⟨K, rfl⟩ := Int.eq_ofNat_of_zero_le k0
    have q := shl_words (h := ah.toNat) (l := al.toNat) (k := K) (by omega) (by omega) (by omega)
    rw [Int.toNat_of_nonneg h1, Int.toNat_of_nonneg h3] at q
    unfold num
    rw [← q]
    clear q
    have d1 : decide (128 ≤ (K : Int)) = false := by simp; omega
    have d2 : decide ((K : Int) ≤ -128) = false := by simp; omega
    have d4 : decide (64 ≤ (K : Int)) = false := by simp; omega
    have e1 : ((64 : Int) - (K : Int)).toNat = 64 - K := by omega
    go_enter Tryz.func167, Tryz.ntmps167
    go_wp2
    go_region
    go_wp2
    refine bodyPost_ret (v := .agg #[.int .u64 (bits .or .u64 (IntKind.u64.wrap (ah * 2 ^ K)) (al / 2 ^ (64 - K))), .int .u64 (IntKind.u64.wrap (al * 2 ^ K))]) (by simp [results, Tryz.results167, go_sem]) rfl ⟨rfl, ?_⟩
    exact bl_drew (bl_alloc (bl_alloc (Below.refl _ _) _) _)
  · rcases Int.lt_or_le k 128 with hk2 | hk2
    · obtain ⟨K, rfl⟩ : ∃ K : Nat, k = (K : Int) + 64 := ⟨(k - 64).toNat, by omega⟩
      have q := shl_words_up (h := ah.toNat) (l := al.toNat) (k := K) (by omega)
      rw [Int.toNat_of_nonneg h3] at q
      unfold num
      rw [← q]
      clear q
      have d1 : decide (128 ≤ (K : Int) + 64) = false := by simp; omega
      have d2 : decide ((K : Int) + 64 ≤ -128) = false := by simp; omega
      have d4 : decide (64 ≤ (K : Int) + 64) = true := by simp; omega
      have e1 : ((K : Int) + 64 - 64) = K := by omega
      go_enter Tryz.func167, Tryz.ntmps167
      go_wp2
      refine bodyPost_ret (v := .agg #[.int .u64 (IntKind.u64.wrap (al * 2 ^ K)), .int .u64 0]) (by simp [results, Tryz.results167, go_sem]) rfl ⟨rfl, ?_⟩
      exact bl_alloc (bl_alloc (Below.refl _ _) _) _
    · rw [← shl_over (a := num ah al) (k := k) (by omega)]
      have d1 : decide (128 ≤ k) = true := by simp; omega
      go_enter Tryz.func167, Tryz.ntmps167
      go_wp2
      refine bodyPost_ret (v := .agg #[.int .u64 0, .int .u64 0]) (by simp [results, Tryz.results167, go_sem]) rfl ⟨rfl, ?_⟩
      exact bl_alloc (bl_alloc (Below.refl _ _) _) _

theorem shr_pos (ah al k : Int) (w : World) (h1 : 0 ≤ ah) (h2 : ah < 18446744073709551616) (h3 : 0 ≤ al) (h4 : al < 18446744073709551616) (k0 : 0 ≤ k) :
    Calls Tryz.prog 159 #[.agg #[.int .u64 ah, .int .u64 al], .int .i64 k] w fun e w' =>
      e = .returned (numV (shrN (num ah al) k)) ∧ Below w.heap.size w w' := by
  have d3 : decide (k < 0) = false := by simp; omega
  rcases Int.lt_or_le k 64 with hk | hk
  · obtain ⟨K, rfl⟩ := Int.eq_ofNat_of_zero_le k0
    have q := shr_words (h := ah.toNat) (l := al.toNat) (k := K) (by omega) (by omega) (by omega)
    rw [Int.toNat_of_nonneg h1, Int.toNat_of_nonneg h3] at q
    unfold num
    rw [← q]
    clear q
    have d1 : decide (128 ≤ (K : Int)) = false := by simp; omega
    have d2 : decide ((K : Int) ≤ -128) = false := by simp; omega
    have d4 : decide (64 ≤ (K : Int)) = false := by simp; omega
    have e1 : ((64 : Int) - (K : Int)).toNat = 64 - K := by omega
    go_enter Tryz.func159, Tryz.ntmps159
    go_wp2
    go_region
    go_wp2
    refine bodyPost_ret (v := .agg #[.int .u64 (ah / 2 ^ K), .int .u64 (bits .or .u64 (al / 2 ^ K) (IntKind.u64.wrap (ah * 2 ^ (64 - K))))]) (by simp [results, Tryz.results159, go_sem]) rfl ⟨rfl, ?_⟩
    exact bl_drew (bl_alloc (bl_alloc (Below.refl _ _) _) _)
  · rcases Int.lt_or_le k 128 with hk2 | hk2
    · obtain ⟨K, rfl⟩ : ∃ K : Nat, k = (K : Int) + 64 := ⟨(k - 64).toNat, by omega⟩
      have q := shr_words_up (h := ah.toNat) (l := al.toNat) (k := K) (by omega) (by omega) (by omega)
      rw [Int.toNat_of_nonneg h1] at q
      unfold num
      rw [← q]
      clear q
      have d1 : decide (128 ≤ (K : Int) + 64) = false := by simp; omega
      have d2 : decide ((K : Int) + 64 ≤ -128) = false := by simp; omega
      have d4 : decide (64 ≤ (K : Int) + 64) = true := by simp; omega
      have e1 : ((K : Int) + 64 - 64) = K := by omega
      go_enter Tryz.func159, Tryz.ntmps159
      go_wp2
      refine bodyPost_ret (v := .agg #[.int .u64 0, .int .u64 (ah / 2 ^ K)]) (by simp [results, Tryz.results159, go_sem]) rfl ⟨rfl, ?_⟩
      exact bl_alloc (bl_alloc (Below.refl _ _) _) _
    · rw [← shr_over (a := num ah al) (k := k) (by omega)]
      have d1 : decide (128 ≤ k) = true := by simp; omega
      go_enter Tryz.func159, Tryz.ntmps159
      go_wp2
      refine bodyPost_ret (v := .agg #[.int .u64 0, .int .u64 0]) (by simp [results, Tryz.results159, go_sem]) rfl ⟨rfl, ?_⟩
      exact bl_alloc (bl_alloc (Below.refl _ _) _) _
end Go.Proofs.YtpfilldnfpcpkaaGreatDoor

namespace Go.Proofs.YtpfilldnfpcpkaaGreatDoor
open Go.RowKit

theorem size_alloc' (w : World) (o : Obj) : (w.alloc o).heap.size = w.heap.size + 1 := by simp
theorem size_setCell' (w : World) (a : Addr) (v : Value) : (w.setCell a v).heap.size = w.heap.size := by simp
theorem size_drew' (w : World) : w.drew.heap.size = w.heap.size := rfl

theorem shl_c (ah al k : Int) (w : World) (h0_ah : 0 ≤ ah) (h1_ah : ah < 18446744073709551616) (h0_al : 0 ≤ al) (h1_al : al < 18446744073709551616) (k0 : -9223372036854775808 ≤ k) :
    Calls Tryz.prog 167 #[.agg #[.int .u64 ah, .int .u64 al], .int .i64 k] w fun e w' =>
      e = .returned (numV (shlN (num ah al) k)) ∧ Below w.heap.size w w' := by
  rcases Int.lt_or_le k 0 with k1 | k1
  · have d1 : decide (128 ≤ k) = false := by simp; omega
    have d3 : decide (k < 0) = true := by simp; omega
    rcases Int.lt_or_le (-128) k with hk | hk
    · have d2 : decide (k ≤ -128) = false := by simp; omega
      have q : numV (shlN (num ah al) k) = numV (shrN (num ah al) (-k)) := by unfold shrN; rw [Int.neg_neg]
      rw [q]
      clear q
      go_enter Tryz.func167, Tryz.ntmps167
      go_wp2_with (go_at_call 159; refine (shr_pos ah al (-k) _ (by assumption) (by assumption) (by assumption) (by assumption) (by omega)).mono ?_; rintro e w1 ⟨rfl, hb1⟩; obtain ⟨hc1, hf1⟩ := bcell hb1; have hz1 := hb1.size; (try simp only [size_alloc', size_setCell', size_drew'] at hz1))
      refine bodyPost_ret (v := numV (shrN (num ah al) (-k))) (by simp [results, Tryz.results167, go_sem, hc1, hz1]) rfl ⟨rfl, bl_⟩
    · have d2 : decide (k ≤ -128) = true := by simp; omega
      rw [← shl_over (a := num ah al) (k := k) (by omega)]
      go_enter Tryz.func167, Tryz.ntmps167
      go_wp2
      refine bodyPost_ret (v := .agg #[.int .u64 0, .int .u64 0]) (by simp [results, Tryz.results167, go_sem]) rfl ⟨rfl, bl_⟩
  · exact shl_pos ah al k w h0_ah h1_ah h0_al h1_al k1

theorem shr_c (ah al k : Int) (w : World) (h0_ah : 0 ≤ ah) (h1_ah : ah < 18446744073709551616) (h0_al : 0 ≤ al) (h1_al : al < 18446744073709551616) (k0 : -9223372036854775808 ≤ k) :
    Calls Tryz.prog 159 #[.agg #[.int .u64 ah, .int .u64 al], .int .i64 k] w fun e w' =>
      e = .returned (numV (shrN (num ah al) k)) ∧ Below w.heap.size w w' := by
  rcases Int.lt_or_le k 0 with k1 | k1
  · have d1 : decide (128 ≤ k) = false := by simp; omega
    have d3 : decide (k < 0) = true := by simp; omega
    rcases Int.lt_or_le (-128) k with hk | hk
    · have d2 : decide (k ≤ -128) = false := by simp; omega
      have q : numV (shrN (num ah al) k) = numV (shlN (num ah al) (-k)) := by unfold shrN; rfl
      rw [q]
      clear q
      go_enter Tryz.func159, Tryz.ntmps159
      go_wp2_with (go_at_call 167; refine (shl_pos ah al (-k) _ (by assumption) (by assumption) (by assumption) (by assumption) (by omega)).mono ?_; rintro e w1 ⟨rfl, hb1⟩; obtain ⟨hc1, hf1⟩ := bcell hb1; have hz1 := hb1.size; (try simp only [size_alloc', size_setCell', size_drew'] at hz1))
      refine bodyPost_ret (v := numV (shlN (num ah al) (-k))) (by simp [results, Tryz.results159, go_sem, hc1, hz1]) rfl ⟨rfl, bl_⟩
    · have d2 : decide (k ≤ -128) = true := by simp; omega
      rw [← shr_over (a := num ah al) (k := k) (by omega)]
      go_enter Tryz.func159, Tryz.ntmps159
      go_wp2
      refine bodyPost_ret (v := .agg #[.int .u64 0, .int .u64 0]) (by simp [results, Tryz.results159, go_sem]) rfl ⟨rfl, bl_⟩
  · exact shr_pos ah al k w h0_ah h1_ah h0_al h1_al k1

theorem ones_c (k : Int) (w : World) :
    Calls Tryz.prog 136 #[.int .i64 k] w fun e w' =>
      e = .returned (numV (onesN k)) ∧ Below w.heap.size w w' := by
  rcases Int.lt_or_le k 1 with k1 | k1
  · have d1 : decide (k < 1) = true := by simp; omega
    have q : numV (onesN k) = .agg #[.int .u64 0, .int .u64 0] := by unfold onesN; rw [if_pos k1]; rfl
    rw [q]
    go_enter Tryz.func136, Tryz.ntmps136
    go_wp2
    refine bodyPost_ret (v := .agg #[.int .u64 0, .int .u64 0]) (by simp [results, Tryz.results136, go_sem]) rfl ⟨rfl, bl_⟩
  · have d1 : decide (k < 1) = false := by simp; omega
    rcases Int.lt_or_le k 128 with k2 | k2
    · have d2 : decide (128 ≤ k) = false := by simp; omega
      have q : numV (onesN k) = numV (notN (num (hi (shlN (num (hi (notN (num 0 0))) (lo (notN (num 0 0)))) k)) (lo (shlN (num (hi (notN (num 0 0))) (lo (notN (num 0 0)))) k)))) := by
        rw [ones_words k1 k2]
      rw [q]
      clear q
      go_enter Tryz.func136, Tryz.ntmps136
      go_wp2_with fail
      refine (not_c 0 0 _ (by omega) (by omega) (by omega) (by omega)).mono ?_
      rintro e w1 ⟨rfl, hb1⟩; obtain ⟨hc1, hf1⟩ := bcell hb1; have hz1 := hb1.size; (try simp only [size_alloc', size_setCell', size_drew'] at hz1); have hs1_0 : w.heap.size < w1.heap.size := (by omega)
      go_wp2_with fail
      refine (shl_c _ _ _ _ (hi_nn _) (hi_lt _) (lo_nn _) (lo_lt _) (by omega)).mono ?_
      rintro e w2 ⟨rfl, hb2⟩; obtain ⟨hc2, hf2⟩ := bcell hb2; have hz2 := hb2.size; (try simp only [size_alloc', size_setCell', size_drew'] at hz2); have hs2_0 : w.heap.size < w2.heap.size := (by omega)
      go_wp2_with fail
      refine (not_c _ _ _ (hi_nn _) (hi_lt _) (lo_nn _) (lo_lt _)).mono ?_
      rintro e w3 ⟨rfl, hb3⟩; obtain ⟨hc3, hf3⟩ := bcell hb3; have hz3 := hb3.size; (try simp only [size_alloc', size_setCell', size_drew'] at hz3); have hs3_0 : w.heap.size < w3.heap.size := (by omega)
      go_wp2_with fail
      refine bodyPost_ret (v := numV _) (by simp [results, Tryz.results136, go_sem, hc1, hs1_0, hc2, hs2_0, hc3, hs3_0]) rfl ⟨rfl, bl_⟩
    · have d2 : decide (128 ≤ k) = true := by simp; omega
      have q : numV (onesN k) = numV (notN (num 0 0)) := by unfold onesN; rw [if_neg (by omega), if_pos k2]; rfl
      rw [q]
      clear q
      go_enter Tryz.func136, Tryz.ntmps136
      go_wp2_with fail
      refine (not_c 0 0 _ (by omega) (by omega) (by omega) (by omega)).mono ?_
      rintro e w1 ⟨rfl, hb1⟩; obtain ⟨hc1, hf1⟩ := bcell hb1; have hz1 := hb1.size; (try simp only [size_alloc', size_setCell', size_drew'] at hz1)
      go_wp2_with fail
      refine bodyPost_ret (v := numV _) (by simp [results, Tryz.results136, go_sem, hc1, hz1]) rfl ⟨rfl, bl_⟩
end Go.Proofs.YtpfilldnfpcpkaaGreatDoor

namespace Go.Proofs.YtpfilldnfpcpkaaGreatDoor
open Go.RowKit

theorem log2_of {x b : Nat} (h0 : x ≠ 0) (h1 : 2 ^ (b - 1) ≤ x) (h2 : x < 2 ^ b) (hb : 1 ≤ b) : Nat.log2 x + 1 = b := by
  have e : Nat.log2 x = b - 1 := (Nat.log2_eq_iff h0).2 ⟨h1, by rw [show b - 1 + 1 = b from by omega]; exact h2⟩
  omega
theorem bitLen_lenN (x : Nat) (h : x < 18446744073709551616) : Lib.bitLen x = lenN x := by
  unfold lenN Lib.bitLen
  by_cases h0 : x = 0
  · subst h0; simp [Lib.bitLenAux]
  · rw [if_neg h0]
    obtain ⟨a, b, c⟩ := Lib.bitLenAux_bounds 64 x (by rw [two64]; exact h) h0
    exact (log2_of h0 b c a).symm
theorem lenN_lo {H L : Nat} (hH : H = 0) : lenN L = lenN (H * 18446744073709551616 + L) := by rw [hH]; simp
theorem lenN_hi {H L : Nat} (hH : H ≠ 0) (hL : L < 18446744073709551616) : 64 + lenN H = lenN (H * 18446744073709551616 + L) := by
  unfold lenN
  rw [if_neg hH, if_neg (by omega)]
  have h1 := Nat.log2_self_le hH
  have h2 : H < 2 ^ (Nat.log2 H + 1) := Nat.lt_log2_self
  have e : Nat.log2 (H * 18446744073709551616 + L) = Nat.log2 H + 64 := by
    refine (Nat.log2_eq_iff (by omega)).2 ⟨?_, ?_⟩
    · rw [Nat.pow_add, two64]; exact Nat.le_trans (Nat.mul_le_mul_right _ h1) (Nat.le_add_right _ _)
    · rw [show Nat.log2 H + 64 + 1 = Nat.log2 H + 1 + 64 from by omega, Nat.pow_add, two64]
      have := Nat.mul_le_mul_right 18446744073709551616 (Nat.succ_le_of_lt h2)
      clear h1 h2
      generalize 2 ^ (Nat.log2 H + 1) = x at *
      omega
  omega
theorem lenN_le {x : Nat} {b : Nat} (h : x < 2 ^ b) : lenN x ≤ b := by
  unfold lenN
  split
  · omega
  · rename_i h0
    have := Nat.log2_self_le h0
    rcases Nat.lt_or_ge (Nat.log2 x) b with h3 | h3
    · omega
    · exact absurd (Nat.lt_of_le_of_lt this h) (by simp; exact Nat.pow_le_pow_right (by omega) h3)

set_option maxRecDepth 100000 in
theorem len_c (ah al : Int) (w : World) (h0_ah : 0 ≤ ah) (h1_ah : ah < 18446744073709551616) (h0_al : 0 ≤ al) (h1_al : al < 18446744073709551616) :
    Calls Tryz.prog 134 #[.agg #[.int .u64 ah, .int .u64 al]] w fun e w' =>
      e = .returned (.int .i64 (lenN (num ah al))) ∧ Below w.heap.size w w' := by
  by_cases hH : ah = 0
  · have q : lenN (num ah al) = Lib.bitLen al.toNat := by rw [bitLen_lenN al.toNat (by omega), lenN_lo (H := ah.toNat) (L := al.toNat) (by omega)]; rfl
    rw [q]
    clear q
    have d : decide ((0 : Int) < ah) = false := by simp; omega
    clear hH
    go_enter Tryz.func134, Tryz.ntmps134
    go_wp2_with fail
    refine (Tryz.bits_Len64 al _ (by omega) (by omega)).mono ?_; rintro e w1 ⟨rfl, rfl⟩
    go_wp2_with fail
    go_ret
    exact ⟨rfl, bl_⟩
  · have q : (lenN (num ah al) : Int) = 64 + Lib.bitLen ah.toNat := by
      rw [bitLen_lenN ah.toNat (by omega)]
      have := lenN_hi (H := ah.toNat) (L := al.toNat) (by omega) (by omega)
      unfold num
      rw [← this]; simp
    rw [q]
    clear q
    have hle : Lib.bitLen ah.toNat ≤ 64 := by rw [bitLen_lenN ah.toNat (by omega)]; exact lenN_le (by rw [two64]; omega)
    have d : decide ((0 : Int) < ah) = true := by simp; omega
    clear hH
    go_enter Tryz.func134, Tryz.ntmps134
    go_wp2_with fail
    refine (Tryz.bits_Len64 ah _ (by omega) (by omega)).mono ?_; rintro e w1 ⟨rfl, rfl⟩
    go_wp2_with fail
    go_ret
    exact ⟨rfl, bl_⟩

def cmpI (x y : Int) : Int := if x < y then -1 else if y < x then 1 else 0
set_option maxRecDepth 100000 in
theorem compare_c (x y : Int) (w : World) :
    Calls Tryz.prog 130 #[.int .u64 x, .int .u64 y] w fun e w' => e = .returned (.int .i64 (cmpI x y)) ∧ w = w' := by
  unfold cmpI
  by_cases h1 : x < y
  · have d1 : decide (x < y) = true := by simpa using h1
    rw [if_pos h1]
    go_enter Tryz.func130, Tryz.ntmps130
    go_wp2
    go_ret
    exact ⟨rfl, rfl⟩
  · have d1 : decide (x < y) = false := by simpa using h1
    rw [if_neg h1]
    by_cases h2 : y < x
    · have d2 : decide (y < x) = true := by simpa using h2
      rw [if_pos h2]
      go_enter Tryz.func130, Tryz.ntmps130
      go_wp2
      go_ret
      exact ⟨rfl, rfl⟩
    · have d2 : decide (y < x) = false := by simpa using h2
      rw [if_neg h2]
      go_enter Tryz.func130, Tryz.ntmps130
      go_wp2
      go_ret
      exact ⟨rfl, rfl⟩

def orI (a b : Int) : Int := if a = 0 then b else a
set_option maxRecDepth 100000 in
theorem or_c (a b : Int) (g : Nat) (w : World) (h0 : w.cell? ⟨g, 0, none⟩ = some (.int .i64 a)) (h1 : w.cell? ⟨g, 1, none⟩ = some (.int .i64 b)) :
    Calls Tryz.prog 129 #[.slice (some ⟨g, 0, none⟩) 2 2] w fun e w' => e = .returned (.int .i64 (orI a b)) ∧ w = w' := by
  unfold orI
  by_cases ha : a = 0
  · rw [if_pos ha]
    subst ha
    by_cases hb : b = 0
    · subst hb
      go_enter Tryz.func129, Tryz.ntmps129
      go_wp2
      refine wp_loop_rounds 3 ?_
      rw [rounds_succ]
      go_wp2
      rw [rounds_succ]
      go_wp2
      rw [rounds_succ]
      go_wp2
      go_ret
      exact ⟨rfl, rfl⟩
    · have d2 : (b != 0) = true := by simpa using hb
      go_enter Tryz.func129, Tryz.ntmps129
      go_wp2
      refine wp_loop_rounds 2 ?_
      rw [rounds_succ]
      go_wp2
      rw [rounds_succ]
      go_wp2
      go_ret
      exact ⟨rfl, rfl⟩
  · rw [if_neg ha]
    have d2 : (a != 0) = true := by simpa using ha
    go_enter Tryz.func129, Tryz.ntmps129
    go_wp2
    refine wp_loop_rounds 1 ?_
    rw [rounds_succ]
    go_wp2
    go_ret
    exact ⟨rfl, rfl⟩

theorem cmp_words {ah al bh bl : Int} (h0_ah : 0 ≤ ah) (h1_ah : ah < 18446744073709551616) (h0_al : 0 ≤ al) (h1_al : al < 18446744073709551616) (h0_bh : 0 ≤ bh) (h1_bh : bh < 18446744073709551616) (h0_bl : 0 ≤ bl) (h1_bl : bl < 18446744073709551616) : orI (cmpI ah bh) (cmpI al bl) = cmpN (num ah al) (num bh bl) := by
  have e1 : num ah al = num bh bl ↔ ah = bh ∧ al = bl := by unfold num; omega
  have e2 : num ah al < num bh bl ↔ ah < bh ∨ ah = bh ∧ al < bl := by unfold num; omega
  unfold cmpN orI cmpI
  rcases Int.lt_trichotomy ah bh with h | h | h
  · have f1 := e2.2 (.inl h)
    simp [f1, h]
  · have f3 : ¬ ah < bh := by omega
    have f4 : ¬ bh < ah := by omega
    rcases Int.lt_trichotomy al bl with k | k | k
    · have f1 := e2.2 (.inr ⟨h, k⟩)
      simp [f1, f3, f4, k]
    · have f2 := e1.2 ⟨h, k⟩
      have f1 : ¬ num ah al < num bh bl := by omega
      have f5 : ¬ al < bl := by omega
      have f6 : ¬ bl < al := by omega
      rw [if_neg f3, if_neg f4, if_pos rfl, if_neg f5, if_neg f6, if_neg f1, if_pos f2]
    · have f1 : ¬ num ah al < num bh bl := fun q => by have := e2.1 q; omega
      have f2 : ¬ num ah al = num bh bl := fun q => by have := e1.1 q; omega
      have f5 : ¬ al < bl := by omega
      rw [if_neg f3, if_neg f4, if_pos rfl, if_neg f5, if_pos k, if_neg f1, if_neg f2]
  · have f1 : ¬ num ah al < num bh bl := fun q => by have := e2.1 q; omega
    have f2 : ¬ num ah al = num bh bl := fun q => by have := e1.1 q; omega
    have f3 : ¬ ah < bh := by omega
    rw [if_neg f3, if_pos h, if_neg (by omega), if_neg f1, if_neg f2]

end Go.Proofs.YtpfilldnfpcpkaaGreatDoor

namespace Go.Proofs.YtpfilldnfpcpkaaGreatDoor
open Go.RowKit
theorem wp_tail {P : Program} {id : Nat} {Q : Exit → Act → World → Prop} {a : Act} {w : World} {l : List Oper} (n : Nat) (hm : P.follows .mixedOrders = true) (hB : Region.lexTailB .any l.toArray n = true)
    (h : wpStill P l.toArray w.drew (fun a' => wpList P l.toArray Q (l.drop n) a' w.drew) (l.take n) a) : (Code.region id l.toArray true).wp P Q a w :=
  wp_region_still_tail n hm hB h
set_option maxRecDepth 100000 in
theorem cmp_c (ah al bh bl : Int) (w : World) (h0_ah : 0 ≤ ah) (h1_ah : ah < 18446744073709551616) (h0_al : 0 ≤ al) (h1_al : al < 18446744073709551616) (h0_bh : 0 ≤ bh) (h1_bh : bh < 18446744073709551616) (h0_bl : 0 ≤ bl) (h1_bl : bl < 18446744073709551616) :
    Calls Tryz.prog 88 #[.agg #[.int .u64 ah, .int .u64 al], .agg #[.int .u64 bh, .int .u64 bl]] w fun e w' =>
      e = .returned (.int .i64 (cmpN (num ah al) (num bh bl))) ∧ Below w.heap.size w w' := by
  rw [← cmp_words h0_ah h1_ah h0_al h1_al h0_bh h1_bh h0_bl h1_bl]
  clear h0_ah h1_ah h0_al h1_al h0_bh h1_bh h0_bl h1_bl
  go_enter Tryz.func88, Tryz.ntmps88
  go_wp2
  refine wp_tail 10 (by kernel_rfl) (by kernel_rfl) ?_
  simp only [List.take_succ_cons, List.take_zero, List.drop_succ_cons, List.drop_zero]
  iterate 4 still_step
  still_call ((compare_c ah bh _).mono fun _ _ h => ⟨h.1, h.2.symm⟩)
  iterate 4 still_step
  still_call ((compare_c al bl _).mono fun _ _ h => ⟨h.1, h.2.symm⟩)
  refine wpStill_nil ?_
  go_wp2_with fail
  refine (or_c (cmpI ah bh) (cmpI al bl) _ _ ?_ ?_).mono ?_
  · simp [World.cell?_alloc_new, go_sem]
  · simp [World.cell?_alloc_new, go_sem]
  rintro e w1 ⟨rfl, rfl⟩
  go_wp2_with fail
  go_ret
  exact ⟨rfl, bl_⟩
end Go.Proofs.YtpfilldnfpcpkaaGreatDoor

namespace Go.Proofs.YtpfilldnfpcpkaaGreatDoor
open Go.RowKit

/-- block g is just these cells, none of them frozen -/
def Blk (w : World) (g : Nat) (t : TypeId) (cs : Array Value) : Prop := w.heap[g]? = some (.cells cs t (0, 0))
theorem Blk.lt {w : World} {g : Nat} {t : TypeId} {cs : Array Value} (h : Blk w g t cs) : g < w.heap.size := by
  unfold Blk at h
  rcases Nat.lt_or_ge g w.heap.size with k | k
  · exact k
  · rw [Array.getElem?_eq_none k] at h; cases h
theorem Blk.cell {w : World} {g : Nat} {t : TypeId} {cs : Array Value} (h : Blk w g t cs) (i : Nat) : w.cell? ⟨g, i, none⟩ = cs[i]? := by
  unfold Blk at h; simp [World.cell?, h]
theorem Blk.frozen {w : World} {g : Nat} {t : TypeId} {cs : Array Value} (h : Blk w g t cs) (i : Nat) : w.frozen? ⟨g, i, none⟩ = false := by
  unfold Blk at h; simp [World.frozen?, h]
theorem Blk.same {w w' : World} {g : Nat} {t : TypeId} {cs : Array Value} (h : Blk w g t cs) (e : w'.heap[g]? = w.heap[g]?) : Blk w' g t cs := e.trans h
theorem Blk.drew {w : World} {g : Nat} {t : TypeId} {cs : Array Value} (h : Blk w g t cs) : Blk w.drew g t cs := h
theorem Blk.alloc {w : World} {g : Nat} {t : TypeId} {cs : Array Value} (h : Blk w g t cs) (o : Obj) : Blk (w.alloc o) g t cs := h.same (Below.heap_alloc w o g h.lt)
theorem Blk.below {w w' : World} {g B : Nat} {t : TypeId} {cs : Array Value} (h : Blk w g t cs) (hb : Below B w w') (hg : g < B) : Blk w' g t cs := h.same (hb.block g hg)
theorem Blk.after {w w' : World} {g : Nat} {t : TypeId} {cs : Array Value} (h : Blk w g t cs) (hb : Below w.heap.size w w') : Blk w' g t cs := h.same (hb.block g h.lt)
theorem Blk.grown {w w' : World} {g : Nat} {t : TypeId} {cs : Array Value} {row : Option Nat} (h : Blk w g t cs) (hb : w.grownBy w' row) (hg : some g ≠ row) : Blk w' g t cs := h.same (hb.block g h.lt hg)
theorem Blk.far {w : World} {g : Nat} {t : TypeId} {cs : Array Value} (h : Blk w g t cs) {p : Addr} (hp : g ≠ p.block) (u : Value) : Blk (w.setCell p u) g t cs := h.same (Below.heap_setCell w p u g hp)
theorem Blk.put {w : World} {g : Nat} {t : TypeId} {cs : Array Value} (h : Blk w g t cs) (i : Nat) (u : Value) : Blk (w.setCell ⟨g, i, none⟩ u) g t (cs.setIfInBounds i u) := by
  unfold Blk at h ⊢; simp [World.setCell, Array.getElem?_modify, h]
theorem Blk.new (w : World) (t : TypeId) (cs : Array Value) : Blk (w.alloc (.cells cs t)) w.heap.size t cs := by
  unfold Blk; show (w.heap.push _)[w.heap.size]? = _; simp
theorem Blk.new' (w : World) (t : TypeId) (cs : Array Value) (g : Nat) (hg : g = w.heap.size) : Blk (w.alloc (.cells cs t)) g t cs := by
  subst hg; exact Blk.new w t cs
theorem blk_fill {w : World} {g : Nat} {t : TypeId} {u v x y : Value} (h : Blk w g t #[u, v]) : Blk ((w.setCell ⟨g, 0, none⟩ x).setCell ⟨g, 1, none⟩ y) g t #[x, y] := (h.put 0 x).put 1 y
theorem blk_two {w : World} {g : Nat} {t : TypeId} {a b : Value} (h : Blk w g t #[a, b]) : w.cell? ⟨g, 0, none⟩ = some a ∧ w.cell? ⟨g, 1, none⟩ = some b ∧ Blk w g t #[a, b] :=
  ⟨(h.cell 0).trans rfl, (h.cell 1).trans rfl, h⟩
end Go.Proofs.YtpfilldnfpcpkaaGreatDoor

namespace Go.Proofs.YtpfilldnfpcpkaaGreatDoor
open Go.RowKit
theorem bk_ {w : World} {g : Nat} {t : TypeId} {cs : Array Value} (h : Blk w g t cs := by repeat (first | (with_reducible assumption) | (with_reducible refine blk_fill (u := .int .u64 0) (v := .int .u64 0) ?_) | (with_reducible refine Blk.drew ?_) | (with_reducible refine Blk.new' _ _ _ _ (by first | (with_reducible rfl) | (simp; done))) | (with_reducible refine Blk.alloc ?_ _) | (with_reducible refine Blk.after ?_ ‹_›) | (with_reducible refine Blk.far ?_ (by first | (simp; done) | (simp; omega)) _))) : Blk w g t cs := h
end Go.Proofs.YtpfilldnfpcpkaaGreatDoor
namespace Go.Proofs.YtpfilldnfpcpkaaGreatDoor
open Go.RowKit

theorem info_u8 : (Tryz.prog.info? 5).map (fun i => (i.zero, i.size, i.bytes)) = some (some (.int .u8 0), 1, 1) := by kernel_rfl
theorem one_cell_k (k : IntKind) (n : Int) : ∀ u ∈ [Value.int k n], u.oneCell' = true := by intro u hu; simp at hu; subst hu; rfl
def bytesV (l : List Int) : List Value := l.map (Value.int .u8)
theorem bytesV_snoc (l : List Int) (x : Int) : bytesV (l ++ [x]) = bytesV l ++ [.int .u8 x] := by simp [bytesV]
theorem cell_one (w : World) (u : Value) (t : TypeId) : ∀ j x, [u][j]? = some x → (w.alloc (.cells #[u] t)).cell? ((⟨w.heap.size, 0, none⟩ : Addr).add j) = some x := by
  intro j x h
  rcases j with _ | j
  · simp at h; subst h
    simp [World.cell?_alloc_new, Addr.add]
  · simp at h
theorem own_after {w w' : World} {base n : Nat} {e : TypeId} {v : Value} {xs : List Value} (h : w.ownsRow base e 1 v n xs) (hb : Below w.heap.size w w') : w'.ownsRow base e 1 v n xs :=
  h.kept (row := none) ⟨hb.os, hb.tape, hb.output, hb.size, fun k hk _ => hb.block k hk⟩ (by rcases v.ownBlock with _ | g <;> simp)
theorem below_own {w wr w' : World} {v : Value} {base n : Nat} {e : TypeId} {xs : List Value} (h : Below w.heap.size w wr) (hown : wr.ownsRow base e 1 v n xs) (hb : w.heap.size ≤ base) {o : Obj} (hg : (wr.alloc o).grownBy w' v.ownBlock) : Below w.heap.size w w' :=
  (bl_alloc h o).grown hg (by have := h.size; simp; omega) fun k hk => Nat.le_trans hb ((hown.lt k hk).1)
theorem own_form {w : World} {base n : Nat} {e : TypeId} {v : Value} {xs : List Value} (h : w.ownsRow base e 1 v n xs) (hn : 0 < n) :
    ∃ g cap, v = .slice (some ⟨g, 0, none⟩) n cap ∧ base ≤ g ∧ g < w.heap.size ∧ n ≤ cap ∧ (∀ j u, xs[j]? = some u → w.cell? ⟨g, j, none⟩ = some u) ∧ ∀ j, w.frozen? ⟨g, j, none⟩ = false := by
  rcases h.2 with ⟨_, h0⟩ | ⟨g, cap, cur, hv, hb, hh, hc, _⟩
  · omega
  · subst hv
    refine ⟨g, cap, rfl, hb, ?_, hc, fun j u hu => ?_, fun j => by simp [World.frozen?, hh]⟩
    · rcases Nat.lt_or_ge g w.heap.size with k | k
      · exact k
      · rw [Array.getElem?_eq_none k] at hh; cases hh
    · have := h.cells (g := g) rfl j u hu
      rw [← this]; congr 1
      unfold Addr.add; split <;> simp_all
theorem get_bytes {xs : List Int} {j : Nat} (h : j < xs.length) : (bytesV xs)[j]? = some (.int .u8 (xs.getD j 0)) := by
  simp [bytesV, List.getD, h]
/-- a block of bytes just laid is a row of the call's own -/
theorem own_laid (w : World) (l : List Int) (hl : l.length ≤ maxLen) (base : Nat) (hb : base ≤ w.heap.size) : (w.alloc (.cells (bytesV l).toArray 5)).ownsRow base 5 1 (.slice (some ⟨w.heap.size, 0, none⟩) l.length l.length) l.length (bytesV l) := by
  refine ⟨by simp [bytesV], Or.inr ⟨w.heap.size, l.length, (bytesV l).toArray, rfl, hb, ?_, Nat.le_refl _, hl, by simp [bytesV], ?_⟩⟩
  · show (w.heap.push _)[w.heap.size]? = _; simp
  · simp [bytesV, List.take_of_length_le]
end Go.Proofs.YtpfilldnfpcpkaaGreatDoor

namespace Go.Proofs.YtpfilldnfpcpkaaGreatDoor
open Go.RowKit

def AddrV (v6 : Bool) (n : Nat) : Value := .agg #[.bool v6, .int .u64 (hi n), .int .u64 (lo n)]
def widthN (v6 : Bool) : Nat := if v6 then 128 else 32
def rightB (v6 : Bool) (n : Nat) : Bool := decide (n < 2 ^ widthN v6)
set_option maxRecDepth 100000 in
theorem width_c (v6 : Bool) (n : Nat) (w : World) :
    Calls Tryz.prog 132 #[AddrV v6 n] w fun e w' => e = .returned (.int .i64 (widthN v6)) ∧ Below w.heap.size w w' := by
  unfold AddrV
  cases v6
  · go_enter Tryz.func132, Tryz.ntmps132
    go_wp2_with fail
    go_ret
    exact ⟨rfl, bl_⟩
  · go_enter Tryz.func132, Tryz.ntmps132
    go_wp2_with fail
    go_ret
    exact ⟨rfl, bl_⟩
def AddrC (v6 : Bool) (n : Nat) : Array Value := #[.bool v6, .int .u64 (hi n), .int .u64 (lo n)]
theorem AddrV_eq (v6 : Bool) (n : Nat) : AddrV v6 n = .agg (AddrC v6 n) := rfl
theorem blk_adr {w : World} {g : Nat} {v : Bool} {n : Nat} (h : Blk w g 26 (AddrC v n)) : (w.cell? ⟨g, 0, none⟩ = some (.bool v) ∧ w.cell? ⟨g, 1, none⟩ = some (.int .u64 (hi n)) ∧ w.cell? ⟨g, 2, none⟩ = some (.int .u64 (lo n)) ∧ Blk w g 26 (AddrC v n)) := ⟨h.cell 0, h.cell 1, h.cell 2, h⟩
theorem width_n (v6 : Bool) (n : Nat) (hn : n < 340282366920938463463374607431768211456) : decide ((lenN n : Int) ≤ (widthN v6 : Int)) = rightB v6 n := by
  unfold rightB
  rw [Bool.eq_iff_iff]
  simp only [decide_eq_true_eq]
  have key : lenN n ≤ widthN v6 ↔ n < 2 ^ widthN v6 := by
    unfold lenN
    by_cases h0 : n = 0
    · subst h0; simp [Nat.two_pow_pos]
    · rw [if_neg h0]
      rw [Nat.add_one_le_iff]
      exact Nat.log2_lt h0
  rw [← key]; omega
set_option maxRecDepth 100000 in
theorem v4_c (n : Nat) (w : World) (hn : n < 4294967296) :
    Calls Tryz.prog 151 #[.int .u32 n] w fun e w' => e = .returned (AddrV false n) ∧ Below w.heap.size w w' := by
  have hc : IntKind.u64.wrap (n : Int) = n := by show (n : Int) % 18446744073709551616 = n; omega
  have h1 : hi n = 0 := by unfold hi; omega
  have h2 : lo n = n := by unfold lo; omega
  have HO := Lib.hid (fun w => of_c (n : Int) w (by omega) (by omega))
  rw [Int.toNat_natCast] at HO
  go_enter Tryz.func151, Tryz.ntmps151
  go_wp2_with fail
  refine (HO.out _).mono ?_
  rintro e w1 ⟨rfl, hb1⟩
  have hR : Blk w1 w.heap.size 26 (AddrC false 0) := (Blk.new w 26 (AddrC false 0)).after hb1
  have hbel : Below w.heap.size w w1 := bl_
  obtain ⟨c0, c1, c2, _⟩ := blk_adr hR
  have z0 := hR.frozen 0
  have z1 := hR.frozen 1
  have z2 := hR.frozen 2
  unfold numV
  rw [h1, h2]
  go_wp2_with fail
  have hv : AddrV false n = .agg #[.bool false, .int .u64 0, .int .u64 n] := by unfold AddrV; rw [h1, h2]
  refine bodyPost_ret (v := .agg #[.bool false, .int .u64 0, .int .u64 n]) (results_cell_row (t := 26) Tryz.results151 _ _ w.heap.size _ (0, 0) _ rfl (((hR.put 0 _).put 1 _).put 2 _) Tryz.underlying26 rfl (by kernel_rfl)) rfl ⟨by rw [hv], bl_⟩
set_option maxRecDepth 100000 in
theorem right_c (v6 : Bool) (n : Nat) (w : World) (hn : n < 340282366920938463463374607431768211456) :
    Calls Tryz.prog 91 #[AddrV v6 n] w fun e w' => e = .returned (.bool (rightB v6 n)) ∧ Below w.heap.size w w' := by
  have HL := Lib.hid (fun w => len_c (hi n) (lo n) w (hi_nn _) (hi_lt _) (lo_nn _) (lo_lt _))
  rw [num_hi_lo hn] at HL
  have HW : Hid (decide (lenN n ≤ widthN v6) = rightB v6 n) := Lib.hid (by rw [← width_n v6 n hn]; congr 1; simp)
  rw [AddrV_eq]
  go_enter Tryz.func91, Tryz.ntmps91
  go_wp2_with fail
  have hA : Blk (w.alloc (.cells (AddrC v6 n) 26)) w.heap.size 26 (AddrC v6 n) := Blk.new _ _ _
  have hbel : Below w.heap.size w (w.alloc (.cells (AddrC v6 n) 26)) := bl_
  generalize w.alloc (.cells (AddrC v6 n) 26) = wz at *
  go_region_held3 (fun w' => (w'.cell? ⟨w.heap.size, 0, none⟩ = some (.bool v6) ∧ w'.cell? ⟨w.heap.size, 1, none⟩ = some (.int .u64 (hi n)) ∧ w'.cell? ⟨w.heap.size, 2, none⟩ = some (.int .u64 (lo n)) ∧ Blk w' w.heap.size 26 (AddrC v6 n)) ∧ Below w.heap.size w w')
    (exact ⟨blk_adr bk_, bl_⟩)
    (first
    | (go_at_call 134; refine (HL.out _).mono ?_; rintro e w3 ⟨rfl, hb3⟩; obtain ⟨hc3, hf3⟩ := bcell hb3; have hz3 := hb3.size; (try simp only [size_alloc', size_setCell', size_drew'] at hz3))
    | (go_at_call 132; refine (width_c v6 n _).mono ?_; rintro e w4 ⟨rfl, hb4⟩; obtain ⟨hc4, hf4⟩ := bcell hb4; have hz4 := hb4.size; (try simp only [size_alloc', size_setCell', size_drew'] at hz4)))
  all_goals
    rw [HW.out]
    go_wp2_with fail
    go_ret
    exact ⟨rfl, bl_⟩
theorem or_nat {a b : Nat} (ha : a < 340282366920938463463374607431768211456) (hb : b < 340282366920938463463374607431768211456) :
    Value.agg #[.int .u64 (bits .or .u64 (hi a) (hi b)), .int .u64 (bits .or .u64 (lo a) (lo b))] = numV (a ||| b) := by
  have e64 : (18446744073709551616 : Nat) = 2 ^ 64 := by decide
  unfold numV hi lo
  rw [bits_or_u64_nat _ _ (Nat.mod_lt _ (by omega)) (Nat.mod_lt _ (by omega)), bits_or_u64_nat _ _ (Nat.mod_lt _ (by omega)) (Nat.mod_lt _ (by omega)), e64]
  rw [← Nat.or_mod_two_pow, ← Nat.or_mod_two_pow, ← Nat.shiftRight_eq_div_pow, ← Nat.shiftRight_eq_div_pow, ← Nat.shiftRight_or_distrib, Nat.shiftRight_eq_div_pow]
set_option maxRecDepth 100000 in
theorem orn_c (a b : Nat) (w : World) (ha : a < 340282366920938463463374607431768211456) (hb : b < 340282366920938463463374607431768211456) :
    Calls Tryz.prog 93 #[numV a, numV b] w fun e w' => e = .returned (numV (a ||| b)) ∧ Below w.heap.size w w' := by
  rw [← or_nat ha hb]
  unfold numV
  have hA := hi_nn a
  generalize hi a = ah, lo a = al, hi b = bh, lo b = bl at *
  go_enter Tryz.func93, Tryz.ntmps93
  go_wp2_with fail
  refine bodyPost_ret (v := .agg #[.int .u64 (bits .or .u64 ah bh), .int .u64 (bits .or .u64 al bl)]) (results_cell_row (t := 24) Tryz.results93 _ _ (w.heap.size + 1 + 1) _ (0, 0) _ rfl (Blk.new' _ _ _ _ (by simp)) Tryz.underlying24 rfl (by kernel_rfl)) rfl ⟨rfl, bl_⟩
/-- so many bits more, with a small number behind -/
theorem shl_or {x k d : Nat} (hx : x * 2 ^ k < 340282366920938463463374607431768211456) (hk : k < 128) (hd : d < 2 ^ k) : shlN x k ||| d = x * 2 ^ k + d := by
  have h1 : shlN x (k : Int) = x * 2 ^ k := by
    unfold shlN
    rw [if_neg (by omega), if_neg (by omega), Int.toNat_natCast, Nat.mod_eq_of_lt hx]
  rw [h1, Nat.mul_comm, ← Nat.two_pow_add_eq_or_of_lt hd]
end Go.Proofs.YtpfilldnfpcpkaaGreatDoor

namespace Go.Proofs.YtpfilldnfpcpkaaGreatDoor

def pieces (c : UInt8) : List UInt8 → List (List UInt8)
  | [] => [[]]
  | x :: r => if x = c then [] :: pieces c r else match pieces c r with
    | [] => [[x]]
    | p :: q => (x :: p) :: q
theorem pieces_ne (c : UInt8) : ∀ l, pieces c l ≠ []
  | [] => by simp [pieces]
  | x :: r => by
    unfold pieces
    split
    · simp
    · split <;> simp
theorem pieces_cons {c x : UInt8} {r : List UInt8} (h : x ≠ c) : ∃ p q, pieces c r = p :: q ∧ pieces c (x :: r) = (x :: p) :: q := by
  cases hp : pieces c r with
  | nil => exact absurd hp (pieces_ne c r)
  | cons p q => exact ⟨p, q, rfl, by rw [pieces, if_neg h, hp]⟩
theorem pieces_sep (c : UInt8) (r : List UInt8) : pieces c (c :: r) = [] :: pieces c r := by rw [pieces, if_pos rfl]
theorem pieces_plain {c : UInt8} : ∀ {l : List UInt8}, c ∉ l → pieces c l = [l]
  | [], _ => rfl
  | x :: r, h => by
    have h1 : x ≠ c := fun e => h (by simp [e])
    have h2 : c ∉ r := fun e => h (by simp [e])
    rw [pieces, if_neg h1, pieces_plain h2]
theorem pieces_first {c : UInt8} : ∀ {a r : List UInt8}, c ∉ a → pieces c (a ++ c :: r) = a :: pieces c r
  | [], r, _ => pieces_sep c r
  | x :: a, r, h => by
    have h1 : x ≠ c := fun e => h (by simp [e])
    have h2 : c ∉ a := fun e => h (by simp [e])
    rw [List.cons_append, pieces, if_neg h1, pieces_first h2]
theorem pieces_len (c : UInt8) : ∀ l, (pieces c l).length = l.count c + 1
  | [] => rfl
  | x :: r => by
    by_cases e : x = c
    · subst e; rw [pieces_sep, List.length_cons, pieces_len x r]; simp
    · obtain ⟨a, q, e1, e2⟩ := pieces_cons (r := r) e
      have := pieces_len c r
      rw [e1] at this
      rw [e2, List.count_cons_of_ne e]; simpa using this
/-- the first sign: what is ahead of it and behind it -/
theorem index_one (c : UInt8) : ∀ l : List UInt8, (c ∉ l ∧ Lib.index l [c] = -1) ∨ (∃ a r, l = a ++ c :: r ∧ c ∉ a ∧ Lib.index l [c] = (a.length : Int))
  | [] => .inl ⟨by simp, rfl⟩
  | x :: l => by
    by_cases e : x = c
    · subst e
      refine .inr ⟨[], l, rfl, by simp, ?_⟩
      simp [Lib.index, List.isPrefixOf]
    · have hp : ([c] : List UInt8).isPrefixOf (x :: l) = false := by simp [List.isPrefixOf, Ne.symm e]
      rcases index_one c l with ⟨h1, h2⟩ | ⟨a, r, rfl, h1, h2⟩
      · refine .inl ⟨by simp [Ne.symm e, h1], ?_⟩
        rw [Lib.index, if_neg (by rw [hp]; simp), h2]; rfl
      · refine .inr ⟨x :: a, r, rfl, by simp [Ne.symm e, h1], ?_⟩
        rw [Lib.index, if_neg (by rw [hp]; simp), h2]
        have : ((a.length : Int) == -1) = false := beq_eq_false_iff_ne.2 (by omega)
        rw [this]; simp
theorem splitK_one (c : UInt8) : ∀ (k : Nat) (l : List UInt8), l.count c ≤ k → Lib.splitK [c] 0 k l = pieces c l
  | 0, l, h => by
    have : c ∉ l := by rw [← List.count_eq_zero]; omega
    rw [pieces_plain this]; rfl
  | k + 1, l, h => by
    rcases index_one c l with ⟨h1, h2⟩ | ⟨a, r, rfl, h1, h2⟩
    · rw [Lib.splitK, h2, pieces_plain h1]; rfl
    · have : ((a.length : Int) == -1) = false := beq_eq_false_iff_ne.2 (by omega)
      rw [Lib.splitK, h2, this, if_neg (by simp), pieces_first h1]
      have h3 : (a ++ c :: r).take ((a.length : Int).toNat + 0) = a := by simp
      have h4 : (a ++ c :: r).drop ((a.length : Int).toNat + [c].length) = r := by
        rw [Int.toNat_natCast, show [c].length = 1 from rfl, List.drop_append]
        simp
      rw [h3, h4, splitK_one c k r (by rw [List.count_append, List.count_cons_self] at h; omega)]
theorem count_one (c : UInt8) : ∀ (n : Nat) (l : List UInt8), l.length ≤ n → Lib.count l [c] = l.count c
  | n, l, hn => by
    rcases index_one c l with ⟨h1, h2⟩ | ⟨a, r, rfl, h1, h2⟩
    · rw [Lib.count_miss h2, List.count_eq_zero.2 h1]
    · rw [Lib.count_hit (by simp) h2]
      have h4 : (a ++ c :: r).drop (a.length + [c].length) = r := by
        rw [show [c].length = 1 from rfl, List.drop_append]; simp
      rw [h4, List.count_append, List.count_cons_self, List.count_eq_zero.2 h1]
      match n, hn with
      | 0, hn => simp at hn
      | n + 1, hn => rw [count_one c n r (by simp at hn; omega)]; omega
/-- strings.Split at one sign -/
theorem split_one (c : UInt8) (l : List UInt8) : Lib.split l [c] = pieces c l := by
  unfold Lib.split
  rw [count_one c l.length l (Nat.le_refl _)]
  exact splitK_one c _ l (Nat.le_refl _)

def dig (c : UInt8) : Prop := 48 ≤ c.toNat ∧ c.toNat ≤ 57
instance (c : UInt8) : Decidable (dig c) := by unfold dig; infer_instance
/-- n: what stands ahead (none: nothing yet) -/
def decM : Option Nat → List UInt8 → Option Nat
  | n, [] => n
  | n, c :: r => if dig c ∧ n ≠ some 0 ∧ 10 * n.getD 0 + (c.toNat - 48) ≤ 255 then decM (some (10 * n.getD 0 + (c.toNat - 48))) r else none
/-- the number of a piece, if that is just the number's text -/
def dec8 (w : List UInt8) : Option Nat := decM none w
theorem ofNat_dig {c : UInt8} (h : dig c) : UInt8.ofNat (48 + (c.toNat - 48)) = c := by
  rw [show 48 + (c.toNat - 48) = c.toNat by unfold dig at h; omega]; simp
theorem decM_zero : ∀ {w k}, decM (some 0) w = some k → w = [] ∧ k = 0
  | [], k, h => by cases h; exact ⟨rfl, rfl⟩
  | c :: r, k, h => by simp [decM] at h
theorem decM_some : ∀ {w n k}, 0 < n → n ≤ 255 → decM (some n) w = some k → k ≤ 255 ∧ Lib.decDigits k = Lib.decDigits n ++ w
  | [], n, k, hn, hn', h => by cases h; exact ⟨hn', by simp⟩
  | c :: r, n, k, hn, hn', h => by
    rw [decM] at h
    split at h
    · rename_i hc
      obtain ⟨h1, h2, h3⟩ := hc
      simp only [Option.getD_some] at h h3
      obtain ⟨h4, h5⟩ := decM_some (by omega) h3 h
      refine ⟨h4, ?_⟩
      have h1' := h1
      unfold dig at h1'
      rw [h5, Lib.decDigits.eq_def (10 * n + _), dif_neg (by omega), show (10 * n + (c.toNat - 48)) / 10 = n by omega, show (10 * n + (c.toNat - 48)) % 10 = c.toNat - 48 by omega, ofNat_dig h1, List.append_assoc]; rfl
    · cases h
theorem dec8_text {w k} (h : dec8 w = some k) : k ≤ 255 ∧ Lib.decDigits k = w := by
  unfold dec8 at h
  match w, h with
  | [], h => cases h
  | c :: r, h =>
    rw [decM] at h
    split at h
    · rename_i hc
      obtain ⟨h1, h2, h3⟩ := hc
      simp only [Option.getD_none, Nat.mul_zero, Nat.zero_add] at h h3
      have h1' := h1
      unfold dig at h1'
      have hd : Lib.decDigits (c.toNat - 48) = [c] := by rw [Lib.decDigits.eq_def, dif_pos (by omega), ofNat_dig h1]
      by_cases hz : c.toNat - 48 = 0
      · rw [hz] at h hd
        obtain ⟨e1, e2⟩ := decM_zero h
        subst e1 e2
        exact ⟨by omega, hd⟩
      · obtain ⟨e1, e2⟩ := decM_some (by omega) h3 h
        exact ⟨e1, by rw [e2, hd]; rfl⟩
    · cases h
theorem dec8_all : ∀ k, k < 256 → dec8 (Lib.decDigits k) = some k := by decide +kernel
theorem parse_all : ∀ k, k < 256 → Lib.parseUintB 8 (Lib.decDigits k) = .ok k := by decide +kernel
/-- what the reading of a piece answers: the number, or nothing -/
theorem dec8_read (w : List UInt8) : (∃ k, k < 256 ∧ Lib.parseUintB 8 w = .ok k ∧ Lib.decDigits k = w ∧ dec8 w = some k) ∨ (∃ k, Lib.parseUintB 8 w = .ok k ∧ k < 256 ∧ Lib.decDigits k ≠ w ∧ dec8 w = none) ∨ (Lib.parseUintB 8 w = Lib.parseUintB 8 [] ∧ dec8 w = none) ∨ (Lib.parseUintB 8 w = .range ∧ dec8 w = none) := by
  have key : ∀ k, dec8 w = some k → Lib.parseUintB 8 w = .ok k := fun k h => by
    obtain ⟨h1, h2⟩ := dec8_text h
    rw [← h2]; exact parse_all k (by omega)
  cases hd : dec8 w with
  | some k =>
    obtain ⟨h1, h2⟩ := dec8_text hd
    exact .inl ⟨k, by omega, key k hd, h2, rfl⟩
  | none =>
    rcases hp : Lib.parseUintB 8 w with u | _ | _
    · have hu : u < 256 := by
        unfold Lib.parseUintB at hp
        split at hp
        · cases hp
        · have : ∀ (l : List UInt8) (acc u : Nat), acc ≤ 255 → Lib.parseUintM 255 acc l = .ok u → u ≤ 255 := by
            intro l
            induction l with
            | nil => intro acc u ha h; simp only [Lib.parseUintM] at h; cases h; exact ha
            | cons c r ih =>
              intro acc u ha h
              simp only [Lib.parseUintM] at h
              split at h
              · split at h
                · cases h
                · split at h
                  · cases h
                  · exact ih _ u (by omega) h
              · cases h
          have := this w 0 u (by omega) hp
          omega
      refine .inr (.inl ⟨u, rfl, hu, fun e => ?_, rfl⟩)
      have := dec8_all u hu
      rw [e, hd] at this; cases this
    · exact .inr (.inr (.inl ⟨rfl, rfl⟩))
    · exact .inr (.inr (.inr ⟨rfl, rfl⟩))

def four (l : List (List UInt8)) : Option (List Nat) := if l.length = 4 then l.mapM dec8 else none
theorem mapM_cons8 (p : List UInt8) (q : List (List UInt8)) : (p :: q).mapM dec8 = match dec8 p with | none => none | some k => (q.mapM dec8).map (k :: ·) := by
  rw [List.mapM_cons]
  cases dec8 p with
  | none => rfl
  | some k => cases hq : q.mapM dec8 <;> simp [hq]
theorem mapM8_lt : ∀ {l : List (List UInt8)} {t : List Nat}, l.mapM dec8 = some t → t.length = l.length ∧ ∀ k ∈ t, k ≤ 255
  | [], t, h => by simp at h; subst h; simp
  | p :: q, t, h => by
    rw [mapM_cons8] at h
    cases hd : dec8 p with
    | none => simp [hd] at h
    | some k =>
      rw [hd] at h
      simp only [Option.map_eq_some_iff] at h
      obtain ⟨t', h', rfl⟩ := h
      obtain ⟨e1, e2⟩ := mapM8_lt h'
      refine ⟨by simp [e1], fun j hj => ?_⟩
      rcases List.mem_cons.1 hj with hj | hj
      · subst hj; exact (dec8_text hd).1
      · exact e2 j hj
theorem four_lt {l : List (List UInt8)} {t : List Nat} (h : four l = some t) : t.length = 4 ∧ ∀ k ∈ t, k ≤ 255 := by
  unfold four at h
  split at h
  · rename_i hl
    obtain ⟨e1, e2⟩ := mapM8_lt h
    exact ⟨by omega, e2⟩
  · cases h
end Go.Proofs.YtpfilldnfpcpkaaGreatDoor

namespace Go.Proofs.YtpfilldnfpcpkaaGreatDoor

def hexV (c : UInt8) : Option Nat := if 48 ≤ c.toNat ∧ c.toNat ≤ 57 then some (c.toNat - 48) else if 97 ≤ c.toNat ∧ c.toNat ≤ 102 then some (c.toNat - 87) else if 65 ≤ c.toNat ∧ c.toNat ≤ 70 then some (c.toNat - 55) else none
/-- the number of hexadecimal digits behind what stands ahead -/
def hexM : Nat → List UInt8 → Option Nat
  | n, [] => some n
  | n, c :: r => match hexV c with | none => none | some d => hexM (16 * n + d) r
def hex16 (w : List UInt8) : Option Nat := if w = [] ∨ 4 < w.length then none else hexM 0 w
theorem hexV_lt {c : UInt8} {d : Nat} (h : hexV c = some d) : d < 16 := by
  unfold hexV at h
  split at h
  · cases h; omega
  · split at h
    · cases h; omega
    · split at h
      · cases h; omega
      · cases h
theorem hexM_lt : ∀ {w : List UInt8} {n g : Nat}, hexM n w = some g → g < (n + 1) * 16 ^ w.length
  | [], n, g, h => by cases h; simp
  | c :: r, n, g, h => by
    rw [hexM] at h
    cases hd : hexV c with
    | none => rw [hd] at h; cases h
    | some d =>
      rw [hd] at h
      have h1 := hexM_lt h
      have h2 := hexV_lt hd
      rw [List.length_cons, Nat.pow_succ, Nat.mul_comm (16 ^ r.length) 16, ← Nat.mul_assoc]
      exact Nat.lt_of_lt_of_le h1 (Nat.mul_le_mul_right _ (by omega))
theorem hex16_lt {w : List UInt8} {g : Nat} (h : hex16 w = some g) : g < 65536 := by
  unfold hex16 at h
  split at h
  · cases h
  · have h1 := hexM_lt h
    have h2 : 16 ^ w.length ≤ 16 ^ 4 := Nat.pow_le_pow_right (by omega) (by simp at *; omega)
    omega
theorem hexM_bad {c : UInt8} (hc : hexV c = none) : ∀ {w : List UInt8} (n), c ∈ w → hexM n w = none
  | [], n, h => by simp at h
  | x :: r, n, h => by
    rw [hexM]
    rcases List.mem_cons.1 h with h | h
    · subst h; rw [hc]
    · cases hexV x with
      | none => rfl
      | some d => exact hexM_bad hc _ h
theorem hex16_dot {w : List UInt8} (h : (46 : UInt8) ∈ w) : hex16 w = none := by
  unfold hex16
  split
  · rfl
  · exact hexM_bad (by decide) 0 h

/-- two groups of four bytes -/
def grp : List Nat → List Nat
  | [a, b, c, d] => [256 * a + b, 256 * c + d]
  | _ => []
def sideP (last : Bool) : List (List UInt8) → Option (List Nat)
  | [] => some []
  | w :: q => if last = true ∧ q = [] ∧ (46 : UInt8) ∈ w then (four (pieces 46 w)).map grp else match hex16 w with | none => none | some g => (sideP last q).map (g :: ·)
def side (last : Bool) (s : List UInt8) : Option (List Nat) := if s = [] then some [] else sideP last (pieces 58 s)
/-- the number of groups, of bytes -/
def valG (l : List Nat) : Nat := l.foldl (fun a g => 65536 * a + g) 0
def valB (l : List Nat) : Nat := l.foldl (fun a b => 256 * a + b) 0
def nulls (n : Nat) : List Nat := List.replicate n 0

/-- cut at the first two colons -/
def cutL : List UInt8 → List UInt8 × List UInt8 × Bool
  | [] => ([], [], false)
  | x :: r => if [58, 58].isPrefixOf (x :: r) then ([], r.drop 1, true) else if (cutL r).2.2 then (x :: (cutL r).1, (cutL r).2.1, true) else (x :: r, [], false)
def parseA (s : List UInt8) : Option (Bool × Nat) :=
  if (58 : UInt8) ∈ s then
    match side (!(cutL s).2.2) (cutL s).1, side true (cutL s).2.1 with
    | some l, some r => if ((cutL s).2.2 = true ∧ l.length + r.length ≤ 7) ∨ ((cutL s).2.2 = false ∧ l.length + r.length = 8) then some (true, valG (l ++ nulls (8 - l.length - r.length) ++ r)) else none
    | _, _ => none
  else (four (pieces 46 s)).map fun t => (false, valB t)

theorem index_cut : ∀ s : List UInt8, ((cutL s).2.2 = false → Lib.index s [58, 58] = -1 ∧ (cutL s).1 = s ∧ (cutL s).2.1 = []) ∧
    ((cutL s).2.2 = true → Lib.index s [58, 58] = ((cutL s).1.length : Int) ∧ s = (cutL s).1 ++ 58 :: 58 :: (cutL s).2.1)
  | [] => ⟨fun _ => ⟨rfl, rfl, rfl⟩, fun h => by cases h⟩
  | x :: r => by
    rw [cutL, Lib.index]
    by_cases hp : [58, 58].isPrefixOf (x :: r) = true
    · simp only [hp, if_true]
      refine ⟨fun h => by simp at h, fun _ => ⟨by simp, ?_⟩⟩
      match r, hp with
      | [], hp => simp [List.isPrefixOf] at hp
      | y :: r, hp =>
        simp [List.isPrefixOf] at hp
        obtain ⟨rfl, rfl⟩ := hp
        simp
    · have hp' : [58, 58].isPrefixOf (x :: r) = false := Bool.eq_false_iff.2 hp
      obtain ⟨i1, i2⟩ := index_cut r
      simp only [hp', if_false, Bool.false_eq_true]
      cases hc : (cutL r).2.2 with
      | false =>
        obtain ⟨a1, a2, a3⟩ := i1 hc
        simp [a1]
      | true =>
        obtain ⟨a1, a2⟩ := i2 hc
        simp only [if_true]
        refine ⟨fun h => by simp at h, fun _ => ⟨?_, by rw [List.cons_append, ← a2]⟩⟩
        rw [a1]
        have : (((cutL r).1.length : Int) == -1) = false := beq_eq_false_iff_ne.2 (by omega)
        rw [this]; simp
theorem cut_eq (s : List UInt8) : Lib.cut s [58, 58] = cutL s := by
  obtain ⟨i1, i2⟩ := index_cut s
  unfold Lib.cut
  cases hc : (cutL s).2.2 with
  | false =>
    obtain ⟨a1, a2, a3⟩ := i1 hc
    rw [a1, if_neg (by omega)]
    exact Prod.ext a2.symm (Prod.ext a3.symm hc.symm)
  | true =>
    obtain ⟨a1, a2⟩ := i2 hc
    rw [a1, if_pos (by omega), Int.toNat_natCast]
    refine Prod.ext ?_ (Prod.ext ?_ hc.symm)
    · have : s.take (cutL s).1.length = ((cutL s).1 ++ 58 :: 58 :: (cutL s).2.1).take (cutL s).1.length := by rw [← a2]
      exact this.trans (by simp)
    · have : s.drop ((cutL s).1.length + 2) = ((cutL s).1 ++ 58 :: 58 :: (cutL s).2.1).drop ((cutL s).1.length + 2) := by rw [← a2]
      exact this.trans (by rw [List.drop_append]; simp)

end Go.Proofs.YtpfilldnfpcpkaaGreatDoor

namespace Go.Proofs.YtpfilldnfpcpkaaGreatDoor

def hexC (d : Nat) : UInt8 := if d ≤ 9 then UInt8.ofNat (48 + d) else UInt8.ofNat (87 + d)
def hexD (g : Nat) : List UInt8 := if g < 16 then [hexC g] else if g < 256 then [hexC (g / 16), hexC (g % 16)] else if g < 4096 then [hexC (g / 256), hexC (g / 16 % 16), hexC (g % 16)] else [hexC (g / 4096), hexC (g / 256 % 16), hexC (g / 16 % 16), hexC (g % 16)]
theorem hexC_ne : ∀ d, d < 16 → hexC d ≠ 58 ∧ hexC d ≠ 46 := by decide
theorem hexD_mem {g : Nat} (hg : g < 65536) {c : UInt8} (h : c ∈ hexD g) : ∃ d, d < 16 ∧ c = hexC d := by
  unfold hexD at h
  split at h
  · simp at h; exact ⟨g, by assumption, h⟩
  split at h
  · simp at h; rcases h with h | h
    · exact ⟨_, by omega, h⟩
    · exact ⟨_, by omega, h⟩
  split at h
  · simp at h; rcases h with h | h | h
    · exact ⟨_, by omega, h⟩
    · exact ⟨_, by omega, h⟩
    · exact ⟨_, by omega, h⟩
  · simp at h; rcases h with h | h | h | h
    · exact ⟨_, by omega, h⟩
    · exact ⟨_, by omega, h⟩
    · exact ⟨_, by omega, h⟩
    · exact ⟨_, by omega, h⟩
theorem hexD_ne (g : Nat) : hexD g ≠ [] := by
  unfold hexD
  split
  · simp
  split
  · simp
  split <;> simp
theorem hexD_58 {g : Nat} (hg : g < 65536) : (58 : UInt8) ∉ hexD g := fun h => by
  obtain ⟨d, h1, h2⟩ := hexD_mem hg h
  exact (hexC_ne d h1).1 h2.symm
theorem join_one (c : List UInt8) (p : List UInt8) : Lib.join [p] c = p := by simp [Lib.join, List.intercalate]
theorem join_cons (c : List UInt8) (p x : List UInt8) (q : List (List UInt8)) : Lib.join (p :: x :: q) c = p ++ c ++ Lib.join (x :: q) c := by simp [Lib.join, List.intercalate]
theorem join_snoc (c : List UInt8) : ∀ (l : List (List UInt8)) (p : List UInt8), Lib.join (l ++ [p]) c = Lib.join l c ++ (if l = [] then [] else c) ++ p
  | [], p => by simp [Lib.join, List.intercalate]
  | [a], p => by simp [Lib.join, List.intercalate]
  | a :: b :: l, p => by
    have := join_snoc c (b :: l) p
    rw [List.cons_append, List.cons_append, join_cons, join_cons]
    rw [List.cons_append] at this
    rw [this]
    simp
def bytesB (k n : Nat) : List Nat := (List.range k).map fun i => n / 256 ^ (k - 1 - i) % 256
def print4 (n : Nat) : List UInt8 := Lib.join ((bytesB 4 n).map Lib.decDigits) [46]
theorem bytesB_lt {k n b : Nat} (h : b ∈ bytesB k n) : b < 256 := by
  simp only [bytesB, List.mem_map] at h
  obtain ⟨i, _, rfl⟩ := h
  exact Nat.mod_lt _ (by omega)
def joinH (G : List Nat) : List UInt8 := Lib.join (G.map hexD) [58]
theorem joinH_snoc (l : List Nat) (g : Nat) : joinH (l ++ [g]) = joinH l ++ (if l = [] then [] else [58]) ++ hexD g := by
  unfold joinH
  rw [List.map_append, List.map_singleton, join_snoc]
  cases l <;> simp
theorem joinH_ne {g : Nat} {G : List Nat} : joinH (g :: G) ≠ [] := by
  match G with
  | [] => rw [show joinH [g] = hexD g from join_one _ _]; exact hexD_ne g
  | g' :: G =>
    show Lib.join (hexD g :: hexD g' :: G.map hexD) [58] ≠ []
    rw [join_cons]; simp
/-- with the noughts from f to t left out (none, where these are alike) -/
def print6 (G : List Nat) (f t : Nat) : List UInt8 := if f = t then joinH G else joinH (G.take f) ++ 58 :: 58 :: joinH (G.drop t)
def runAt : List Bool → Nat
  | true :: r => runAt r + 1
  | _ => 0
def progRow (z : List Bool) : Nat × Nat := (List.range 8).foldl (fun a i => if a.2 - a.1 < runAt (z.drop i) ∧ 1 < runAt (z.drop i) then (i, i + runAt (z.drop i)) else a) (0, 0)
def refRow (z : List Bool) : Nat × Nat := (List.range 8).foldl (fun a i => if a.2 < runAt (z.drop i) then (i, runAt (z.drop i)) else a) (0, 0)
theorem rows_alike : ∀ a b c d e f g h : Bool, let z := [a, b, c, d, e, f, g, h]; let r := refRow z; let p := progRow z
    p = (if 2 ≤ r.2 then (r.1, r.1 + r.2) else (0, 0)) ∧ p.1 ≤ p.2 ∧ p.2 ≤ 8 ∧ r.1 + r.2 ≤ 8 ∧ (∀ i : Fin 8, p.1 ≤ i.val → i.val < p.2 → z[i.val]? = some true) := by decide +kernel
def zeros (G : List Nat) : List Bool := G.map fun g => g == 0
theorem rows_of {G : List Nat} (hl : G.length = 8) :
    progRow (zeros G) = (if 2 ≤ (refRow (zeros G)).2 then ((refRow (zeros G)).1, (refRow (zeros G)).1 + (refRow (zeros G)).2) else (0, 0)) ∧ (progRow (zeros G)).1 ≤ (progRow (zeros G)).2 ∧ (progRow (zeros G)).2 ≤ 8 ∧ (refRow (zeros G)).1 + (refRow (zeros G)).2 ≤ 8 ∧
      G = G.take (progRow (zeros G)).1 ++ nulls ((progRow (zeros G)).2 - (progRow (zeros G)).1) ++ G.drop (progRow (zeros G)).2 := by
  match G, hl with
  | [a, b, c, d, e, f, g, h], _ =>
    obtain ⟨r1, r2, r3, r4, r5⟩ := rows_alike (a == 0) (b == 0) (c == 0) (d == 0) (e == 0) (f == 0) (g == 0) (h == 0)
    refine ⟨r1, r2, r3, r4, ?_⟩
    generalize hp : progRow (zeros [a, b, c, d, e, f, g, h]) = p at *
    have hp' : progRow [a == 0, b == 0, c == 0, d == 0, e == 0, f == 0, g == 0, h == 0] = p := hp
    rw [hp'] at r2 r3 r5
    obtain ⟨p1, p2⟩ := p
    simp only at r2 r3 r5 ⊢
    apply List.ext_getElem?
    intro i
    rw [List.append_assoc]
    rcases Nat.lt_or_ge i p1 with h1 | h1
    · rw [List.getElem?_append_left (by simp; omega), List.getElem?_take_of_lt h1]
    · rw [List.getElem?_append_right (by simp; omega)]
      have hl1 : ([a, b, c, d, e, f, g, h].take p1).length = p1 := by simp; omega
      rw [hl1]
      rcases Nat.lt_or_ge i p2 with h2 | h2
      · rw [List.getElem?_append_left (by simp [nulls]; omega)]
        have h3 := r5 ⟨i, by omega⟩ h1 h2
        have h4 : (zeros [a, b, c, d, e, f, g, h])[i]? = some true := h3
        simp only [zeros, List.getElem?_map, Option.map_eq_some_iff] at h4
        obtain ⟨x, h5, h6⟩ := h4
        rw [h5, nulls, List.getElem?_replicate, if_pos (by omega)]
        simp at h6; rw [h6]
      · rw [List.getElem?_append_right (by simp [nulls]; omega), List.getElem?_drop]
        congr 1
        simp [nulls]; omega
/-- what the reference has printed ahead of place i, where m noughts from f on are left out -/
def preT (G : List Nat) (f m i : Nat) : List UInt8 := if m < 2 ∨ i ≤ f then joinH (G.take i) else joinH (G.take f) ++ 58 :: 58 :: joinH ((G.take i).drop (f + m))
def sepT (s : List UInt8) : List UInt8 := if s ≠ [] ∧ s.getLast? ≠ some 58 then [58] else []
theorem joinH_last : ∀ {G : List Nat}, (∀ g ∈ G, g < 65536) → (joinH G).getLast? ≠ some 58 := by
  intro G h
  match hG : G.reverse with
  | [] => have : G = [] := by simpa using hG
          subst this; simp [joinH, Lib.join, List.intercalate]
  | g :: l =>
    have e : G = l.reverse ++ [g] := by rw [← List.reverse_reverse G, hG]; simp
    subst e
    rw [joinH_snoc, List.getLast?_append]
    have h1 := hexD_58 (h g (by simp))
    cases hd : (hexD g).getLast? with
    | none => exact absurd (List.getLast?_eq_none_iff.1 hd) (hexD_ne g)
    | some c =>
      simp only [Option.some_or]
      intro hc
      injection hc with hc
      subst hc
      exact h1 (List.mem_of_getLast? hd)
theorem take_next {G : List Nat} {i g : Nat} (hg : G[i]? = some g) : G.take (i + 1) = G.take i ++ [g] := by
  obtain ⟨hi, rfl⟩ := List.getElem?_eq_some_iff.1 hg
  rw [List.take_succ_eq_append_getElem hi]
theorem preT_step {G : List Nat} (h : ∀ g ∈ G, g < 65536) {f m i g : Nat} (hg : G[i]? = some g) (hi : m < 2 ∨ i < f ∨ f + m ≤ i) : preT G f m (i + 1) = preT G f m i ++ sepT (preT G f m i) ++ hexD g := by
  have hA : ∀ g ∈ G.take i, g < 65536 := fun g hg => h g (List.mem_of_mem_take hg)
  have hil : i < G.length := (List.getElem?_eq_some_iff.1 hg).1
  have sj : ∀ A : List Nat, (∀ g ∈ A, g < 65536) → sepT (joinH A) = if A = [] then [] else [58] := by
    intro A hA
    unfold sepT
    match A, hA with
    | [], _ => rfl
    | a :: A, hA => rw [if_pos ⟨joinH_ne, joinH_last hA⟩, if_neg (by simp)]
  unfold preT
  by_cases c : m < 2 ∨ i + 1 ≤ f
  · rw [if_pos c, if_pos (c.imp id fun k => by omega), take_next hg, joinH_snoc, sj _ hA]
  · rw [if_neg c, if_neg (fun k => c (k.imp id fun k => by rcases hi with hi | hi | hi <;> omega)), take_next hg]
    rw [List.drop_append_of_le_length (by simp; omega), joinH_snoc]
    have hB : ∀ g ∈ (G.take i).drop (f + m), g < 65536 := fun g hg => hA g (List.mem_of_mem_drop hg)
    generalize (G.take i).drop (f + m) = B at *
    have e : sepT (joinH (G.take f) ++ 58 :: 58 :: joinH B) = if B = [] then [] else [58] := by
      match B, hB with
      | [], _ =>
        unfold sepT
        rw [if_neg, if_pos rfl]
        rintro ⟨_, k⟩
        apply k
        simp [joinH, Lib.join, List.intercalate]
      | b :: B, hB =>
        unfold sepT
        rw [if_pos, if_neg (by simp)]
        refine ⟨by simp, ?_⟩
        have h1 := joinH_last hB
        have h2 : joinH (b :: B) ≠ [] := joinH_ne
        have h3 : (joinH (G.take f) ++ 58 :: 58 :: joinH (b :: B)).getLast? = (joinH (b :: B)).getLast? := by
          rw [List.getLast?_append]
          cases hj : joinH (b :: B) with
          | nil => exact absurd hj h2
          | cons y r => simp [List.getLast?_cons]
        rw [h3]; exact h1
    rw [e]
    simp
theorem preT_skip {G : List Nat} {f m : Nat} (h2 : 2 ≤ m) (hl : f + m ≤ G.length) : preT G f m (f + m) = preT G f m f ++ [58, 58] := by
  unfold preT
  rw [if_neg (by omega), if_pos (.inr (Nat.le_refl _))]
  rw [List.drop_of_length_le (by simp; omega)]
  simp [joinH, Lib.join, List.intercalate]
theorem preT_end {G : List Nat} (hl : G.length = 8) {f m : Nat} (hf : f + m ≤ 8) : preT G f m 8 = if 2 ≤ m then print6 G f (f + m) else print6 G 0 0 := by
  unfold preT print6
  by_cases h2 : 2 ≤ m
  · rw [if_neg (by omega), if_pos h2, if_neg (by omega), ← hl, List.take_length]
  · rw [if_pos (.inl (by omega)), if_neg h2, if_pos rfl, ← hl, List.take_length]
/-- the program's text is the reference's -/
theorem print_alike {G : List Nat} (hl : G.length = 8) : preT G (refRow (zeros G)).1 (refRow (zeros G)).2 8 = print6 G (progRow (zeros G)).1 (progRow (zeros G)).2 := by
  obtain ⟨r1, _, _, r4, _⟩ := rows_of hl
  rw [preT_end hl r4, r1]
  by_cases h2 : 2 ≤ (refRow (zeros G)).2
  · rw [if_pos h2, if_pos h2]
  · rw [if_neg h2, if_neg h2]
end Go.Proofs.YtpfilldnfpcpkaaGreatDoor

namespace Go.Proofs.YtpfilldnfpcpkaaGreatDoor
open Go.RowKit

/-- the variables that the walks read -/
structure Glob (w : World) : Prop where
  max : ∃ m : Int, w.cell? ⟨1, 0, none⟩ = some (.int .i64 m)
  syn : ∃ tp p, w.var? Tryz.prog "strconv.ErrSyntax" = some #[.iface tp p]
  rng : ∃ tp p, w.var? Tryz.prog "strconv.ErrRange" = some #[.iface tp p]
  tab : Lib.TabIs Tryz.prog w "internal/strconv.uint64pow10" .u64 Lib.pow10Tab
  bru : ∀ j, j < 64 → w.cell? ⟨0, j, none⟩ = some (.int .u8 (Lib.deBruijn64tab.getD j 0 : Nat))
theorem cell_blt {w : World} {p : Addr} {v : Value} (h : w.cell? p = some v) : p.block < w.heap.size := World.block_lt_of_cell? w p h
theorem var_lt {P : Program} {w : World} {n : String} {g : Nat} {cs : Array Value} (hg : P.globalNamed n = some g) (h : w.var? P n = some cs) : g < w.heap.size := by
  unfold World.var? at h
  simp only [hg, Option.bind_some] at h
  rcases Nat.lt_or_ge g w.heap.size with k | k
  · exact k
  · rw [Array.getElem?_eq_none k] at h; simp at h
theorem var_after {P : Program} {w w' : World} {n : String} {g : Nat} {cs : Array Value} (hg : P.globalNamed n = some g) (h : w.var? P n = some cs) (hb : Below w.heap.size w w') : w'.var? P n = some cs :=
  var?_below hb hg (var_lt hg h) h
theorem Glob.after {w w' : World} (h : Glob w) (hb : Below w.heap.size w w') : Glob w' := by
  obtain ⟨⟨m, h1⟩, ⟨t2, p2, h2⟩, ⟨t3, p3, h3⟩, h4, h5⟩ := h
  exact ⟨⟨m, (hb.cell (p := ⟨_, 0, none⟩) (cell_blt h1)).trans h1⟩, ⟨t2, p2, var_after (g := 2) (by kernel_rfl) h2 hb⟩, ⟨t3, p3, var_after (g := 3) (by kernel_rfl) h3 hb⟩, var_after (g := 4) (by kernel_rfl) h4 hb,
    fun j hj => (hb.cell (p := ⟨_, j, none⟩) (cell_blt (h5 j hj))).trans (h5 j hj)⟩
theorem or_u32 (a b : Nat) (ha : a < 4294967296) (hb : b < 4294967296) : bits .or .u32 (a : Int) (b : Int) = ((a ||| b : Nat) : Int) := by
  have hx : a ||| b < 2 ^ 32 := Nat.or_lt_two_pow (by omega) (by omega)
  have h1 : (BitVec.ofInt 32 (a : Int)).toNat = a := by
    rw [BitVec.ofInt_natCast, BitVec.toNat_ofNat]; exact Nat.mod_eq_of_lt (by omega)
  have h2 : (BitVec.ofInt 32 (b : Int)).toNat = b := by
    rw [BitVec.ofInt_natCast, BitVec.toNat_ofNat]; exact Nat.mod_eq_of_lt (by omega)
  show IntKind.u32.wrap ((BitVec.ofInt 32 (a : Int) ||| BitVec.ofInt 32 (b : Int)).toNat : Int) = _
  rw [BitVec.toNat_or, h1, h2]
  show ((a ||| b : Nat) : Int) % 4294967296 = _
  omega
/-- the bytes of a text -/
def bts (s : ByteArray) : List UInt8 := s.data.toList
/-- the pieces of a text as the library hands them back -/
def piecesB (c : UInt8) (s : ByteArray) : List ByteArray := Lib.splitB ⟨#[c]⟩ 0 (Lib.countB s ⟨#[c]⟩) s
theorem piecesB_eq (c : UInt8) (s : ByteArray) : (piecesB c s).map bts = pieces c (bts s) := by
  unfold piecesB bts
  rw [← split_one]
  exact Lib.splitB_data ⟨#[c]⟩ 0 _ s
theorem piecesB_len (c : UInt8) (s : ByteArray) : Lib.countB s ⟨#[c]⟩ + 1 = (piecesB c s).length := (Lib.splitB_all ⟨#[c]⟩ (by show 1 ≤ 1; omega) 0 _ s rfl).symm
/-- strings.Split at one sign -/
theorem split_c (c : UInt8) (s : ByteArray) (w : World) (hs : s.size ≤ 1000000) (hG : Glob w) :
    Calls Tryz.prog 173 #[.string s, .string ⟨#[c]⟩] w fun e w' => e = .returned (.slice (some ⟨w.heap.size, 0, none⟩) (piecesB c s).length (piecesB c s).length) ∧ w' = w.alloc (.cells ((piecesB c s).map Value.string).toArray 9) := by
  obtain ⟨m, hm⟩ := hG.max
  have := Tryz.strings_Split s ⟨#[c]⟩ m w (by omega) hm (by show 1 ≤ 1; omega)
  rw [piecesB_len] at this
  exact this
theorem pieces_size (c : UInt8) (s : ByteArray) : ∀ p ∈ pieces c (bts s), p.length ≤ s.size := by
  have : ∀ l : List UInt8, ∀ p ∈ pieces c l, p.length ≤ l.length := by
    intro l
    induction l with
    | nil => intro p hp; simp [pieces] at hp; subst hp; simp
    | cons x r ih =>
      intro p hp
      by_cases e : x = c
      · subst e
        rw [pieces_sep] at hp
        rcases List.mem_cons.1 hp with h | h
        · subst h; simp
        · have := ih p h; simp; omega
      · obtain ⟨a, q, e1, e2⟩ := pieces_cons (r := r) e
        rw [e2] at hp
        rcases List.mem_cons.1 hp with h | h
        · subst h
          have := ih a (by rw [e1]; simp)
          simp; omega
        · have := ih p (by rw [e1]; simp [h]); simp; omega
  intro p hp
  have h := this _ p hp
  simpa [bts] using h
def itoaT (n : Nat) : ByteArray := ⟨(Lib.decDigits n).toArray⟩
theorem itoa_c (n : Nat) (w : World) (hn : n < 1000000) (hG : Glob w) :
    Calls Tryz.prog 114 #[.int .i64 n] w fun e w' => e = .returned (.string (itoaT n)) ∧ Below w.heap.size w w' := by
  refine (Tryz.strconv_Itoa n (by omega) (by omega) w hG.tab).mono ?_
  rintro e w' ⟨rfl, k, os, rfl⟩
  refine ⟨?_, Lib.below_grow _ w (Nat.le_refl _) k os⟩
  have : Lib.itoa (n : Int) = Lib.decDigits n := by unfold Lib.itoa; rw [if_neg (by omega)]; simp
  rw [this]; rfl
/-- ParseUint at base 10, 8 bits -/
theorem puint_ok (s : ByteArray) (w : World) (hs : s.size ≤ 1000000) (u : Nat) (h : Lib.parseUintB 8 (bts s) = .ok u) :
    Calls Tryz.prog 174 #[.string s, .int .i64 10, .int .i64 8] w fun e w' => e = .returned (.tuple #[.int .u64 u, .nilIface]) ∧ Below w.heap.size w w' := by
  refine (Tryz.strconv_ParseUint_10_at8_ok s (by omega) u h w).mono ?_
  rintro e w' ⟨rfl, rfl | rfl⟩
  · exact ⟨rfl, Below.refl _ _⟩
  · exact ⟨rfl, Lib.bytesWorld_below _ _ _⟩
theorem puint_bad (s : ByteArray) (w : World) (hs : s.size ≤ 1000000) (hG : Glob w) (h : Lib.parseUintB 8 (bts s) = Lib.parseUintB 8 [] ∨ Lib.parseUintB 8 (bts s) = .range) :
    Calls Tryz.prog 174 #[.string s, .int .i64 10, .int .i64 8] w fun e w' => (∃ (n : Int) (N : Nat), e = .returned (.tuple #[.int .u64 n, .iface 208 (.pointer (some ⟨N, 0, none⟩))])) ∧ Below w.heap.size w w' := by
  rcases h with h | h
  · obtain ⟨tp, p, hv⟩ := hG.syn
    refine (Tryz.strconv_ParseUint_10_at8_syntax_var s (by omega) h tp p w hv).mono ?_
    rintro e w' ⟨N, rfl, _, _, hb⟩
    exact ⟨⟨_, N, rfl⟩, hb⟩
  · obtain ⟨tp, p, hv⟩ := hG.rng
    refine (Tryz.strconv_ParseUint_10_at8_range_var s (by omega) h tp p w hv).mono ?_
    rintro e w' ⟨N, rfl, _, _, hb⟩
    exact ⟨⟨_, N, rfl⟩, hb⟩
theorem valB_snoc (t : List Nat) (k : Nat) : valB (t ++ [k]) = 256 * valB t + k := by unfold valB; rw [List.foldl_append]; rfl
theorem foldB_lt : ∀ (l : List Nat) (a : Nat), (∀ k ∈ l, k < 256) → l.foldl (fun a b => 256 * a + b) a < (a + 1) * 256 ^ l.length
  | [], a, _ => by simp
  | x :: l, a, h => by
    have h1 := h x (by simp)
    have h2 := foldB_lt l (256 * a + x) (fun k hk => h k (by simp [hk]))
    rw [List.foldl_cons, List.length_cons, Nat.pow_succ, Nat.mul_comm (256 ^ l.length) 256, ← Nat.mul_assoc]
    exact Nat.lt_of_lt_of_le h2 (Nat.mul_le_mul_right _ (by omega))
theorem valB_lt (t : List Nat) (h : ∀ k ∈ t, k < 256) : valB t < 256 ^ t.length := by
  have := foldB_lt t 0 h
  simpa [valB] using this
theorem mapM8_take {l : List (List UInt8)} {k : Nat} {p : List UInt8} {t : List Nat} (hp : l[k]? = some p) (h : (l.take k).mapM dec8 = some t) : (l.take (k + 1)).mapM dec8 = (dec8 p).map (t ++ [·]) := by
  have : l.take (k + 1) = l.take k ++ [p] := by
    obtain ⟨hi, rfl⟩ := List.getElem?_eq_some_iff.1 hp
    rw [List.take_succ_eq_append_getElem hi]
  rw [this, List.mapM_append, h]
  cases hd : dec8 p <;> simp [hd]
theorem mapM8_bad {l : List (List UInt8)} {k : Nat} {p : List UInt8} (hp : l[k]? = some p) (h : dec8 p = none) : l.mapM dec8 = none := by
  have : ∀ (l : List (List UInt8)), p ∈ l → l.mapM dec8 = none := by
    intro l
    induction l with
    | nil => intro h; simp at h
    | cons a r ih =>
      intro hm
      rw [mapM_cons8]
      rcases List.mem_cons.1 hm with e | e
      · subst e; rw [h]
      · cases dec8 a with
        | none => rfl
        | some _ => simp [ih e]
  exact this l (List.mem_of_getElem? hp)
/-- what the reading of four numbers answers -/
def fourV (l : List (List UInt8)) : Value := match four l with
  | none => .tuple #[.int .u32 0, .bool false]
  | some t => .tuple #[.int .u32 (valB t : Nat), .bool true]
set_option maxRecDepth 100000 in
theorem parse4_c (s : ByteArray) (w : World) (hs : s.size ≤ 1000000) (hG : Glob w) :
    Calls Tryz.prog 150 #[.string s] w fun e w' => e = .returned (fourV (pieces 46 (bts s))) ∧ Below w.heap.size w w' := by
  have HS := Lib.hid (split_c 46 s w hs hG)
  go_enter Tryz.func150, Tryz.ntmps150
  go_wp2_with fail
  refine HS.out.mono ?_
  rintro e w1 ⟨rfl, rfl⟩
  have hbl : (piecesB 46 s).map bts = pieces 46 (bts s) := piecesB_eq 46 s
  have hps : ∀ p ∈ piecesB 46 s, p.size ≤ s.size := fun p hp => by
    have := pieces_size 46 s (bts p) (by rw [← hbl]; exact List.mem_map_of_mem hp)
    simpa [bts] using this
  by_cases h4 : (piecesB 46 s).length = 4
  · have hcell : ∀ (w0 : World) (j : Nat) (x : ByteArray), (piecesB 46 s)[j]? = some x → (w0.alloc (.cells ((piecesB 46 s).map Value.string).toArray 9)).cell? ⟨w0.heap.size, j, none⟩ = some (.string x) := fun w0 j x hx => by
      rw [World.cell?_alloc_new]; simp [hx]
    have hc := fun j x hx => hcell w j x hx
    clear hcell HS
    have hG1 : Glob (w.alloc (.cells ((piecesB 46 s).map Value.string).toArray 9)) := hG.after bl_
    have hbel1 : Below w.heap.size w (w.alloc (.cells ((piecesB 46 s).map Value.string).toArray 9)) := bl_
    have hz1 : w.heap.size < (w.alloc (.cells ((piecesB 46 s).map Value.string).toArray 9)).heap.size := by simp
    generalize hL : piecesB 46 s = L at *
    have hL4 : (L.length : Int) = 4 := by omega
    generalize w.alloc (.cells (L.map Value.string).toArray 9) = w1 at *
    have HBL := Lib.hid hbl
    have HC := Lib.hid hc
    have HPS := Lib.hid hps
    have H4 := Lib.hid h4
    rw [h4]
    clear hbl hc hps hL h4 hL4 hG
    go_wp2_with fail
    go_loopw [5, 17] (fun sn i wr => ∃ (k : Nat) (t : List Nat), k ≤ 4 ∧ i = .int .i64 k ∧ ((L.map bts).take k).mapM dec8 = some t ∧ sn = .int .u32 (valB t : Nat) ∧ Below w1.heap.size w1 wr) (fun _ i _ => 4 - (intOf i).toNat)
    case atStart => exact ⟨0, [], by omega, rfl, rfl, rfl, Below.refl _ _⟩
    case round =>
      obtain ⟨k, t, hk, rfl, hm, rfl, hbel⟩ := hrel
      have HM := Lib.hid hm
      have hGr := hG1.after hbel
      obtain ⟨ht1, ht2⟩ := mapM8_lt hm
      rw [List.length_take, List.length_map, H4.out] at ht1
      have ht3 : ∀ x ∈ t, x < 256 := fun x hx => by have := ht2 x hx; omega
      have hvt := valB_lt t ht3
      rw [ht1] at hvt
      clear hm ht1 ht2 ht3
      by_cases hlt : k < 4
      · have d1 : (k : Int) < 4 := by omega
        obtain ⟨p, hp⟩ : ∃ p, L[k]? = some p := ⟨_, List.getElem?_eq_getElem (by rw [H4.out]; exact hlt)⟩
        have hcell := (hbel.cell (p := ⟨w.heap.size, k, none⟩) hz1).trans (HC.out k p hp)
        have hpsz := HPS.out p (List.mem_of_getElem? hp)
        have hpm : (L.map bts)[k]? = some (bts p) := by simp [hp]
        have HPM := Lib.hid hpm
        have hv8 : valB t < 16777216 := by
          have : 256 ^ (min k 4) ≤ 256 ^ 3 := Nat.pow_le_pow_right (by omega) (by omega)
          omega
        clear hp hpm hvt
        rcases dec8_read (bts p) with ⟨u, hu, h1, h2, h3⟩ | ⟨u, h1, hu, h2, h3⟩ | ⟨h1, h3⟩ | ⟨h1, h3⟩
        · have HU := Lib.hid (fun w => puint_ok p w (by omega) u h1)
          have hit : itoaT u = p := by
            apply ByteArray.ext
            show (Lib.decDigits u).toArray = p.data
            rw [h2]; simp [bts]
          have HI := Lib.hid (fun w hG => itoa_c u w (by omega) hG)
          rw [hit] at HI
          have H3 := Lib.hid h3
          clear h1 h2 h3 hit
          go_wp2_with fail
          refine (HU.out _).mono ?_
          rintro e w2 ⟨rfl, hb2⟩
          have hbel2 := bl_trans hbel hb2
          have hG2 := hGr.after hb2
          have hc2 : IntKind.u32.wrap (u : Int) = u := by show (u : Int) % 4294967296 = u; omega
          have hc3 : IntKind.u32.wrap ((valB t : Int) * 256) = ((valB t * 256 : Nat) : Int) := by show ((valB t : Int) * 256) % 4294967296 = _; omega
          have hor := or_u32 (valB t * 256) u (by omega) (by omega)
          rw [show valB t * 256 ||| u = valB t * 256 + u from by rw [Nat.mul_comm, show (256 : Nat) = 2 ^ 8 by decide, ← Nat.two_pow_add_eq_or_of_lt (by omega)]] at hor
          clear hbel hGr hb2
          go_wp2_with fail
          refine (HI.out _ hG2).mono ?_
          rintro e w3 ⟨rfl, hb3⟩
          have hbel3 := bl_trans hbel2 hb3
          go_wp2_with fail
          go_roundw
          case rel =>
            refine ⟨k + 1, t ++ [u], by omega, by go_num, ?_, ?_, bl_trans hbel2 hb3⟩
            · rw [mapM8_take HPM.out HM.out, H3.out]; rfl
            · have e : (valB t : Int) * 256 = ((valB t * 256 : Nat) : Int) := by omega
              rw [e, hor, valB_snoc, Nat.mul_comm]
          case measure => simp [intOf]; omega
        · have HU := Lib.hid (fun w => puint_ok p w (by omega) u h1)
          have hit : ((itoaT u).toList == p.toList) = false := by
            rw [beq_eq_false_iff_ne, Lib.toList_data, Lib.toList_data]
            exact h2
          have HI := Lib.hid (fun w hG => itoa_c u w (by omega) hG)
          have hV : fourV (pieces 46 (bts s)) = .tuple #[.int .u32 0, .bool false] := by
            rw [← HBL.out]; unfold fourV four
            rw [mapM8_bad HPM.out h3]; simp
          have HV := Lib.hid hV
          generalize itoaT u = q at *
          clear h1 h2 h3 hV
          go_wp2_with fail
          refine (HU.out _).mono ?_
          rintro e w2 ⟨rfl, hb2⟩
          have hbel2 := bl_trans hbel hb2
          have hG2 := hGr.after hb2
          clear hbel hGr hb2
          go_wp2_with fail
          refine (HI.out _ hG2).mono ?_
          rintro e w3 ⟨rfl, hb3⟩
          have hbel3 := bl_trans hbel2 hb3
          go_wp2_with fail
          go_ret2
          exact ⟨by rw [HV.out]; rfl, bl_trans hbel1 hbel3⟩
        · have HU := Lib.hid (fun w hG => puint_bad p w (by omega) hG (.inl h1))
          have hV : fourV (pieces 46 (bts s)) = .tuple #[.int .u32 0, .bool false] := by
            rw [← HBL.out]; unfold fourV four
            rw [mapM8_bad HPM.out h3]; simp
          have HV := Lib.hid hV
          clear h1 h3 hV
          go_wp2_with fail
          refine (HU.out _ hGr).mono ?_
          rintro e w2 ⟨⟨n, N, rfl⟩, hb2⟩
          have hbel2 := bl_trans hbel hb2
          clear hbel hGr hb2
          go_wp2_with fail
          go_ret2
          exact ⟨by rw [HV.out]; rfl, bl_trans hbel1 hbel2⟩
        · have HU := Lib.hid (fun w hG => puint_bad p w (by omega) hG (.inr h1))
          have hV : fourV (pieces 46 (bts s)) = .tuple #[.int .u32 0, .bool false] := by
            rw [← HBL.out]; unfold fourV four
            rw [mapM8_bad HPM.out h3]; simp
          have HV := Lib.hid hV
          clear h1 h3 hV
          go_wp2_with fail
          refine (HU.out _ hGr).mono ?_
          rintro e w2 ⟨⟨n, N, rfl⟩, hb2⟩
          have hbel2 := bl_trans hbel hb2
          clear hbel hGr hb2
          go_wp2_with fail
          go_ret2
          exact ⟨by rw [HV.out]; rfl, bl_trans hbel1 hbel2⟩
      · obtain rfl : k = 4 := by omega
        have d1 : ¬ (4 : Int) < 4 := by omega
        have hV : fourV (pieces 46 (bts s)) = .tuple #[.int .u32 (valB t : Nat), .bool true] := by
          have h1 := HM.out
          rw [← HBL.out]; unfold fourV four
          have h2 : (L.map bts).length = 4 := by rw [List.length_map]; exact H4.out
          rw [if_pos h2]
          rw [show (L.map bts).take 4 = L.map bts by rw [← h2, List.take_length]] at h1
          rw [h1]
        have HV := Lib.hid hV
        clear hV hvt
        generalize valB t = V at *
        go_wp2_with fail
        go_ret2
        exact ⟨by rw [HV.out]; rfl, bl_trans hbel1 hbel⟩
  · have d4 : (((piecesB 46 s).length : Int) != 4) = true := by simp; omega
    have hf : four (pieces 46 (bts s)) = none := by unfold four; rw [if_neg (by rw [← piecesB_eq, List.length_map]; exact h4)]
    have hV : fourV (pieces 46 (bts s)) = .tuple #[.int .u32 0, .bool false] := by unfold fourV; rw [hf]
    have HV := Lib.hid hV
    clear hf hV h4
    go_wp2_with fail
    go_ret2
    exact ⟨by rw [HV.out]; rfl, bl_⟩
end Go.Proofs.YtpfilldnfpcpkaaGreatDoor

namespace Go.Proofs.YtpfilldnfpcpkaaGreatDoor
open Go.RowKit

theorem digit_c (c : UInt8) (w : World) :
    Calls Tryz.prog 175 #[.int .u8 (c.toNat : Int)] w fun e w' => e = .returned (.bool (hexV c).isSome) ∧ Below w.heap.size w w' := by
  have hc := c.toNat_lt
  unfold hexV
  generalize c.toNat = n at *
  by_cases a1 : 48 ≤ n
  · have d1 : decide ((48 : Int) ≤ n) = true := decide_eq_true (by omega)
    by_cases a2 : n ≤ 57
    · have d2 : decide ((n : Int) ≤ 57) = true := decide_eq_true (by omega)
      rw [if_pos ⟨a1, a2⟩]
      go_enter Tryz.func175, Tryz.ntmps175
      go_wp2_with fail
      go_ret
      exact ⟨rfl, bl_⟩
    · have d2 : decide ((n : Int) ≤ 57) = false := decide_eq_false (by omega)
      rw [if_neg (by omega)]
      by_cases b1 : 97 ≤ n
      · have e1 : decide ((97 : Int) ≤ n) = true := decide_eq_true (by omega)
        by_cases b2 : n ≤ 102
        · have e2 : decide ((n : Int) ≤ 102) = true := decide_eq_true (by omega)
          rw [if_pos ⟨b1, b2⟩]
          go_enter Tryz.func175, Tryz.ntmps175
          go_wp2_with fail
          go_ret
          exact ⟨rfl, bl_⟩
        · have e2 : decide ((n : Int) ≤ 102) = false := decide_eq_false (by omega)
          have f1 : decide ((65 : Int) ≤ n) = true := decide_eq_true (by omega)
          have f2 : decide ((n : Int) ≤ 70) = false := decide_eq_false (by omega)
          rw [if_neg (by omega), if_neg (by omega)]
          go_enter Tryz.func175, Tryz.ntmps175
          go_wp2_with fail
          go_ret
          exact ⟨rfl, bl_⟩
      · have e1 : decide ((97 : Int) ≤ n) = false := decide_eq_false (by omega)
        rw [if_neg (by omega)]
        by_cases f : 65 ≤ n
        · have f1 : decide ((65 : Int) ≤ n) = true := decide_eq_true (by omega)
          by_cases f' : n ≤ 70
          · have f2 : decide ((n : Int) ≤ 70) = true := decide_eq_true (by omega)
            rw [if_pos ⟨f, f'⟩]
            go_enter Tryz.func175, Tryz.ntmps175
            go_wp2_with fail
            go_ret
            exact ⟨rfl, bl_⟩
          · have f2 : decide ((n : Int) ≤ 70) = false := decide_eq_false (by omega)
            rw [if_neg (by omega)]
            go_enter Tryz.func175, Tryz.ntmps175
            go_wp2_with fail
            go_ret
            exact ⟨rfl, bl_⟩
        · have f1 : decide ((65 : Int) ≤ n) = false := decide_eq_false (by omega)
          rw [if_neg (by omega)]
          go_enter Tryz.func175, Tryz.ntmps175
          go_wp2_with fail
          go_ret
          exact ⟨rfl, bl_⟩
  · have d1 : decide ((48 : Int) ≤ n) = false := decide_eq_false (by omega)
    have e1 : decide ((97 : Int) ≤ n) = false := decide_eq_false (by omega)
    have f1 : decide ((65 : Int) ≤ n) = false := decide_eq_false (by omega)
    rw [if_neg (by omega), if_neg (by omega), if_neg (by omega)]
    go_enter Tryz.func175, Tryz.ntmps175
    go_wp2_with fail
    go_ret
    exact ⟨rfl, bl_⟩
theorem hexM_step {l : List UInt8} {k n m d : Nat} {c : UInt8} (hc : l[k]? = some c) (hd : hexV c = some d) (h : hexM n (l.take k) = some m) : hexM n (l.take (k + 1)) = some (16 * m + d) := by
  have e : l.take (k + 1) = l.take k ++ [c] := by
    obtain ⟨hi, rfl⟩ := List.getElem?_eq_some_iff.1 hc
    rw [List.take_succ_eq_append_getElem hi]
  rw [e]
  clear e hc
  generalize l.take k = a at *
  induction a generalizing n with
  | nil => rw [List.nil_append]; simp only [hexM] at h ⊢; cases h; rw [hd]
  | cons x r ih =>
    rw [List.cons_append]
    rw [hexM] at h ⊢
    cases hx : hexV x with
    | none => rw [hx] at h; cases h
    | some y => rw [hx] at h; exact ih h
theorem hexM_each {l : List UInt8} {n g : Nat} (h : hexM n l = some g) {k : Nat} {c : UInt8} (hc : l[k]? = some c) : ∃ d, hexV c = some d := by
  cases hv : hexV c with
  | some d => exact ⟨d, rfl⟩
  | none => rw [hexM_bad hv n (List.mem_of_getElem? hc)] at h; cases h
theorem lower_c (c d : Int) (w : World) (h : bits .or .u8 c 32 = d) : Calls Tryz.prog 205 #[.int .u8 c] w fun e w' => e = .returned (.int .u8 d) ∧ w' = w := by
  rw [← h]; exact Tryz.internal_strconv_lower c w
def hexTab : List (UInt8 × Nat) := [(48, 0), (49, 1), (50, 2), (51, 3), (52, 4), (53, 5), (54, 6), (55, 7), (56, 8), (57, 9), (97, 10), (98, 11), (99, 12), (100, 13), (101, 14), (102, 15), (65, 10), (66, 11), (67, 12), (68, 13), (69, 14), (70, 15)]
theorem hex_all : ∀ n, n < 256 → (match hexV (UInt8.ofNat n) with | none => true | some d => hexTab.contains (UInt8.ofNat n, d)) = true := by decide +kernel
theorem hex_in {c : UInt8} {d : Nat} (h : hexV c = some d) : (c, d) ∈ hexTab := by
  have := hex_all c.toNat c.toNat_lt
  rw [UInt8.ofNat_toNat, h] at this
  simpa using this
set_option maxRecDepth 100000 in
set_option maxHeartbeats 3200000 in
theorem ipu_c (s : ByteArray) (g : Nat) (h : hex16 (bts s) = some g) (w : World) :
    Calls Tryz.prog 192 #[.string s, .int .i64 16, .int .i64 16] w fun e w' => e = .returned (.tuple #[.int .u64 g, .nilIface]) ∧ Below w.heap.size w w' := by
  have hne : s.toList.isEmpty = false := by
    rw [Lib.toList_data]
    cases hb : s.data.toList with
    | nil => unfold hex16 bts at h; rw [hb, if_pos (.inl rfl)] at h; cases h
    | cons a l => rfl
  have hcv := Lib.run_convert_string_bytes (P := Tryz.prog) w 9 166 5 s Tryz.underlying9 Tryz.underlying166 Tryz.underlying5
  have hbw := Lib.bytesWorld_below w 5 s
  have hcell := Lib.bytesWorld_cell w 5 s
  have hsz := Lib.bytesWorld_size w 5 s
  have hl4 : s.size ≤ 4 ∧ hexM 0 (bts s) = some g := by
    unfold hex16 at h
    split at h
    · cases h
    · rename_i hq
      exact ⟨by simp [bts] at hq; omega, h⟩
  obtain ⟨h4, hM⟩ := hl4
  generalize Lib.bytesWorld w 5 s = wb at *
  generalize grownCap w s.size 0 5 = cap at *
  have HC := Lib.hid hcell
  have HM := Lib.hid hM
  clear hcell hM h
  go_enter Tryz.func192, Tryz.ntmps192
  go_wp2_with fail
  go_loopw [12, 13, 101] (fun su sn i wr => ∃ k m : Nat, k ≤ s.size ∧ su = .bool false ∧ i = .int .i64 k ∧ hexM 0 ((bts s).take k) = some m ∧ sn = .int .u64 m ∧ Below wb.heap.size wb wr) (fun _ _ i _ => s.size - (intOf i).toNat)
  case atStart => exact ⟨0, 0, by omega, rfl, rfl, rfl, rfl, Below.refl _ _⟩
  case round =>
    obtain ⟨k, m, hk, rfl, rfl, hm, rfl, hbel⟩ := hrel
    by_cases hlt : k < s.size
    · have d1 : (k : Int) < s.size := by omega
      obtain ⟨c, hc⟩ : ∃ c, (bts s)[k]? = some c := ⟨_, List.getElem?_eq_getElem (by simpa [bts] using hlt)⟩
      obtain ⟨d, hd⟩ := hexM_each HM.out hc
      have hstep := hexM_step hc hd hm
      have hml := hexM_lt hm
      have hdl := hexV_lt hd
      rw [List.length_take] at hml
      have hm4 : m < 4096 := by
        have : 16 ^ (min k (bts s).length) ≤ 16 ^ 3 := Nat.pow_le_pow_right (by omega) (by omega)
        omega
      have hcell := HC.out k hlt
      have hcc : s.data.toList.getD k 0 = c := by
        show (bts s).getD k 0 = c
        rw [List.getD_eq_getElem?_getD, hc]; rfl
      have HCC := Lib.hid hcc
      rw [hcc] at hcell
      have hcell2 := (hbel.cell (p := ⟨w.heap.size, k, none⟩) (by show w.heap.size < wb.heap.size; omega)).trans hcell
      have HST := Lib.hid hstep
      clear hstep hcell hcc hm hml hc
      have q1 : decide ((1152921504606846976 : Int) ≤ (m : Int)) = false := decide_eq_false (by omega)
      have q2 : IntKind.u64.wrap ((m : Int) * 16) = (m : Int) * 16 := by show ((m : Int) * 16) % 18446744073709551616 = _; omega
      have hin := hex_in hd
      have hk3 : k ≤ 3 := by omega
      clear hd hcell2 hdl
      have hcell2 := (hbel.cell (p := ⟨w.heap.size, k, none⟩) (by show w.heap.size < wb.heap.size; omega)).trans (HC.out k hlt)
      have hcc2 := HCC.out
      rw [hcc2] at hcell2
      clear hcc2
      simp only [hexTab, List.mem_cons, Prod.mk.injEq, List.not_mem_nil, or_false] at hin
      rcases hin with ⟨rfl, rfl⟩ | ⟨rfl, rfl⟩ | ⟨rfl, rfl⟩ | ⟨rfl, rfl⟩ | ⟨rfl, rfl⟩ | ⟨rfl, rfl⟩ | ⟨rfl, rfl⟩ | ⟨rfl, rfl⟩ | ⟨rfl, rfl⟩ | ⟨rfl, rfl⟩ | ⟨rfl, rfl⟩ | ⟨rfl, rfl⟩ | ⟨rfl, rfl⟩ | ⟨rfl, rfl⟩ | ⟨rfl, rfl⟩ | ⟨rfl, rfl⟩ | ⟨rfl, rfl⟩ | ⟨rfl, rfl⟩ | ⟨rfl, rfl⟩ | ⟨rfl, rfl⟩ | ⟨rfl, rfl⟩ | ⟨rfl, rfl⟩
      · have q3 : IntKind.u64.wrap ((m : Int) * 16 + 0) = (m : Int) * 16 + 0 := by show ((m : Int) * 16 + 0) % 18446744073709551616 = _; omega
        go_wp2_with fail
        go_roundw
        case rel => exact ⟨k + 1, 16 * m + 0, by omega, rfl, by go_num, HST.out, by congr 1; omega, hbel⟩
        case measure => simp [intOf]; omega
      · have q3 : IntKind.u64.wrap ((m : Int) * 16 + 1) = (m : Int) * 16 + 1 := by show ((m : Int) * 16 + 1) % 18446744073709551616 = _; omega
        go_wp2_with fail
        go_roundw
        case rel => exact ⟨k + 1, 16 * m + 1, by omega, rfl, by go_num, HST.out, by congr 1; omega, hbel⟩
        case measure => simp [intOf]; omega
      · have q3 : IntKind.u64.wrap ((m : Int) * 16 + 2) = (m : Int) * 16 + 2 := by show ((m : Int) * 16 + 2) % 18446744073709551616 = _; omega
        go_wp2_with fail
        go_roundw
        case rel => exact ⟨k + 1, 16 * m + 2, by omega, rfl, by go_num, HST.out, by congr 1; omega, hbel⟩
        case measure => simp [intOf]; omega
      · have q3 : IntKind.u64.wrap ((m : Int) * 16 + 3) = (m : Int) * 16 + 3 := by show ((m : Int) * 16 + 3) % 18446744073709551616 = _; omega
        go_wp2_with fail
        go_roundw
        case rel => exact ⟨k + 1, 16 * m + 3, by omega, rfl, by go_num, HST.out, by congr 1; omega, hbel⟩
        case measure => simp [intOf]; omega
      · have q3 : IntKind.u64.wrap ((m : Int) * 16 + 4) = (m : Int) * 16 + 4 := by show ((m : Int) * 16 + 4) % 18446744073709551616 = _; omega
        go_wp2_with fail
        go_roundw
        case rel => exact ⟨k + 1, 16 * m + 4, by omega, rfl, by go_num, HST.out, by congr 1; omega, hbel⟩
        case measure => simp [intOf]; omega
      · have q3 : IntKind.u64.wrap ((m : Int) * 16 + 5) = (m : Int) * 16 + 5 := by show ((m : Int) * 16 + 5) % 18446744073709551616 = _; omega
        go_wp2_with fail
        go_roundw
        case rel => exact ⟨k + 1, 16 * m + 5, by omega, rfl, by go_num, HST.out, by congr 1; omega, hbel⟩
        case measure => simp [intOf]; omega
      · have q3 : IntKind.u64.wrap ((m : Int) * 16 + 6) = (m : Int) * 16 + 6 := by show ((m : Int) * 16 + 6) % 18446744073709551616 = _; omega
        go_wp2_with fail
        go_roundw
        case rel => exact ⟨k + 1, 16 * m + 6, by omega, rfl, by go_num, HST.out, by congr 1; omega, hbel⟩
        case measure => simp [intOf]; omega
      · have q3 : IntKind.u64.wrap ((m : Int) * 16 + 7) = (m : Int) * 16 + 7 := by show ((m : Int) * 16 + 7) % 18446744073709551616 = _; omega
        go_wp2_with fail
        go_roundw
        case rel => exact ⟨k + 1, 16 * m + 7, by omega, rfl, by go_num, HST.out, by congr 1; omega, hbel⟩
        case measure => simp [intOf]; omega
      · have q3 : IntKind.u64.wrap ((m : Int) * 16 + 8) = (m : Int) * 16 + 8 := by show ((m : Int) * 16 + 8) % 18446744073709551616 = _; omega
        go_wp2_with fail
        go_roundw
        case rel => exact ⟨k + 1, 16 * m + 8, by omega, rfl, by go_num, HST.out, by congr 1; omega, hbel⟩
        case measure => simp [intOf]; omega
      · have q3 : IntKind.u64.wrap ((m : Int) * 16 + 9) = (m : Int) * 16 + 9 := by show ((m : Int) * 16 + 9) % 18446744073709551616 = _; omega
        go_wp2_with fail
        go_roundw
        case rel => exact ⟨k + 1, 16 * m + 9, by omega, rfl, by go_num, HST.out, by congr 1; omega, hbel⟩
        case measure => simp [intOf]; omega
      · have q3 : IntKind.u64.wrap ((m : Int) * 16 + 10) = (m : Int) * 16 + 10 := by show ((m : Int) * 16 + 10) % 18446744073709551616 = _; omega
        have HLO := Lib.hid (fun w => lower_c 97 97 w (by decide))
        go_wp2_with fail
        refine (HLO.out _).mono ?_
        rintro e w9 ⟨rfl, rfl⟩
        go_wp2_with fail
        refine (HLO.out _).mono ?_
        rintro e w9 ⟨rfl, rfl⟩
        go_wp2_with fail
        refine (HLO.out _).mono ?_
        rintro e w9 ⟨rfl, rfl⟩
        go_wp2_with fail
        go_roundw
        case rel => exact ⟨k + 1, 16 * m + 10, by omega, rfl, by go_num, HST.out, by congr 1; omega, hbel⟩
        case measure => simp [intOf]; omega
      · have q3 : IntKind.u64.wrap ((m : Int) * 16 + 11) = (m : Int) * 16 + 11 := by show ((m : Int) * 16 + 11) % 18446744073709551616 = _; omega
        have HLO := Lib.hid (fun w => lower_c 98 98 w (by decide))
        go_wp2_with fail
        refine (HLO.out _).mono ?_
        rintro e w9 ⟨rfl, rfl⟩
        go_wp2_with fail
        refine (HLO.out _).mono ?_
        rintro e w9 ⟨rfl, rfl⟩
        go_wp2_with fail
        refine (HLO.out _).mono ?_
        rintro e w9 ⟨rfl, rfl⟩
        go_wp2_with fail
        go_roundw
        case rel => exact ⟨k + 1, 16 * m + 11, by omega, rfl, by go_num, HST.out, by congr 1; omega, hbel⟩
        case measure => simp [intOf]; omega
      · have q3 : IntKind.u64.wrap ((m : Int) * 16 + 12) = (m : Int) * 16 + 12 := by show ((m : Int) * 16 + 12) % 18446744073709551616 = _; omega
        have HLO := Lib.hid (fun w => lower_c 99 99 w (by decide))
        go_wp2_with fail
        refine (HLO.out _).mono ?_
        rintro e w9 ⟨rfl, rfl⟩
        go_wp2_with fail
        refine (HLO.out _).mono ?_
        rintro e w9 ⟨rfl, rfl⟩
        go_wp2_with fail
        refine (HLO.out _).mono ?_
        rintro e w9 ⟨rfl, rfl⟩
        go_wp2_with fail
        go_roundw
        case rel => exact ⟨k + 1, 16 * m + 12, by omega, rfl, by go_num, HST.out, by congr 1; omega, hbel⟩
        case measure => simp [intOf]; omega
      · have q3 : IntKind.u64.wrap ((m : Int) * 16 + 13) = (m : Int) * 16 + 13 := by show ((m : Int) * 16 + 13) % 18446744073709551616 = _; omega
        have HLO := Lib.hid (fun w => lower_c 100 100 w (by decide))
        go_wp2_with fail
        refine (HLO.out _).mono ?_
        rintro e w9 ⟨rfl, rfl⟩
        go_wp2_with fail
        refine (HLO.out _).mono ?_
        rintro e w9 ⟨rfl, rfl⟩
        go_wp2_with fail
        refine (HLO.out _).mono ?_
        rintro e w9 ⟨rfl, rfl⟩
        go_wp2_with fail
        go_roundw
        case rel => exact ⟨k + 1, 16 * m + 13, by omega, rfl, by go_num, HST.out, by congr 1; omega, hbel⟩
        case measure => simp [intOf]; omega
      · have q3 : IntKind.u64.wrap ((m : Int) * 16 + 14) = (m : Int) * 16 + 14 := by show ((m : Int) * 16 + 14) % 18446744073709551616 = _; omega
        have HLO := Lib.hid (fun w => lower_c 101 101 w (by decide))
        go_wp2_with fail
        refine (HLO.out _).mono ?_
        rintro e w9 ⟨rfl, rfl⟩
        go_wp2_with fail
        refine (HLO.out _).mono ?_
        rintro e w9 ⟨rfl, rfl⟩
        go_wp2_with fail
        refine (HLO.out _).mono ?_
        rintro e w9 ⟨rfl, rfl⟩
        go_wp2_with fail
        go_roundw
        case rel => exact ⟨k + 1, 16 * m + 14, by omega, rfl, by go_num, HST.out, by congr 1; omega, hbel⟩
        case measure => simp [intOf]; omega
      · have q3 : IntKind.u64.wrap ((m : Int) * 16 + 15) = (m : Int) * 16 + 15 := by show ((m : Int) * 16 + 15) % 18446744073709551616 = _; omega
        have HLO := Lib.hid (fun w => lower_c 102 102 w (by decide))
        go_wp2_with fail
        refine (HLO.out _).mono ?_
        rintro e w9 ⟨rfl, rfl⟩
        go_wp2_with fail
        refine (HLO.out _).mono ?_
        rintro e w9 ⟨rfl, rfl⟩
        go_wp2_with fail
        refine (HLO.out _).mono ?_
        rintro e w9 ⟨rfl, rfl⟩
        go_wp2_with fail
        go_roundw
        case rel => exact ⟨k + 1, 16 * m + 15, by omega, rfl, by go_num, HST.out, by congr 1; omega, hbel⟩
        case measure => simp [intOf]; omega
      · have q3 : IntKind.u64.wrap ((m : Int) * 16 + 10) = (m : Int) * 16 + 10 := by show ((m : Int) * 16 + 10) % 18446744073709551616 = _; omega
        have HLO := Lib.hid (fun w => lower_c 65 97 w (by decide))
        go_wp2_with fail
        refine (HLO.out _).mono ?_
        rintro e w9 ⟨rfl, rfl⟩
        go_wp2_with fail
        refine (HLO.out _).mono ?_
        rintro e w9 ⟨rfl, rfl⟩
        go_wp2_with fail
        refine (HLO.out _).mono ?_
        rintro e w9 ⟨rfl, rfl⟩
        go_wp2_with fail
        go_roundw
        case rel => exact ⟨k + 1, 16 * m + 10, by omega, rfl, by go_num, HST.out, by congr 1; omega, hbel⟩
        case measure => simp [intOf]; omega
      · have q3 : IntKind.u64.wrap ((m : Int) * 16 + 11) = (m : Int) * 16 + 11 := by show ((m : Int) * 16 + 11) % 18446744073709551616 = _; omega
        have HLO := Lib.hid (fun w => lower_c 66 98 w (by decide))
        go_wp2_with fail
        refine (HLO.out _).mono ?_
        rintro e w9 ⟨rfl, rfl⟩
        go_wp2_with fail
        refine (HLO.out _).mono ?_
        rintro e w9 ⟨rfl, rfl⟩
        go_wp2_with fail
        refine (HLO.out _).mono ?_
        rintro e w9 ⟨rfl, rfl⟩
        go_wp2_with fail
        go_roundw
        case rel => exact ⟨k + 1, 16 * m + 11, by omega, rfl, by go_num, HST.out, by congr 1; omega, hbel⟩
        case measure => simp [intOf]; omega
      · have q3 : IntKind.u64.wrap ((m : Int) * 16 + 12) = (m : Int) * 16 + 12 := by show ((m : Int) * 16 + 12) % 18446744073709551616 = _; omega
        have HLO := Lib.hid (fun w => lower_c 67 99 w (by decide))
        go_wp2_with fail
        refine (HLO.out _).mono ?_
        rintro e w9 ⟨rfl, rfl⟩
        go_wp2_with fail
        refine (HLO.out _).mono ?_
        rintro e w9 ⟨rfl, rfl⟩
        go_wp2_with fail
        refine (HLO.out _).mono ?_
        rintro e w9 ⟨rfl, rfl⟩
        go_wp2_with fail
        go_roundw
        case rel => exact ⟨k + 1, 16 * m + 12, by omega, rfl, by go_num, HST.out, by congr 1; omega, hbel⟩
        case measure => simp [intOf]; omega
      · have q3 : IntKind.u64.wrap ((m : Int) * 16 + 13) = (m : Int) * 16 + 13 := by show ((m : Int) * 16 + 13) % 18446744073709551616 = _; omega
        have HLO := Lib.hid (fun w => lower_c 68 100 w (by decide))
        go_wp2_with fail
        refine (HLO.out _).mono ?_
        rintro e w9 ⟨rfl, rfl⟩
        go_wp2_with fail
        refine (HLO.out _).mono ?_
        rintro e w9 ⟨rfl, rfl⟩
        go_wp2_with fail
        refine (HLO.out _).mono ?_
        rintro e w9 ⟨rfl, rfl⟩
        go_wp2_with fail
        go_roundw
        case rel => exact ⟨k + 1, 16 * m + 13, by omega, rfl, by go_num, HST.out, by congr 1; omega, hbel⟩
        case measure => simp [intOf]; omega
      · have q3 : IntKind.u64.wrap ((m : Int) * 16 + 14) = (m : Int) * 16 + 14 := by show ((m : Int) * 16 + 14) % 18446744073709551616 = _; omega
        have HLO := Lib.hid (fun w => lower_c 69 101 w (by decide))
        go_wp2_with fail
        refine (HLO.out _).mono ?_
        rintro e w9 ⟨rfl, rfl⟩
        go_wp2_with fail
        refine (HLO.out _).mono ?_
        rintro e w9 ⟨rfl, rfl⟩
        go_wp2_with fail
        refine (HLO.out _).mono ?_
        rintro e w9 ⟨rfl, rfl⟩
        go_wp2_with fail
        go_roundw
        case rel => exact ⟨k + 1, 16 * m + 14, by omega, rfl, by go_num, HST.out, by congr 1; omega, hbel⟩
        case measure => simp [intOf]; omega
      · have q3 : IntKind.u64.wrap ((m : Int) * 16 + 15) = (m : Int) * 16 + 15 := by show ((m : Int) * 16 + 15) % 18446744073709551616 = _; omega
        have HLO := Lib.hid (fun w => lower_c 70 102 w (by decide))
        go_wp2_with fail
        refine (HLO.out _).mono ?_
        rintro e w9 ⟨rfl, rfl⟩
        go_wp2_with fail
        refine (HLO.out _).mono ?_
        rintro e w9 ⟨rfl, rfl⟩
        go_wp2_with fail
        refine (HLO.out _).mono ?_
        rintro e w9 ⟨rfl, rfl⟩
        go_wp2_with fail
        go_roundw
        case rel => exact ⟨k + 1, 16 * m + 15, by omega, rfl, by go_num, HST.out, by congr 1; omega, hbel⟩
        case measure => simp [intOf]; omega
    · obtain rfl : k = s.size := by omega
      have d1 : ¬ (s.size : Int) < s.size := by omega
      have hlen : (bts s).length = s.size := by simp [bts]
      rw [← hlen, List.take_length, HM.out] at hm
      cases hm
      go_wp2_with fail
      go_ret2
      exact ⟨rfl, bl_trans hbw hbel⟩
end Go.Proofs.YtpfilldnfpcpkaaGreatDoor

namespace Go.Proofs.YtpfilldnfpcpkaaGreatDoor
open Go.RowKit

set_option maxRecDepth 100000 in
theorem puint16_c (s : ByteArray) (g : Nat) (h : hex16 (bts s) = some g) (w : World) :
    Calls Tryz.prog 174 #[.string s, .int .i64 16, .int .i64 16] w fun e w' => e = .returned (.tuple #[.int .u64 g, .nilIface]) ∧ Below w.heap.size w w' := by
  have HI := Lib.hid (fun w => ipu_c s g h w)
  clear h
  go_enter Tryz.func174, Tryz.ntmps174
  go_wp2_with fail
  refine (HI.out _).mono ?_
  rintro e w1 ⟨rfl, hb1⟩
  go_wp2_with fail
  go_ret2
  exact ⟨rfl, hb1⟩
theorem indexByte_mem (c : UInt8) : ∀ l : List UInt8, (0 ≤ Lib.indexByte l c) ↔ c ∈ l
  | [] => by simp [Lib.indexByte]
  | x :: l => by
    have ih := indexByte_mem c l
    have hg := Lib.indexByte_ge l c
    unfold Lib.indexByte
    by_cases e : x = c
    · subst e; simp
    · rw [if_neg (by simp [e])]
      by_cases m : Lib.indexByte l c = -1
      · rw [if_pos (by simp [m])]
        have : c ∉ l := fun h => by have := ih.2 h; omega
        simp [Ne.symm e, this]
      · rw [if_neg (by simp [m])]
        have : c ∈ l := ih.1 (by omega)
        simp [this]; omega
theorem has_c (s : ByteArray) (c : UInt8) (w : World) :
    Calls Tryz.prog 149 #[.string s, .string ⟨#[c]⟩] w fun e w' => e = .returned (.bool (decide (c ∈ bts s))) ∧ w = w' := by
  refine (Tryz.strings_Contains_one s c w).mono ?_
  rintro e w' ⟨rfl, rfl⟩
  refine ⟨?_, rfl⟩
  congr 2
  rw [Bool.eq_iff_iff, decide_eq_true_eq, decide_eq_true_eq]
  exact indexByte_mem c _
theorem hexM_some : ∀ {l : List UInt8} (n : Nat), (∀ c ∈ l, ∃ d, hexV c = some d) → ∃ g, hexM n l = some g
  | [], n, _ => ⟨n, rfl⟩
  | c :: r, n, h => by
    obtain ⟨d, hd⟩ := h c (by simp)
    rw [hexM, hd]
    exact hexM_some _ fun x hx => h x (by simp [hx])
/-- so many pieces have been read -/
def SideTo (last : Bool) (L : List (List UInt8)) (k : Nat) (G : List Nat) : Prop := sideP last L = (sideP last (L.drop k)).map (G ++ ·)
theorem sideTo_zero (last : Bool) (L : List (List UInt8)) : SideTo last L 0 [] := by
  unfold SideTo; rw [List.drop_zero]; cases sideP last L <;> simp
theorem drop_at8 {L : List (List UInt8)} {k : Nat} {p : List UInt8} (h : L[k]? = some p) : L.drop k = p :: L.drop (k + 1) := by
  obtain ⟨hi, rfl⟩ := List.getElem?_eq_some_iff.1 h
  exact List.drop_eq_getElem_cons hi
theorem sideTo_step {last : Bool} {L : List (List UInt8)} {k : Nat} {G : List Nat} {p : List UInt8} {g : Nat} (h : SideTo last L k G) (hp : L[k]? = some p) (hg : hex16 p = some g) : SideTo last L (k + 1) (G ++ [g]) := by
  unfold SideTo at *
  have h46 : (46 : UInt8) ∉ p := fun hm => by rw [hex16_dot hm] at hg; cases hg
  rw [h, drop_at8 hp, sideP, if_neg (fun q => h46 q.2.2), hg]
  cases sideP last (L.drop (k + 1)) <;> simp
def NotDot (last : Bool) (L : List (List UInt8)) (k : Nat) (p : List UInt8) : Prop := ¬ (last = true ∧ k + 1 = L.length ∧ (46 : UInt8) ∈ p)
theorem sideTo_bad {last : Bool} {L : List (List UInt8)} {k : Nat} {G : List Nat} {p : List UInt8} (h : SideTo last L k G) (hp : L[k]? = some p) (hg : hex16 p = none) (hn : NotDot last L k p) : sideP last L = none := by
  unfold SideTo at h
  have hk : k < L.length := (List.getElem?_eq_some_iff.1 hp).1
  rw [h, drop_at8 hp, sideP, if_neg, hg]; rfl
  rintro ⟨q1, q2, q3⟩
  exact hn ⟨q1, by have := List.drop_eq_nil_iff.1 q2; omega, q3⟩
theorem sideTo_dot {last : Bool} {L : List (List UInt8)} {k : Nat} {G : List Nat} {p : List UInt8} (h : SideTo last L k G) (hp : L[k]? = some p) (h1 : last = true) (h2 : k + 1 = L.length) (h3 : (46 : UInt8) ∈ p) : sideP last L = (four (pieces 46 p)).map (fun t => G ++ grp t) := by
  unfold SideTo at h
  rw [h, drop_at8 hp, sideP, if_pos ⟨h1, List.drop_of_length_le (by omega), h3⟩]
  cases four (pieces 46 p) <;> simp
theorem sideTo_end {last : Bool} {L : List (List UInt8)} {k : Nat} {G : List Nat} (h : SideTo last L k G) (hk : L.length ≤ k) : sideP last L = some G := by
  unfold SideTo at h
  rw [h, List.drop_of_length_le hk]; simp [sideP]
theorem info_u16 : (Tryz.prog.info? 148).map (fun i => (i.zero, i.size, i.bytes)) = some (some (.int .u16 0), 1, 2) := by kernel_rfl
def u16V (l : List Nat) : List Value := l.map fun n => Value.int .u16 (n : Nat)
/-- what the reading of a side answers -/
def SideIs (last : Bool) (s : List UInt8) (w : World) (e : Ending) (w' : World) : Prop :=
  (∃ v ok, e = .returned (.tuple #[v, .bool ok]) ∧
    ((side last s = none ∧ ok = false ∧ ∃ a n c, v = .slice a n c ∧ n ≤ 1000010) ∨ ∃ G, side last s = some G ∧ ok = true ∧ w'.ownsRow w.heap.size 148 1 v G.length (u16V G) ∧ G.length ≤ 1000010 ∧ ∀ g ∈ G, g < 65536)) ∧ Below w.heap.size w w'
theorem cell_list (w : World) (l : List Value) (t : TypeId) : ∀ j x, l[j]? = some x → (w.alloc (.cells l.toArray t)).cell? ((⟨w.heap.size, 0, none⟩ : Addr).add j) = some x := by
  intro j x h
  have e : (⟨w.heap.size, 0, none⟩ : Addr).add j = ⟨w.heap.size, j, none⟩ := by unfold Addr.add; split <;> simp_all
  rw [e, World.cell?_alloc_new]
  simpa using h
theorem own_slice {w : World} {base n : Nat} {e : TypeId} {v : Value} {xs : List Value} (h : w.ownsRow base e 1 v n xs) : ∃ a c, v = .slice a n c := by
  rcases h.2 with ⟨rfl, h0⟩ | ⟨g, cap, cur, hv, _⟩
  · subst h0; exact ⟨_, _, rfl⟩
  · exact ⟨_, _, hv⟩
theorem own_lower {w : World} {base base' n : Nat} {e : TypeId} {v : Value} {xs : List Value} (h : w.ownsRow base e 1 v n xs) (hb : base' ≤ base) : w.ownsRow base' e 1 v n xs := by
  obtain ⟨h1, h2⟩ := h
  exact ⟨h1, h2.imp id fun ⟨g, cap, cur, e1, e2, e3⟩ => ⟨g, cap, cur, e1, Nat.le_trans hb e2, e3⟩⟩
set_option maxRecDepth 100000 in
set_option maxHeartbeats 12800000 in
theorem side_c (s : ByteArray) (last : Bool) (w : World) (hs : s.size ≤ 1000000) (hG : Glob w) :
    Calls Tryz.prog 152 #[.string s, .bool last] w (SideIs last (bts s) w) := by
  by_cases h0 : s.size = 0
  · have hb : bts s = [] := List.eq_nil_of_length_eq_zero (by simpa [bts] using h0)
    have he : s.toList.isEmpty = true := by rw [Lib.toList_data]; show (bts s).isEmpty = true; rw [hb]; rfl
    rw [hb]
    clear hb h0
    go_enter Tryz.func152, Tryz.ntmps152
    go_wp2_with fail
    go_ret2
    exact ⟨⟨_, _, rfl, .inr ⟨[], rfl, rfl, World.ownsRow_nil _ _ _ _, by simp, by simp⟩⟩, bl_⟩
  have hne : bts s ≠ [] := fun e => h0 (by have := congrArg List.length e; simpa [bts] using this)
  have he : s.toList.isEmpty = false := by
    rw [Lib.toList_data]
    cases hq : s.data.toList with
    | nil => exact absurd hq hne
    | cons a l => rfl
  have HS := Lib.hid (split_c 58 s w hs hG)
  have hbl : (piecesB 58 s).map bts = pieces 58 (bts s) := piecesB_eq 58 s
  have hps : ∀ p ∈ piecesB 58 s, p.size ≤ s.size := fun p hp => by
    have := pieces_size 58 s (bts p) (by rw [← hbl]; exact List.mem_map_of_mem hp)
    simpa [bts] using this
  have hside : side last (bts s) = sideP last (pieces 58 (bts s)) := by unfold side; rw [if_neg hne]
  have hpl : (piecesB 58 s).length ≤ 1000001 := by
    have h1 : (pieces 58 (bts s)).length = (bts s).count 58 + 1 := pieces_len 58 _
    have h2 : (bts s).count 58 ≤ (bts s).length := List.count_le_length
    have h3 : (bts s).length = s.size := by simp [bts]
    rw [← hbl, List.length_map] at h1
    omega
  go_enter Tryz.func152, Tryz.ntmps152
  go_wp2_with fail
  refine HS.out.mono ?_
  rintro e w1 ⟨rfl, rfl⟩
  obtain ⟨i0, hi0, hz0, hz1, hz2⟩ := info_parts info_u16
  have hc := fun (j : Nat) (x : ByteArray) (hx : (piecesB 58 s)[j]? = some x) => (show (w.alloc (.cells ((piecesB 58 s).map Value.string).toArray 9)).cell? ⟨w.heap.size, j, none⟩ = some (.string x) by rw [World.cell?_alloc_new]; simp [hx])
  have hG1 : Glob (w.alloc (.cells ((piecesB 58 s).map Value.string).toArray 9)) := hG.after bl_
  have hbel1' : Below w.heap.size w (w.alloc (.cells ((piecesB 58 s).map Value.string).toArray 9)) := bl_
  have hz1' : w.heap.size < (w.alloc (.cells ((piecesB 58 s).map Value.string).toArray 9)).heap.size := by simp
  generalize piecesB 58 s = L at *
  generalize w.alloc (.cells (L.map Value.string).toArray 9) = w1 at *
  rw [← hbl] at hside
  have HBL := Lib.hid hbl
  have HC := Lib.hid hc
  have HPS := Lib.hid hps
  have HSD := Lib.hid hside
  clear hbl hc hps hside hG HS he hne h0
  go_wp2_with fail
  go_loopw [6, 21] (fun so i wr => ∃ (k : Nat) (G : List Nat), k ≤ L.length ∧ i = .int .i64 k ∧ G.length = k ∧ SideTo last (L.map bts) k G ∧ (∀ g ∈ G, g < 65536) ∧ wr.ownsRow w1.heap.size 148 1 so G.length (u16V G) ∧ Below w1.heap.size w1 wr) (fun _ i _ => L.length - (intOf i).toNat)
  case atStart => exact ⟨0, [], by omega, rfl, rfl, sideTo_zero _ _, by simp, World.ownsRow_nil _ _ _ _, Below.refl _ _⟩
  case round =>
    obtain ⟨k, G, hk, rfl, hGl, hst, hg16, hown, hbel⟩ := hrel
    have HST := Lib.hid hst
    have HG16 := Lib.hid hg16
    have HGL := Lib.hid hGl
    have hGr := hG1.after hbel
    have hGk : G.length ≤ 1000001 := by omega
    clear hst hg16 hGl
    by_cases hlt : k < L.length
    · have d1 : (k : Int) < L.length := by omega
      obtain ⟨p, hp⟩ : ∃ p, L[k]? = some p := ⟨_, List.getElem?_eq_getElem hlt⟩
      have hcell := (hbel.cell (p := ⟨w.heap.size, k, none⟩) hz1').trans (HC.out k p hp)
      have hpsz := HPS.out p (List.mem_of_getElem? hp)
      have hpm : (L.map bts)[k]? = some (bts p) := by simp [hp]
      have HPM := Lib.hid hpm
      have HBP : Hid ((bts p).length = p.size) := Lib.hid (by simp [bts])
      clear hp hpm
      by_cases hend : last = true ∧ k + 1 = L.length
      · obtain ⟨rfl, hk1⟩ := hend
        have e1 : ((k : Int) == (L.length : Int) - 1) = true := by simp; omega
        by_cases hdot : (46 : UInt8) ∈ bts p
        · have HH := Lib.hid (fun w => has_c p 46 w)
          rw [decide_eq_true hdot] at HH
          have HP := Lib.hid (fun w hG => parse4_c p w (by omega) hG)
          go_wp2_with fail
          refine (HH.out _).mono ?_
          rintro e w2 ⟨rfl, rfl⟩
          go_wp2_with fail
          refine (HP.out _ hGr).mono ?_
          have hdt := sideTo_dot HST.out HPM.out rfl (by rw [List.length_map]; exact hk1) hdot
          rw [← HSD.out] at hdt
          cases h4 : four (pieces 46 (bts p)) with
          | none =>
            have hfv : fourV (pieces 46 (bts p)) = .tuple #[.int .u32 0, .bool false] := by unfold fourV; rw [h4]
            rw [hfv]
            rw [h4] at hdt
            have HDT := Lib.hid hdt
            rintro e w3 ⟨rfl, hb3⟩
            have hown3 := own_after hown hb3
            have hbel3 := bl_trans hbel hb3
            have hz3 := hbel3.size
            clear hfv hdt h4 hown hbel hdot hb3
            go_wp2_with (at_builtin; refine wpList_append_own _ rfl _ _ 154 rfl w1.heap.size 148 i0 (.int .u16 0) 1 2 Tryz.underlying154 hi0 hz0 hz1 hz2 rfl (by decide) _ _ _ rfl (hown3.alloc _) ⟨w3.heap.size, 0, none⟩ 2 2 [.int .u16 0, .int .u16 0] rfl rfl ?z1_1 ?z1_2 ?z1_3 ?z1_4 ?z1_5 ?_)
            (try case z1_1 => exact cell_list _ _ _)
            (try case z1_2 => (first | exact one_cell_k _ _ | rfl | (intro u hu; simp at hu; (try rcases hu with rfl | rfl) <;> (try subst hu) <;> rfl)))
            case z1_3 => (first | (simp only [maxLen]; omega) | omega)
            (try case z1_4 => omega)
            (try case z1_5 => (first | omega | (simp; omega)))
            (try case z1_2 => (first | exact one_cell_k _ _ | rfl | (intro u hu; simp at hu; (try rcases hu with rfl | rfl) <;> (try subst hu) <;> rfl)))
            (try case z1_2 => exact ⟨rfl, rfl⟩)
            intro v' wa hown' hgrow _
            have hbel1 := below_own hbel3 hown3 (by first | exact Nat.le_refl _ | omega) hgrow
            obtain ⟨ga, gc, rfl⟩ := own_slice hown'
            go_wp2_with fail
            go_ret2
            exact ⟨⟨_, _, rfl, .inl ⟨by rw [HDT.out]; rfl, rfl, _, _, _, rfl, by omega⟩⟩, bl_trans hbel1' hbel1⟩
          | some t =>
            obtain ⟨ht4, ht5⟩ := four_lt h4
            have hfv : fourV (pieces 46 (bts p)) = .tuple #[.int .u32 (valB t : Nat), .bool true] := by unfold fourV; rw [h4]
            rw [hfv]
            rw [h4] at hdt
            obtain ⟨a, b, c, d, rfl⟩ : ∃ a b c d, t = [a, b, c, d] := by
              match t, ht4 with
              | [a, b, c, d], _ => exact ⟨a, b, c, d, rfl⟩
            have ha := ht5 a (by simp)
            have hb := ht5 b (by simp)
            have hc' := ht5 c (by simp)
            have hd := ht5 d (by simp)
            have hval : valB [a, b, c, d] = 65536 * (256 * a + b) + (256 * c + d) := by simp only [valB, List.foldl_cons, List.foldl_nil]; omega
            rw [hval]
            have hdt' : side true (bts s) = some (G ++ [256 * a + b, 256 * c + d]) := by rw [hdt]; rfl
            have HDT := Lib.hid hdt'
            clear hdt'
            have c1 : IntKind.u16.wrap ((65536 * (256 * a + b) + (256 * c + d) : Nat) : Int) = ((256 * c + d : Nat) : Int) := by show ((65536 * (256 * a + b) + (256 * c + d) : Nat) : Int) % 65536 = _; omega
            have c2 : IntKind.u16.wrap (((65536 * (256 * a + b) + (256 * c + d) : Nat) : Int) / 65536) = ((256 * a + b : Nat) : Int) := by show (((65536 * (256 * a + b) + (256 * c + d) : Nat) : Int) / 65536) % 65536 = _; omega
            generalize 65536 * (256 * a + b) + (256 * c + d) = X at *
            have hlt1 : 256 * a + b < 65536 := by omega
            have hlt2 : 256 * c + d < 65536 := by omega
            generalize 256 * a + b = A at *
            generalize 256 * c + d = D at *
            rintro e w3 ⟨rfl, hb3⟩
            have hown3 := own_after hown hb3
            have hbel3 := bl_trans hbel hb3
            have hz3 := hbel3.size
            clear hfv hdt h4 hown hbel hdot hb3 hval ht4 ht5 ha hb hc' hd
            go_wp2_with (at_builtin; refine wpList_append_own _ rfl _ _ 154 rfl w1.heap.size 148 i0 (.int .u16 0) 1 2 Tryz.underlying154 hi0 hz0 hz1 hz2 rfl (by decide) _ _ _ rfl (hown3.alloc _) ⟨w3.heap.size, 0, none⟩ 2 2 [.int .u16 (A : Nat), .int .u16 (D : Nat)] rfl rfl ?z2_1 ?z2_2 ?z2_3 ?z2_4 ?z2_5 ?_)
            (try case z2_1 => exact cell_list _ _ _)
            (try case z2_2 => (first | exact one_cell_k _ _ | rfl | (intro u hu; simp at hu; (try rcases hu with rfl | rfl) <;> (try subst hu) <;> rfl)))
            case z2_3 => (first | (simp only [maxLen]; omega) | omega)
            (try case z2_4 => omega)
            (try case z2_5 => (first | omega | (simp; omega)))
            (try case z2_2 => (first | exact one_cell_k _ _ | rfl | (intro u hu; simp at hu; (try rcases hu with rfl | rfl) <;> (try subst hu) <;> rfl)))
            (try case z2_2 => exact ⟨rfl, rfl⟩)
            intro v' wa hown' hgrow _
            have hbel1 := below_own hbel3 hown3 (by first | exact Nat.le_refl _ | omega) hgrow
            obtain ⟨ga, gc, rfl⟩ := own_slice hown'
            go_wp2_with fail
            go_ret2
            refine ⟨⟨_, _, rfl, .inr ⟨G ++ [A, D], HDT.out, rfl, own_lower (by rw [List.length_append, show u16V (G ++ [A, D]) = u16V G ++ [.int .u16 (A : Nat), .int .u16 (D : Nat)] by simp [u16V]]; exact hown') (Nat.le_of_lt hz1'), by simp; omega, ?_⟩⟩, bl_trans hbel1' hbel1⟩
            intro g hg
            simp at hg
            rcases hg with hg | rfl | rfl
            · exact HG16.out g hg
            · exact hlt1
            · exact hlt2
        · -- the piece by itself
          have HH := Lib.hid (fun w => has_c p 46 w)
          rw [decide_eq_false hdot] at HH
          have HND : Hid (NotDot true (L.map bts) k (bts p)) := Lib.hid (fun h => hdot h.2.2)
          clear hdot
          go_wp2_with fail
          refine (HH.out _).mono ?_
          rintro e w2 ⟨rfl, rfl⟩
          by_cases hlen : 1 ≤ p.size ∧ p.size ≤ 4
          · have l1 : decide ((p.size : Int) < 1) = false := decide_eq_false (by omega)
            have l2 : decide ((4 : Int) < p.size) = false := decide_eq_false (by omega)
            go_wp2_with fail
            go_loopw [62] (fun i wi => ∃ j : Nat, j ≤ p.size ∧ i = .int .i64 j ∧ (∀ x c, x < j → (bts p)[x]? = some c → ∃ d, hexV c = some d) ∧ Below wr.heap.size wr wi) (fun i _ => p.size - (intOf i).toNat)
            case atStart => exact ⟨0, by omega, rfl, fun x c hx => absurd hx (by omega), Below.refl _ _⟩
            case round =>
              obtain ⟨j, hj, rfl, hall, hbi⟩ := hrel
              have HALL := Lib.hid hall
              clear hall
              have hbelI := bl_trans hbel hbi
              by_cases hjl : j < p.size
              · have dj : (j : Int) < p.size := by omega
                have HD := Lib.hid (fun w => digit_c (p[j]) w)
                have hcj : (bts p)[j]? = some (p[j]) := by
                  have h' : j < p.data.toList.length := by simpa using hjl
                  show p.data.toList[j]? = _
                  rw [List.getElem?_eq_getElem h']; rfl
                have HCJ := Lib.hid hcj
                clear hcj
                generalize hcc : p[j] = c at *
                cases hv : hexV c with
                | none =>
                  have hbad : hex16 (bts p) = none := by
                    unfold hex16
                    split
                    · rfl
                    · exact hexM_bad hv 0 (List.mem_of_getElem? HCJ.out)
                  have hnone := sideTo_bad HST.out HPM.out hbad HND.out
                  rw [← HSD.out] at hnone
                  have HN := Lib.hid hnone
                  rw [hv] at HD
                  clear hbad hnone hv
                  go_wp2_with fail
                  refine (HD.out _).mono ?_
                  rintro e w5 ⟨rfl, hb5⟩
                  have hbel5 := bl_trans hbelI hb5
                  go_wp2_with fail
                  go_ret2
                  exact ⟨⟨_, _, rfl, .inl ⟨HN.out, rfl, _, _, _, rfl, by omega⟩⟩, bl_trans hbel1' hbel5⟩
                | some d =>
                  rw [hv] at HD
                  have HV := Lib.hid hv
                  clear hv
                  go_wp2_with fail
                  refine (HD.out _).mono ?_
                  rintro e w5 ⟨rfl, hb5⟩
                  have hb6 := bl_trans hbi hb5
                  go_wp2_with fail
                  go_roundw
                  case rel =>
                    refine ⟨j + 1, by omega, by go_num, fun x c' hx hc' => ?_, hb6⟩
                    rcases Nat.lt_or_ge x j with q | q
                    · exact HALL.out x c' q hc'
                    · have : x = j := by omega
                      subst this
                      have := HCJ.out
                      rw [hc'] at this
                      injection this with this
                      rw [this]; exact ⟨d, HV.out⟩
                  case measure => simp [intOf]; omega
              · obtain rfl : j = p.size := by omega
                have dj : ¬ (p.size : Int) < p.size := by omega
                obtain ⟨g, hg⟩ : ∃ g, hex16 (bts p) = some g := by
                  unfold hex16
                  have hnl : ¬ (bts p = [] ∨ 4 < (bts p).length) := by
                    have hbp := HBP.out
                    rintro (h | h)
                    · rw [h] at hbp; simp at hbp; omega
                    · omega
                  rw [if_neg hnl]
                  refine hexM_some 0 fun c hc => ?_
                  obtain ⟨x, hx, rfl⟩ := List.mem_iff_getElem.1 hc
                  exact HALL.out x _ (by rw [← HBP.out]; exact hx) (List.getElem?_eq_getElem hx)
                have HP16 := Lib.hid (fun w => puint16_c p g hg w)
                have hnext := sideTo_step HST.out HPM.out hg
                have HNX := Lib.hid hnext
                have hglt := hex16_lt hg
                have hcg : IntKind.u16.wrap (g : Int) = g := by show (g : Int) % 65536 = g; omega
                have hownI := own_after hown hbi
                clear hg hnext hown hbel hbi
                go_wp2_with fail
                refine (HP16.out _).mono ?_
                rintro e w5 ⟨rfl, hb5⟩
                have hown5 := own_after hownI hb5
                have hbel5 := bl_trans hbelI hb5
                have hz5 := hbel5.size
                clear hownI hbelI hb5
                go_wp2_with (at_builtin; refine wpList_append_own _ rfl _ _ 154 rfl w1.heap.size 148 i0 (.int .u16 0) 1 2 Tryz.underlying154 hi0 hz0 hz1 hz2 rfl (by decide) _ _ _ rfl (hown5.alloc _) ⟨w5.heap.size, 0, none⟩ 1 1 [.int .u16 (g : Nat)] rfl rfl ?z3_1 ?z3_2 ?z3_3 ?z3_4 ?z3_5 ?_)
                (try case z3_1 => exact cell_list _ _ _)
                (try case z3_2 => (first | exact one_cell_k _ _ | rfl | (intro u hu; simp at hu; (try rcases hu with rfl | rfl) <;> (try subst hu) <;> rfl)))
                case z3_3 => (first | (simp only [maxLen]; omega) | omega)
                (try case z3_4 => omega)
                (try case z3_5 => (first | omega | (simp; omega)))
                (try case z3_2 => (first | exact one_cell_k _ _ | rfl | (intro u hu; simp at hu; (try rcases hu with rfl | rfl) <;> (try subst hu) <;> rfl)))
                intro v' wa hown' hgrow _
                have hbel1 := below_own hbel5 hown5 (by first | exact Nat.le_refl _ | omega) hgrow
                go_wp2_with fail
                go_roundw
                case rel =>
                  refine ⟨k + 1, G ++ [g], by omega, by go_num, by simp [HGL.out], HNX.out, ?_, ?_, hbel1⟩
                  · intro x hx
                    rcases List.mem_append.1 hx with hx | hx
                    · exact HG16.out x hx
                    · simp at hx; subst hx; exact hglt
                  · rw [List.length_append, show u16V (G ++ [g]) = u16V G ++ [.int .u16 (g : Nat)] by simp [u16V]]; exact hown'
                case measure => simp [intOf]; omega
          · have hbad : hex16 (bts p) = none := by
              unfold hex16
              rw [if_pos]
              have hbp := HBP.out
              by_cases q : p.size = 0
              · exact .inl (List.eq_nil_of_length_eq_zero (by omega))
              · exact .inr (by omega)
            have hnone := sideTo_bad HST.out HPM.out hbad HND.out
            rw [← HSD.out] at hnone
            have HN := Lib.hid hnone
            have hcs : decide ((p.size : Int) < 1) = true ∨ (decide ((p.size : Int) < 1) = false ∧ decide ((4 : Int) < p.size) = true) := by
              by_cases q : p.size < 1
              · exact .inl (decide_eq_true (by omega))
              · exact .inr ⟨decide_eq_false (by omega), decide_eq_true (by omega)⟩
            clear hbad hnone hlen
            rcases hcs with l1 | ⟨l1, l2⟩
            all_goals
              go_wp2_with fail
              go_ret2
              exact ⟨⟨_, _, rfl, .inl ⟨HN.out, rfl, _, _, _, rfl, by omega⟩⟩, bl_trans hbel1' hbel⟩
      · rcases (show last = false ∨ last = true by cases last <;> simp) with hlast | hlast
        · -- the piece by itself
          have HND : Hid (NotDot last (L.map bts) k (bts p)) := Lib.hid (fun h => hend ⟨h.1, by have := h.2.1; rwa [List.length_map] at this⟩)
          subst hlast
          by_cases hlen : 1 ≤ p.size ∧ p.size ≤ 4
          · have l1 : decide ((p.size : Int) < 1) = false := decide_eq_false (by omega)
            have l2 : decide ((4 : Int) < p.size) = false := decide_eq_false (by omega)
            go_wp2_with fail
            go_loopw [62] (fun i wi => ∃ j : Nat, j ≤ p.size ∧ i = .int .i64 j ∧ (∀ x c, x < j → (bts p)[x]? = some c → ∃ d, hexV c = some d) ∧ Below wr.heap.size wr wi) (fun i _ => p.size - (intOf i).toNat)
            case atStart => exact ⟨0, by omega, rfl, fun x c hx => absurd hx (by omega), Below.refl _ _⟩
            case round =>
              obtain ⟨j, hj, rfl, hall, hbi⟩ := hrel
              have HALL := Lib.hid hall
              clear hall
              have hbelI := bl_trans hbel hbi
              by_cases hjl : j < p.size
              · have dj : (j : Int) < p.size := by omega
                have HD := Lib.hid (fun w => digit_c (p[j]) w)
                have hcj : (bts p)[j]? = some (p[j]) := by
                  have h' : j < p.data.toList.length := by simpa using hjl
                  show p.data.toList[j]? = _
                  rw [List.getElem?_eq_getElem h']; rfl
                have HCJ := Lib.hid hcj
                clear hcj
                generalize hcc : p[j] = c at *
                cases hv : hexV c with
                | none =>
                  have hbad : hex16 (bts p) = none := by
                    unfold hex16
                    split
                    · rfl
                    · exact hexM_bad hv 0 (List.mem_of_getElem? HCJ.out)
                  have hnone := sideTo_bad HST.out HPM.out hbad HND.out
                  rw [← HSD.out] at hnone
                  have HN := Lib.hid hnone
                  rw [hv] at HD
                  clear hbad hnone hv
                  go_wp2_with fail
                  refine (HD.out _).mono ?_
                  rintro e w5 ⟨rfl, hb5⟩
                  have hbel5 := bl_trans hbelI hb5
                  go_wp2_with fail
                  go_ret2
                  exact ⟨⟨_, _, rfl, .inl ⟨HN.out, rfl, _, _, _, rfl, by omega⟩⟩, bl_trans hbel1' hbel5⟩
                | some d =>
                  rw [hv] at HD
                  have HV := Lib.hid hv
                  clear hv
                  go_wp2_with fail
                  refine (HD.out _).mono ?_
                  rintro e w5 ⟨rfl, hb5⟩
                  have hb6 := bl_trans hbi hb5
                  go_wp2_with fail
                  go_roundw
                  case rel =>
                    refine ⟨j + 1, by omega, by go_num, fun x c' hx hc' => ?_, hb6⟩
                    rcases Nat.lt_or_ge x j with q | q
                    · exact HALL.out x c' q hc'
                    · have : x = j := by omega
                      subst this
                      have := HCJ.out
                      rw [hc'] at this
                      injection this with this
                      rw [this]; exact ⟨d, HV.out⟩
                  case measure => simp [intOf]; omega
              · obtain rfl : j = p.size := by omega
                have dj : ¬ (p.size : Int) < p.size := by omega
                obtain ⟨g, hg⟩ : ∃ g, hex16 (bts p) = some g := by
                  unfold hex16
                  have hnl : ¬ (bts p = [] ∨ 4 < (bts p).length) := by
                    have hbp := HBP.out
                    rintro (h | h)
                    · rw [h] at hbp; simp at hbp; omega
                    · omega
                  rw [if_neg hnl]
                  refine hexM_some 0 fun c hc => ?_
                  obtain ⟨x, hx, rfl⟩ := List.mem_iff_getElem.1 hc
                  exact HALL.out x _ (by rw [← HBP.out]; exact hx) (List.getElem?_eq_getElem hx)
                have HP16 := Lib.hid (fun w => puint16_c p g hg w)
                have hnext := sideTo_step HST.out HPM.out hg
                have HNX := Lib.hid hnext
                have hglt := hex16_lt hg
                have hcg : IntKind.u16.wrap (g : Int) = g := by show (g : Int) % 65536 = g; omega
                have hownI := own_after hown hbi
                clear hg hnext hown hbel hbi
                go_wp2_with fail
                refine (HP16.out _).mono ?_
                rintro e w5 ⟨rfl, hb5⟩
                have hown5 := own_after hownI hb5
                have hbel5 := bl_trans hbelI hb5
                have hz5 := hbel5.size
                clear hownI hbelI hb5
                go_wp2_with (at_builtin; refine wpList_append_own _ rfl _ _ 154 rfl w1.heap.size 148 i0 (.int .u16 0) 1 2 Tryz.underlying154 hi0 hz0 hz1 hz2 rfl (by decide) _ _ _ rfl (hown5.alloc _) ⟨w5.heap.size, 0, none⟩ 1 1 [.int .u16 (g : Nat)] rfl rfl ?z4_1 ?z4_2 ?z4_3 ?z4_4 ?z4_5 ?_)
                (try case z4_1 => exact cell_list _ _ _)
                (try case z4_2 => (first | exact one_cell_k _ _ | rfl | (intro u hu; simp at hu; (try rcases hu with rfl | rfl) <;> (try subst hu) <;> rfl)))
                case z4_3 => (first | (simp only [maxLen]; omega) | omega)
                (try case z4_4 => omega)
                (try case z4_5 => (first | omega | (simp; omega)))
                (try case z4_2 => (first | exact one_cell_k _ _ | rfl | (intro u hu; simp at hu; (try rcases hu with rfl | rfl) <;> (try subst hu) <;> rfl)))
                intro v' wa hown' hgrow _
                have hbel1 := below_own hbel5 hown5 (by first | exact Nat.le_refl _ | omega) hgrow
                go_wp2_with fail
                go_roundw
                case rel =>
                  refine ⟨k + 1, G ++ [g], by omega, by go_num, by simp [HGL.out], HNX.out, ?_, ?_, hbel1⟩
                  · intro x hx
                    rcases List.mem_append.1 hx with hx | hx
                    · exact HG16.out x hx
                    · simp at hx; subst hx; exact hglt
                  · rw [List.length_append, show u16V (G ++ [g]) = u16V G ++ [.int .u16 (g : Nat)] by simp [u16V]]; exact hown'
                case measure => simp [intOf]; omega
          · have hbad : hex16 (bts p) = none := by
              unfold hex16
              rw [if_pos]
              have hbp := HBP.out
              by_cases q : p.size = 0
              · exact .inl (List.eq_nil_of_length_eq_zero (by omega))
              · exact .inr (by omega)
            have hnone := sideTo_bad HST.out HPM.out hbad HND.out
            rw [← HSD.out] at hnone
            have HN := Lib.hid hnone
            have hcs : decide ((p.size : Int) < 1) = true ∨ (decide ((p.size : Int) < 1) = false ∧ decide ((4 : Int) < p.size) = true) := by
              by_cases q : p.size < 1
              · exact .inl (decide_eq_true (by omega))
              · exact .inr ⟨decide_eq_false (by omega), decide_eq_true (by omega)⟩
            clear hbad hnone hlen
            rcases hcs with l1 | ⟨l1, l2⟩
            all_goals
              go_wp2_with fail
              go_ret2
              exact ⟨⟨_, _, rfl, .inl ⟨HN.out, rfl, _, _, _, rfl, by omega⟩⟩, bl_trans hbel1' hbel⟩
        · -- the piece by itself
          have HND : Hid (NotDot last (L.map bts) k (bts p)) := Lib.hid (fun h => hend ⟨h.1, by have := h.2.1; rwa [List.length_map] at this⟩)
          have e1 : ((k : Int) == (L.length : Int) - 1) = false := by simp; have : ¬ k + 1 = L.length := fun q => hend ⟨hlast, q⟩; omega
          subst hlast
          by_cases hlen : 1 ≤ p.size ∧ p.size ≤ 4
          · have l1 : decide ((p.size : Int) < 1) = false := decide_eq_false (by omega)
            have l2 : decide ((4 : Int) < p.size) = false := decide_eq_false (by omega)
            go_wp2_with fail
            go_loopw [62] (fun i wi => ∃ j : Nat, j ≤ p.size ∧ i = .int .i64 j ∧ (∀ x c, x < j → (bts p)[x]? = some c → ∃ d, hexV c = some d) ∧ Below wr.heap.size wr wi) (fun i _ => p.size - (intOf i).toNat)
            case atStart => exact ⟨0, by omega, rfl, fun x c hx => absurd hx (by omega), Below.refl _ _⟩
            case round =>
              obtain ⟨j, hj, rfl, hall, hbi⟩ := hrel
              have HALL := Lib.hid hall
              clear hall
              have hbelI := bl_trans hbel hbi
              by_cases hjl : j < p.size
              · have dj : (j : Int) < p.size := by omega
                have HD := Lib.hid (fun w => digit_c (p[j]) w)
                have hcj : (bts p)[j]? = some (p[j]) := by
                  have h' : j < p.data.toList.length := by simpa using hjl
                  show p.data.toList[j]? = _
                  rw [List.getElem?_eq_getElem h']; rfl
                have HCJ := Lib.hid hcj
                clear hcj
                generalize hcc : p[j] = c at *
                cases hv : hexV c with
                | none =>
                  have hbad : hex16 (bts p) = none := by
                    unfold hex16
                    split
                    · rfl
                    · exact hexM_bad hv 0 (List.mem_of_getElem? HCJ.out)
                  have hnone := sideTo_bad HST.out HPM.out hbad HND.out
                  rw [← HSD.out] at hnone
                  have HN := Lib.hid hnone
                  rw [hv] at HD
                  clear hbad hnone hv
                  go_wp2_with fail
                  refine (HD.out _).mono ?_
                  rintro e w5 ⟨rfl, hb5⟩
                  have hbel5 := bl_trans hbelI hb5
                  go_wp2_with fail
                  go_ret2
                  exact ⟨⟨_, _, rfl, .inl ⟨HN.out, rfl, _, _, _, rfl, by omega⟩⟩, bl_trans hbel1' hbel5⟩
                | some d =>
                  rw [hv] at HD
                  have HV := Lib.hid hv
                  clear hv
                  go_wp2_with fail
                  refine (HD.out _).mono ?_
                  rintro e w5 ⟨rfl, hb5⟩
                  have hb6 := bl_trans hbi hb5
                  go_wp2_with fail
                  go_roundw
                  case rel =>
                    refine ⟨j + 1, by omega, by go_num, fun x c' hx hc' => ?_, hb6⟩
                    rcases Nat.lt_or_ge x j with q | q
                    · exact HALL.out x c' q hc'
                    · have : x = j := by omega
                      subst this
                      have := HCJ.out
                      rw [hc'] at this
                      injection this with this
                      rw [this]; exact ⟨d, HV.out⟩
                  case measure => simp [intOf]; omega
              · obtain rfl : j = p.size := by omega
                have dj : ¬ (p.size : Int) < p.size := by omega
                obtain ⟨g, hg⟩ : ∃ g, hex16 (bts p) = some g := by
                  unfold hex16
                  have hnl : ¬ (bts p = [] ∨ 4 < (bts p).length) := by
                    have hbp := HBP.out
                    rintro (h | h)
                    · rw [h] at hbp; simp at hbp; omega
                    · omega
                  rw [if_neg hnl]
                  refine hexM_some 0 fun c hc => ?_
                  obtain ⟨x, hx, rfl⟩ := List.mem_iff_getElem.1 hc
                  exact HALL.out x _ (by rw [← HBP.out]; exact hx) (List.getElem?_eq_getElem hx)
                have HP16 := Lib.hid (fun w => puint16_c p g hg w)
                have hnext := sideTo_step HST.out HPM.out hg
                have HNX := Lib.hid hnext
                have hglt := hex16_lt hg
                have hcg : IntKind.u16.wrap (g : Int) = g := by show (g : Int) % 65536 = g; omega
                have hownI := own_after hown hbi
                clear hg hnext hown hbel hbi
                go_wp2_with fail
                refine (HP16.out _).mono ?_
                rintro e w5 ⟨rfl, hb5⟩
                have hown5 := own_after hownI hb5
                have hbel5 := bl_trans hbelI hb5
                have hz5 := hbel5.size
                clear hownI hbelI hb5
                go_wp2_with (at_builtin; refine wpList_append_own _ rfl _ _ 154 rfl w1.heap.size 148 i0 (.int .u16 0) 1 2 Tryz.underlying154 hi0 hz0 hz1 hz2 rfl (by decide) _ _ _ rfl (hown5.alloc _) ⟨w5.heap.size, 0, none⟩ 1 1 [.int .u16 (g : Nat)] rfl rfl ?z5_1 ?z5_2 ?z5_3 ?z5_4 ?z5_5 ?_)
                (try case z5_1 => exact cell_list _ _ _)
                (try case z5_2 => (first | exact one_cell_k _ _ | rfl | (intro u hu; simp at hu; (try rcases hu with rfl | rfl) <;> (try subst hu) <;> rfl)))
                case z5_3 => (first | (simp only [maxLen]; omega) | omega)
                (try case z5_4 => omega)
                (try case z5_5 => (first | omega | (simp; omega)))
                (try case z5_2 => (first | exact one_cell_k _ _ | rfl | (intro u hu; simp at hu; (try rcases hu with rfl | rfl) <;> (try subst hu) <;> rfl)))
                intro v' wa hown' hgrow _
                have hbel1 := below_own hbel5 hown5 (by first | exact Nat.le_refl _ | omega) hgrow
                go_wp2_with fail
                go_roundw
                case rel =>
                  refine ⟨k + 1, G ++ [g], by omega, by go_num, by simp [HGL.out], HNX.out, ?_, ?_, hbel1⟩
                  · intro x hx
                    rcases List.mem_append.1 hx with hx | hx
                    · exact HG16.out x hx
                    · simp at hx; subst hx; exact hglt
                  · rw [List.length_append, show u16V (G ++ [g]) = u16V G ++ [.int .u16 (g : Nat)] by simp [u16V]]; exact hown'
                case measure => simp [intOf]; omega
          · have hbad : hex16 (bts p) = none := by
              unfold hex16
              rw [if_pos]
              have hbp := HBP.out
              by_cases q : p.size = 0
              · exact .inl (List.eq_nil_of_length_eq_zero (by omega))
              · exact .inr (by omega)
            have hnone := sideTo_bad HST.out HPM.out hbad HND.out
            rw [← HSD.out] at hnone
            have HN := Lib.hid hnone
            have hcs : decide ((p.size : Int) < 1) = true ∨ (decide ((p.size : Int) < 1) = false ∧ decide ((4 : Int) < p.size) = true) := by
              by_cases q : p.size < 1
              · exact .inl (decide_eq_true (by omega))
              · exact .inr ⟨decide_eq_false (by omega), decide_eq_true (by omega)⟩
            clear hbad hnone hlen
            rcases hcs with l1 | ⟨l1, l2⟩
            all_goals
              go_wp2_with fail
              go_ret2
              exact ⟨⟨_, _, rfl, .inl ⟨HN.out, rfl, _, _, _, rfl, by omega⟩⟩, bl_trans hbel1' hbel⟩
    · obtain rfl : k = L.length := by omega
      have d1 : ¬ (L.length : Int) < L.length := by omega
      have hend := sideTo_end HST.out (by rw [List.length_map]; omega)
      rw [← HSD.out] at hend
      have HE := Lib.hid hend
      clear hend
      obtain ⟨ga, gc, rfl⟩ := own_slice hown
      go_wp2_with fail
      go_ret2
      exact ⟨⟨_, _, rfl, .inr ⟨G, HE.out, rfl, own_lower hown (Nat.le_of_lt hz1'), by omega, HG16.out⟩⟩, bl_trans hbel1' hbel⟩
end Go.Proofs.YtpfilldnfpcpkaaGreatDoor

namespace Go.Proofs.YtpfilldnfpcpkaaGreatDoor
open Go.RowKit

theorem room16 {P x d : Nat} (hP : P % 65536 = 0) (hx : x * 65536 < P) (hd : d < 65536) : x < P ∧ x * 65536 + d < P := by omega
set_option maxRecDepth 100000 in
theorem put_c (a x d base : Nat) (w : World) (hA : Blk w a 26 (AddrC true x)) (hx : x * 65536 < 340282366920938463463374607431768211456) (hd : d < 65536) (hb : base ≤ a) :
    Calls Tryz.prog 176 #[.int .u16 d, .pointer (some ⟨a, 0, none⟩)] w fun e w' => e = .returned (.tuple #[]) ∧ Blk w' a 26 (AddrC true (x*65536+d)) ∧ Below base w w' := by
  obtain ⟨hx', hsum⟩ := room16 (P := 340282366920938463463374607431768211456) (d := d) (by decide) hx hd
  have hc : IntKind.u64.wrap (d : Int) = d := by show (d : Int) % 18446744073709551616 = d; omega
  have HS := Lib.hid (fun w => shl_c (hi x) (lo x) 16 w (hi_nn _) (hi_lt _) (lo_nn _) (lo_lt _) (by omega))
  rw [num_hi_lo hx'] at HS
  have HO := Lib.hid (fun w => of_c (d : Int) w (by omega) (by omega))
  rw [Int.toNat_natCast] at HO
  have hsh : shlN x 16 < 340282366920938463463374607431768211456 := by
    have h := shl_or (x := x) (k := 16) (d := 0) hx (by omega) (by omega)
    rw [Nat.or_zero, Nat.add_zero] at h
    exact (congrArg (· < _) (h : shlN x 16 = _)).mpr hx
  have HR := Lib.hid (fun w => orn_c (shlN x 16) d w hsh (Nat.lt_trans hd (by decide)))
  have e1 : shlN x 16 ||| d = x * 65536 + d := shl_or (x := x) (k := 16) (d := d) hx (by omega) hd
  rw [e1] at HR
  obtain ⟨c0, c1, c2, _⟩ := blk_adr hA
  have z0 := hA.frozen 0
  have z1 := hA.frozen 1
  have z2 := hA.frozen 2
  have hal := hA.lt
  clear hsh e1
  go_enter Tryz.func176, Tryz.ntmps176
  go_wp2_with fail
  refine (HS.out _).mono ?_
  rintro e w1 ⟨rfl, hb1⟩
  have hA1 := hA.after hb1
  go_wp2_with fail
  refine (HO.out _).mono ?_
  rintro e w2 ⟨rfl, hb2⟩
  have hA2 := hA1.after hb2
  go_wp2_with fail
  refine (HR.out _).mono ?_
  rintro e w3 ⟨rfl, hb3⟩
  have hA3 := hA2.after hb3
  have s1 := hb1.size
  have s2 := hb2.size
  have k3 : Below base w w3 := (hb1.mono (by omega)).trans ((hb2.mono (by omega)).trans (hb3.mono (by omega)))
  clear s1 s2
  have y0 := hA3.frozen 0
  have y1 := hA3.frozen 1
  have y2 := hA3.frozen 2
  obtain ⟨d0, d1, d2, _⟩ := blk_adr hA3
  clear z0 z1 z2 c0 c1 c2
  unfold numV
  go_wp2_with fail
  go_end0
  exact ⟨rfl, (hA3.put 1 _).put 2 _, Below.setCell (Below.setCell k3 hb _) hb _⟩
theorem valG_snoc (l : List Nat) (g : Nat) : valG (l ++ [g]) = valG l * 65536 + g := by unfold valG; rw [List.foldl_append]; show 65536 * _ + g = _; omega
theorem valG_lt : ∀ (l : List Nat), (∀ g ∈ l, g < 65536) → valG l < 65536 ^ l.length := by
  have key : ∀ (l : List Nat) (a : Nat), (∀ k ∈ l, k < 65536) → l.foldl (fun a b => 65536 * a + b) a < (a + 1) * 65536 ^ l.length := by
    intro l
    induction l with
    | nil => intro a _; simp
    | cons x l ih =>
      intro a h
      have h1 := h x (by simp)
      have h2 := ih (65536 * a + x) (fun k hk => h k (by simp [hk]))
      rw [List.foldl_cons, List.length_cons, Nat.pow_succ, Nat.mul_comm (65536 ^ l.length) 65536, ← Nat.mul_assoc]
      exact Nat.lt_of_lt_of_le h2 (Nat.mul_le_mul_right _ (by omega))
  intro l h
  have := key l 0 h
  simpa [valG] using this
theorem valG_room {l : List Nat} (h : ∀ g ∈ l, g < 65536) (hl : l.length < 8) : valG l * 65536 < 340282366920938463463374607431768211456 := by
  have h1 := valG_lt l h
  have h2 : 65536 ^ l.length ≤ 65536 ^ 7 := Nat.pow_le_pow_right (by omega) (by omega)
  have h3 : valG l < 65536 ^ 7 := Nat.lt_of_lt_of_le h1 h2
  have h4 : valG l * 65536 < 65536 ^ 7 * 65536 := Nat.mul_lt_mul_of_pos_right h3 (by omega)
  exact h4
theorem own_at {w : World} {base n c : Nat} {e : TypeId} {al : Option Addr} {xs : List Value} (h : w.ownsRow base e 1 (.slice al n c) n xs) (hn : 0 < n) :
    ∃ g, al = some ⟨g, 0, none⟩ ∧ g < w.heap.size ∧ ∀ j, j < n → w.cell? ⟨g, j, none⟩ = xs[j]? := by
  rcases h.2 with ⟨hv, h0⟩ | ⟨g, cap, cur, hv, _⟩
  · omega
  · injection hv with h1 h2 h3
    subst h1 h3
    exact ⟨g, rfl, (h.lt g (by simp [Value.ownBlock])).2, fun j hj => h.cellAt j (by omega)⟩
theorem u16V_at {L : List Nat} {k : Nat} (hk : k < L.length) : (u16V L)[k]? = some (.int .u16 (L[k] : Nat)) := by unfold u16V; simp [hk]
set_option maxRecDepth 100000 in
set_option maxHeartbeats 3200000 in
theorem long6_c (vl vr : Value) (L R : List Nat) (w : World) (hL : w.ownsRow 0 148 1 vl L.length (u16V L)) (hR : w.ownsRow 0 148 1 vr R.length (u16V R)) (hl : ∀ g ∈ L, g < 65536) (hr : ∀ g ∈ R, g < 65536) (h8 : L.length + R.length ≤ 8) :
    Calls Tryz.prog 153 #[vl, vr] w fun e w' => e = .returned (AddrV true (valG (L ++ nulls (8 - (L.length + R.length)) ++ R))) ∧ Below w.heap.size w w' := by
  obtain ⟨al, cl, rfl⟩ := own_slice hL
  obtain ⟨ar, cr, rfl⟩ := own_slice hR
  have HL := Lib.hid (fun h => own_at hL h)
  have HR := Lib.hid (fun h => own_at hR h)
  have HLL := Lib.hid hl
  have HRR := Lib.hid hr
  generalize hll : L.length = nl at *
  generalize hrl : R.length = nr at *
  have HNL := Lib.hid hll
  have HNR := Lib.hid hrl
  clear hL hR hl hr hll hrl
  go_enter Tryz.func153, Tryz.ntmps153
  go_wp2_with fail
  have hA0 : Blk ((w.alloc (Obj.cells #[Value.bool false, Value.int IntKind.u64 0, Value.int IntKind.u64 0] 26)).alloc (Obj.cells #[Value.bool true, Value.int IntKind.u64 0, Value.int IntKind.u64 0] 26)) (w.heap.size + 1) 26 (AddrC true (valG [])) := Blk.new' _ _ _ _ (by simp)
  have hbel0 : Below w.heap.size w ((w.alloc (Obj.cells #[Value.bool false, Value.int IntKind.u64 0, Value.int IntKind.u64 0] 26)).alloc (Obj.cells #[Value.bool true, Value.int IntKind.u64 0, Value.int IntKind.u64 0] 26)) := bl_
  have hZ0 : Blk ((w.alloc (Obj.cells #[Value.bool false, Value.int IntKind.u64 0, Value.int IntKind.u64 0] 26)).alloc (Obj.cells #[Value.bool true, Value.int IntKind.u64 0, Value.int IntKind.u64 0] 26)) w.heap.size 26 (AddrC false 0) := (Blk.new w 26 (AddrC false 0)).alloc _
  generalize (w.alloc (Obj.cells #[Value.bool false, Value.int IntKind.u64 0, Value.int IntKind.u64 0] 26)).alloc (Obj.cells #[Value.bool true, Value.int IntKind.u64 0, Value.int IntKind.u64 0] 26) = w0 at *
  go_loopw [15] (fun i wr => ∃ k : Nat, k ≤ nl ∧ i = .int .i64 k ∧ Blk wr (w.heap.size + 1) 26 (AddrC true (valG (L.take k))) ∧ Below (w.heap.size + 1) w0 wr) (fun i _ => nl - (intOf i).toNat)
  case atStart => exact ⟨0, by omega, rfl, by simpa using hA0, Below.refl _ _⟩
  case round =>
    obtain ⟨k, hk, rfl, hA, hbw⟩ := hrel; have hbel := hbel0.trans (hbw.mono (Nat.le_succ _))
    by_cases hlt : k < nl
    · have d1 : (k : Int) < nl := by omega
      obtain ⟨g, rfl, hg, hcs⟩ := HL.out (by omega)
      have hkL : k < L.length := by rw [HNL.out]; exact hlt
      have hcell := (hbel.cell (p := ⟨g, k, none⟩) hg).trans ((hcs k hlt).trans (u16V_at hkL))
      have hd := HLL.out L[k] (List.getElem_mem hkL)
      have hT : valG (L.take k) * 65536 < 340282366920938463463374607431768211456 := valG_room (fun x hx => HLL.out x (List.mem_of_mem_take hx)) (by rw [List.length_take]; omega)
      have hT2 : valG (L.take (k + 1)) = valG (L.take k) * 65536 + L[k] := by rw [List.take_succ_eq_append_getElem hkL, valG_snoc]
      have HP := Lib.hid (put_c (w.heap.size + 1) (valG (L.take k)) L[k] (w.heap.size + 1) _ hA hT hd (Nat.le_refl _))
      rw [← hT2] at HP
      generalize L[k] = x at *
      clear hT hT2 hcs hkL
      go_wp2_with fail
      refine HP.out.mono ?_
      rintro e w1 ⟨rfl, hA1, hb1⟩
      go_wp2_with fail
      go_roundw
      case rel => exact ⟨k + 1, by omega, by go_num, hA1, hbw.trans hb1⟩
      case measure => simp [intOf]; omega
    · obtain rfl : k = nl := by omega
      have d1 : ¬ (k : Int) < k := by omega
      go_wp2_with fail
      rw [List.take_of_length_le (by rw [HNL.out]; exact Nat.le_refl _)] at hA
      have hA' : Blk wr (w.heap.size + 1) 26 (AddrC true (valG (L ++ nulls 0))) := by rw [show nulls 0 = [] from rfl, List.append_nil]; exact hA
      clear hA HL hA0 hlt d1 hk
      go_loopw [29] (fun i wr => ∃ j : Nat, (j : Int) ≤ 8 - k - nr ∧ i = .int .i64 j ∧ Blk wr (w.heap.size + 1) 26 (AddrC true (valG (L ++ nulls j))) ∧ Below (w.heap.size + 1) w0 wr) (fun i _ => 8 - (intOf i).toNat)
      case atStart => exact ⟨0, by omega, rfl, hA', hbw⟩
      case round =>
        clear hA' hbel hbw
        obtain ⟨j, hj, rfl, hA, hbw⟩ := hrel; have hbel := hbel0.trans (hbw.mono (Nat.le_succ _))
        by_cases hlt : (j : Int) < 8 - k - nr
        · have hT : valG (L ++ nulls j) * 65536 < 340282366920938463463374607431768211456 := valG_room (fun x hx => by
            rcases List.mem_append.1 hx with q | q
            · exact HLL.out x q
            · have := List.eq_of_mem_replicate q; omega) (by rw [List.length_append, HNL.out]; unfold nulls; rw [List.length_replicate]; omega)
          have hT2 : valG (L ++ nulls (j + 1)) = valG (L ++ nulls j) * 65536 + 0 := by rw [show nulls (j + 1) = nulls j ++ [0] from List.replicate_succ', ← List.append_assoc, valG_snoc]
          have HP := Lib.hid (put_c (w.heap.size + 1) (valG (L ++ nulls j)) 0 (w.heap.size + 1) _ hA hT (by omega) (Nat.le_refl _))
          rw [← hT2] at HP
          clear hT hT2
          go_wp2_with fail
          refine HP.out.mono ?_
          rintro e w1 ⟨rfl, hA1, hb1⟩
          go_wp2_with fail
          go_roundw
          case rel => exact ⟨j + 1, by omega, by go_num, hA1, hbw.trans hb1⟩
          case measure => simp [intOf]; omega
        · obtain rfl : j = 8 - (k + nr) := by omega
          have hA' : Blk wr (w.heap.size + 1) 26 (AddrC true (valG (L ++ nulls (8 - (k + nr)) ++ R.take 0))) := by rw [List.take_zero, List.append_nil]; exact hA
          have HN : Hid ((L ++ nulls (8 - (k + nr))).length + nr = 8) := Lib.hid (by rw [List.length_append, HNL.out]; unfold nulls; rw [List.length_replicate]; omega)
          have HG : Hid (∀ g ∈ L ++ nulls (8 - (k + nr)), g < 65536) := Lib.hid (fun x hx => by
            rcases List.mem_append.1 hx with q | q
            · exact HLL.out x q
            · have := List.eq_of_mem_replicate q; omega)
          have HJ := Lib.hid hj
          clear hA hj
          generalize hM : L ++ nulls (8 - (k + nr)) = M at *
          have HM := Lib.hid hM
          clear hM
          go_wp2_with fail
          go_loopw [36] (fun i wr => ∃ q : Nat, q ≤ nr ∧ i = .int .i64 q ∧ Blk wr (w.heap.size + 1) 26 (AddrC true (valG (M ++ R.take q))) ∧ Below (w.heap.size + 1) w0 wr) (fun i _ => nr - (intOf i).toNat)
          case atStart => exact ⟨0, by omega, rfl, hA', hbw⟩
          case round =>
            clear hA' hbel hbw
            obtain ⟨q, hq, rfl, hA, hbw⟩ := hrel; have hbel := hbel0.trans (hbw.mono (Nat.le_succ _))
            by_cases hlt : q < nr
            · have d1 : (q : Int) < nr := by omega
              obtain ⟨g, rfl, hg, hcs⟩ := HR.out (by omega)
              have hkR : q < R.length := by rw [HNR.out]; exact hlt
              have hcell := (hbel.cell (p := ⟨g, q, none⟩) hg).trans ((hcs q hlt).trans (u16V_at hkR))
              have hd := HRR.out R[q] (List.getElem_mem hkR)
              have hT : valG (M ++ R.take q) * 65536 < 340282366920938463463374607431768211456 := valG_room (fun x hx => by
                rcases List.mem_append.1 hx with z | z
                · exact HG.out x z
                · exact HRR.out x (List.mem_of_mem_take z)) (by have := HN.out; rw [List.length_append, List.length_take]; omega)
              have hT2 : valG (M ++ R.take (q + 1)) = valG (M ++ R.take q) * 65536 + R[q] := by rw [List.take_succ_eq_append_getElem hkR, ← List.append_assoc, valG_snoc]
              have HP := Lib.hid (put_c (w.heap.size + 1) (valG (M ++ R.take q)) R[q] (w.heap.size + 1) _ hA hT hd (Nat.le_refl _))
              rw [← hT2] at HP
              generalize R[q] = x at *
              clear hT hT2 hcs hkR
              go_wp2_with fail
              refine HP.out.mono ?_
              rintro e w1 ⟨rfl, hA1, hb1⟩
              go_wp2_with fail
              go_roundw
              case rel => exact ⟨q + 1, by omega, by go_num, hA1, hbw.trans hb1⟩
              case measure => simp [intOf]; omega
            · obtain rfl : q = nr := by omega
              have d1 : ¬ (q : Int) < q := by omega
              rw [List.take_of_length_le (by rw [HNR.out]; exact Nat.le_refl _)] at hA
              generalize hV : valG (M ++ R) = V at *
              have HV := Lib.hid hV
              clear hV
              obtain ⟨c0, c1, c2, _⟩ := blk_adr hA
              have hZ : Blk wr w.heap.size 26 (AddrC false 0) := hZ0.below hbw (Nat.lt_succ_self _)
              obtain ⟨e0, e1, e2, _⟩ := blk_adr hZ
              have z0 := hZ.frozen 0
              have z1 := hZ.frozen 1
              have z2 := hZ.frozen 2
              clear HR HNR HLL HRR HG HN HJ
              go_wp2_with fail
              have hv : AddrV true (valG (M ++ R)) = .agg #[.bool true, .int .u64 (hi V), .int .u64 (lo V)] := by rw [HV.out]; rfl
              refine bodyPost_ret (v := .agg #[.bool true, .int .u64 (hi V), .int .u64 (lo V)]) (results_cell_row (t := 26) Tryz.results153 _ _ w.heap.size _ (0, 0) _ rfl (((hZ.put 0 _).put 1 _).put 2 _) Tryz.underlying26 rfl (by kernel_rfl)) rfl ⟨by rw [← hv, ← HM.out, List.append_assoc], bl_⟩
end Go.Proofs.YtpfilldnfpcpkaaGreatDoor

namespace Go.Proofs.YtpfilldnfpcpkaaGreatDoor
open Go.RowKit

theorem cutL_size : ∀ l : List UInt8, (cutL l).1.length ≤ l.length ∧ (cutL l).2.1.length ≤ l.length
  | [] => by simp [cutL]
  | x :: r => by
    have ih := cutL_size r
    rw [cutL]
    split
    · simp; omega
    · split
      · simp; omega
      · simp
/-- what the reading of an address answers -/
def parseV : Option (Bool × Nat) → Value
  | some (v, n) => .tuple #[AddrV v n, .int .i64 0]
  | none => .tuple #[AddrV false 0, .int .i64 4]
def joinP (cut : Bool) : Option (List Nat) → Option (List Nat) → Option (Bool × Nat)
  | some l, some r => if (cut = true ∧ l.length + r.length ≤ 7) ∨ (cut = false ∧ l.length + r.length = 8) then some (true, valG (l ++ nulls (8 - l.length - r.length) ++ r)) else none
  | _, _ => none
theorem parseA_join {s : List UInt8} (h : (58 : UInt8) ∈ s) : parseA s = joinP (cutL s).2.2 (side (!(cutL s).2.2) (cutL s).1) (side true (cutL s).2.1) := by
  unfold parseA; rw [if_pos h]
  cases side (!(cutL s).2.2) (cutL s).1 <;> cases side true (cutL s).2.1 <;> rfl
theorem joinP_some (cut : Bool) (l r : List Nat) : joinP cut (some l) (some r) = if (cut = true ∧ l.length + r.length ≤ 7) ∨ (cut = false ∧ l.length + r.length = 8) then some (true, valG (l ++ nulls (8 - l.length - r.length) ++ r)) else none := rfl
theorem hi_zero : hi 0 = 0 := rfl
theorem lo_zero : lo 0 = 0 := rfl
theorem bts_mk (l : List UInt8) : bts ⟨l.toArray⟩ = l := by simp [bts]
set_option maxRecDepth 100000 in
set_option maxHeartbeats 3200000 in
theorem parse_c (s : ByteArray) (w : World) (hs : s.size ≤ 1000000) (hG : Glob w) :
    Calls Tryz.prog 112 #[.string s] w fun e w' => e = .returned (parseV (parseA (bts s))) ∧ Below w.heap.size w w' := by
  have HH := Lib.hid (fun w => has_c s 58 w)
  by_cases h58 : (58 : UInt8) ∈ bts s
  · have d58 : decide ((58 : UInt8) ∈ bts s) = true := by simp [h58]
    rw [d58] at HH
    obtain ⟨m, hm⟩ := hG.max
    have HC := Lib.hid (fun w (hG : Glob w) => hG.max.elim fun m hm => Tryz.strings_Cut s ⟨#[58, 58]⟩ m w (by omega) hm)
    have hcut : Lib.cut s.data.toList (ByteArray.mk #[58, 58]).data.toList = cutL (bts s) := cut_eq _
    rw [hcut] at HC
    have hsz := cutL_size (bts s)
    have hbl : (bts s).length = s.size := by simp [bts]
    have hP := parseA_join h58
    rw [hP]
    clear hP hcut
    generalize (cutL (bts s)).1 = p at *
    generalize (cutL (bts s)).2.1 = q at *
    generalize (cutL (bts s)).2.2 = cut at *
    have HS1 := Lib.hid (fun w hG => side_c ⟨p.toArray⟩ (!cut) w (by show p.toArray.size ≤ _; rw [List.size_toArray]; omega) hG)
    have HS2 := Lib.hid (fun w hG => side_c ⟨q.toArray⟩ true w (by show q.toArray.size ≤ _; rw [List.size_toArray]; omega) hG)
    rw [bts_mk] at HS1 HS2
    clear hsz hbl hm
    go_enter Tryz.func112, Tryz.ntmps112
    go_wp2_with fail
    refine (HH.out _).mono ?_
    rintro e w1 ⟨rfl, rfl⟩
    have hR1 : Blk (w.alloc (Obj.cells #[Value.bool false, Value.int IntKind.u64 0, Value.int IntKind.u64 0] 26)) w.heap.size 26 (AddrC false 0) := Blk.new w 26 (AddrC false 0)
    have hG1 : Glob (w.alloc (Obj.cells #[Value.bool false, Value.int IntKind.u64 0, Value.int IntKind.u64 0] 26)) := hG.after bl_
    have hbel1 : Below w.heap.size w (w.alloc (Obj.cells #[Value.bool false, Value.int IntKind.u64 0, Value.int IntKind.u64 0] 26)) := bl_
    have hsz1 : w.heap.size < (w.alloc (Obj.cells #[Value.bool false, Value.int IntKind.u64 0, Value.int IntKind.u64 0] 26)).heap.size := by simp
    generalize w.alloc (Obj.cells #[Value.bool false, Value.int IntKind.u64 0, Value.int IntKind.u64 0] 26) = w1 at *
    clear HH hG d58
    go_wp2_with fail
    refine (HC.out _ hG1).mono ?_
    rintro e w2 ⟨rfl, kd, rfl⟩
    have hR2 : Blk (w1.drewN kd) w.heap.size 26 (AddrC false 0) := hR1
    have hb1 : Below w1.heap.size w1 (w1.drewN kd) := bl_
    have hG2 : Glob (w1.drewN kd) := hG1.after hb1
    have hbel2 := bl_trans hbel1 hb1
    have hsz2 : w.heap.size < (w1.drewN kd).heap.size := hsz1
    generalize w1.drewN kd = w2 at *
    clear hR1 hG1 hbel1 hsz1 hb1 HC
    go_wp2_with fail
    refine (HS1.out _ hG2).mono ?_
    rintro e w3 ⟨⟨v1, ok1, rfl, hv1⟩, hb3⟩
    have hR3 := hR2.after hb3
    have hG3 := hG2.after hb3
    have hbel3 := bl_trans hbel2 hb3
    have hsz3 : w2.heap.size ≤ w3.heap.size := hb3.size
    clear HS1
    go_wp2_with fail
    refine (HS2.out _ hG3).mono ?_
    rintro e w4 ⟨⟨v2, ok2, rfl, hv2⟩, hb4⟩
    have hR4 := hR3.after hb4
    have hbel4 := bl_trans hbel3 hb4
    have hsz4 : w3.heap.size ≤ w4.heap.size := hb4.size
    clear HS2 hG2 hG3 hR2 hR3
    obtain ⟨c0, c1, c2, _⟩ := blk_adr hR4
    have z0 := hR4.frozen 0
    have z1 := hR4.frozen 1
    have z2 := hR4.frozen 2
    rcases hv1 with ⟨hs1, rfl, a1, n1, k1, rfl, hn1⟩ | ⟨G1, hs1, rfl, hown1, hl1, hg1⟩
    · obtain ⟨a2, n2, k2, rfl, hn2⟩ : ∃ a2 n2 k2, v2 = .slice a2 n2 k2 ∧ n2 ≤ 1000010 := by
        rcases hv2 with ⟨_, _, h⟩ | ⟨G2, _, _, h, h2, _⟩
        · exact h
        · obtain ⟨a, c, rfl⟩ := own_slice h
          exact ⟨a, _, c, rfl, h2⟩
      have hj : joinP cut (side (!cut) p) (side true q) = none := by rw [hs1]; rfl
      have HJ := Lib.hid hj
      clear hj hs1 hv2
      go_wp2_with fail
      obtain ⟨r0, r1, r2, _⟩ := blk_adr (v := false) (n := 0) (((hR4.put 0 (.bool false)).put 1 (.int .u64 0)).put 2 (.int .u64 0))
      refine bodyPost_ret (v := .tuple #[.agg #[.bool false, .int .u64 0, .int .u64 0], .int .i64 4]) (by simp [results, Tryz.results112, go_sem, r0, r1, r2, hi_zero, lo_zero]) rfl ⟨by rw [HJ.out]; rfl, bl_⟩
    rcases hv2 with ⟨hs2, rfl, a2, n2, k2, rfl, hn2⟩ | ⟨G2, hs2, rfl, hown2, hl2, hg2⟩
    · obtain ⟨a1, k1, rfl⟩ := own_slice hown1
      have hj : joinP cut (side (!cut) p) (side true q) = none := by rw [hs2]; unfold joinP; cases side (!cut) p <;> rfl
      have HJ := Lib.hid hj
      clear hj hs1 hs2 hown1
      generalize G1.length = n1 at *
      go_wp2_with fail
      obtain ⟨r0, r1, r2, _⟩ := blk_adr (v := false) (n := 0) (((hR4.put 0 (.bool false)).put 1 (.int .u64 0)).put 2 (.int .u64 0))
      refine bodyPost_ret (v := .tuple #[.agg #[.bool false, .int .u64 0, .int .u64 0], .int .i64 4]) (by simp [results, Tryz.results112, go_sem, r0, r1, r2, hi_zero, lo_zero]) rfl ⟨by rw [HJ.out]; rfl, bl_⟩
    have ho1 := own_lower (own_after hown1 hb4) (Nat.zero_le _)
    have ho2 := own_lower hown2 (Nat.zero_le _)
    by_cases hc : (cut = true ∧ G1.length + G2.length ≤ 7) ∨ (cut = false ∧ G1.length + G2.length = 8)
    · have h8 : G1.length + G2.length ≤ 8 := by omega
      have HL := Lib.hid (long6_c v1 v2 G1 G2 w4 ho1 ho2 hg1 hg2 h8)
      obtain ⟨a1, k1, rfl⟩ := own_slice hown1
      obtain ⟨a2, k2, rfl⟩ := own_slice hown2
      have hj : joinP cut (side (!cut) p) (side true q) = some (true, valG (G1 ++ nulls (8 - (G1.length + G2.length)) ++ G2)) := by rw [hs1, hs2, joinP_some, if_pos hc, Nat.sub_sub]
      have HJ := Lib.hid hj
      clear hj hown1 hown2 ho1 ho2 hg1 hg2 hs1 hs2
      generalize valG (G1 ++ nulls (8 - (G1.length + G2.length)) ++ G2) = V at *
      generalize G1.length = n1 at *
      generalize G2.length = n2 at *
      rcases hc with ⟨rfl, hc⟩ | ⟨rfl, hc⟩
      · have hd : ¬ (8 ≤ (n1 : Int) + n2) := by omega
        go_wp2_with fail
        refine HL.out.mono ?_
        rintro e w5 ⟨rfl, hb5⟩
        have hR5 := hR4.after hb5
        have hbel5 := bl_trans hbel4 hb5
        obtain ⟨d0, d1, d2, _⟩ := blk_adr hR5
        have y0 := hR5.frozen 0
        have y1 := hR5.frozen 1
        have y2 := hR5.frozen 2
        clear c0 c1 c2 z0 z1 z2
        rw [AddrV_eq]
        unfold AddrC
        go_wp2_with fail
        obtain ⟨r0, r1, r2, _⟩ := blk_adr (v := true) (n := V) (((hR5.put 0 (.bool true)).put 1 (.int .u64 (hi V))).put 2 (.int .u64 (lo V)))
        refine bodyPost_ret (v := .tuple #[AddrV true V, .int .i64 0]) (by unfold AddrV; simp [results, Tryz.results112, go_sem, r0, r1, r2]) rfl ⟨by rw [HJ.out]; rfl, bl_⟩
      · have hd : (n1 : Int) + n2 = 8 := by omega
        go_wp2_with fail
        refine HL.out.mono ?_
        rintro e w5 ⟨rfl, hb5⟩
        have hR5 := hR4.after hb5
        have hbel5 := bl_trans hbel4 hb5
        obtain ⟨d0, d1, d2, _⟩ := blk_adr hR5
        have y0 := hR5.frozen 0
        have y1 := hR5.frozen 1
        have y2 := hR5.frozen 2
        clear c0 c1 c2 z0 z1 z2
        rw [AddrV_eq]
        unfold AddrC
        go_wp2_with fail
        obtain ⟨r0, r1, r2, _⟩ := blk_adr (v := true) (n := V) (((hR5.put 0 (.bool true)).put 1 (.int .u64 (hi V))).put 2 (.int .u64 (lo V)))
        refine bodyPost_ret (v := .tuple #[AddrV true V, .int .i64 0]) (by unfold AddrV; simp [results, Tryz.results112, go_sem, r0, r1, r2]) rfl ⟨by rw [HJ.out]; rfl, bl_⟩
    · obtain ⟨a1, k1, rfl⟩ := own_slice hown1
      obtain ⟨a2, k2, rfl⟩ := own_slice hown2
      have hj : joinP cut (side (!cut) p) (side true q) = none := by rw [hs1, hs2, joinP_some, if_neg hc]
      have HJ := Lib.hid hj
      clear hj hown1 hown2 ho1 ho2 hg1 hg2 hs1 hs2
      generalize G1.length = n1 at *
      generalize G2.length = n2 at *
      cases cut
      · have hd : ¬ ((n1 : Int) + n2 = 8) := by simp at hc; omega
        go_wp2_with fail
        obtain ⟨r0, r1, r2, _⟩ := blk_adr (v := false) (n := 0) (((hR4.put 0 (.bool false)).put 1 (.int .u64 0)).put 2 (.int .u64 0))
        refine bodyPost_ret (v := .tuple #[.agg #[.bool false, .int .u64 0, .int .u64 0], .int .i64 4]) (by simp [results, Tryz.results112, go_sem, r0, r1, r2, hi_zero, lo_zero]) rfl ⟨by rw [HJ.out]; rfl, bl_⟩
      · have hd : 8 ≤ (n1 : Int) + n2 := by simp at hc; omega
        go_wp2_with fail
        obtain ⟨r0, r1, r2, _⟩ := blk_adr (v := false) (n := 0) (((hR4.put 0 (.bool false)).put 1 (.int .u64 0)).put 2 (.int .u64 0))
        refine bodyPost_ret (v := .tuple #[.agg #[.bool false, .int .u64 0, .int .u64 0], .int .i64 4]) (by simp [results, Tryz.results112, go_sem, r0, r1, r2, hi_zero, lo_zero]) rfl ⟨by rw [HJ.out]; rfl, bl_⟩
  · have d58 : decide ((58 : UInt8) ∈ bts s) = false := by simp [h58]
    rw [d58] at HH
    have H4 := Lib.hid (fun w hG => parse4_c s w hs hG)
    have hP : parseA (bts s) = (four (pieces 46 (bts s))).map fun t => (false, valB t) := by unfold parseA; rw [if_neg h58]
    rw [hP]
    clear hP
    unfold fourV at H4
    cases h4 : four (pieces 46 (bts s)) with
    | none =>
      rw [h4] at H4
      clear h4
      go_enter Tryz.func112, Tryz.ntmps112
      go_wp2_with fail
      refine (HH.out _).mono ?_
      rintro e w1 ⟨rfl, rfl⟩
      have hR1 : Blk (w.alloc (Obj.cells #[Value.bool false, Value.int IntKind.u64 0, Value.int IntKind.u64 0] 26)) w.heap.size 26 (AddrC false 0) := Blk.new w 26 (AddrC false 0)
      have hG1 : Glob (w.alloc (Obj.cells #[Value.bool false, Value.int IntKind.u64 0, Value.int IntKind.u64 0] 26)) := hG.after bl_
      have hbel1 : Below w.heap.size w (w.alloc (Obj.cells #[Value.bool false, Value.int IntKind.u64 0, Value.int IntKind.u64 0] 26)) := bl_
      have hsz1 : w.heap.size < (w.alloc (Obj.cells #[Value.bool false, Value.int IntKind.u64 0, Value.int IntKind.u64 0] 26)).heap.size := by simp
      generalize w.alloc (Obj.cells #[Value.bool false, Value.int IntKind.u64 0, Value.int IntKind.u64 0] 26) = w1 at *
      clear HH hG d58
      go_wp2_with fail
      refine (H4.out _ hG1).mono ?_
      rintro e w2 ⟨rfl, hb2⟩
      have hR2 := hR1.after hb2
      have hbel2 := bl_trans hbel1 hb2
      obtain ⟨c0, c1, c2, _⟩ := blk_adr hR2
      have z0 := hR2.frozen 0
      have z1 := hR2.frozen 1
      have z2 := hR2.frozen 2
      go_wp2_with fail
      obtain ⟨r0, r1, r2, _⟩ := blk_adr (v := false) (n := 0) (((hR2.put 0 (.bool false)).put 1 (.int .u64 0)).put 2 (.int .u64 0))
      refine bodyPost_ret (v := .tuple #[.agg #[.bool false, .int .u64 0, .int .u64 0], .int .i64 4]) (by simp [results, Tryz.results112, go_sem, r0, r1, r2, hi_zero, lo_zero]) rfl ⟨rfl, bl_⟩
    | some t =>
      rw [h4] at H4
      obtain ⟨t4, t5⟩ := four_lt h4
      have hv := valB_lt t (fun k hk => by have := t5 k hk; omega)
      rw [t4] at hv
      have HV := Lib.hid (fun w => v4_c (valB t) w hv)
      clear h4 t4 t5
      go_enter Tryz.func112, Tryz.ntmps112
      go_wp2_with fail
      refine (HH.out _).mono ?_
      rintro e w1 ⟨rfl, rfl⟩
      have hR1 : Blk (w.alloc (Obj.cells #[Value.bool false, Value.int IntKind.u64 0, Value.int IntKind.u64 0] 26)) w.heap.size 26 (AddrC false 0) := Blk.new w 26 (AddrC false 0)
      have hG1 : Glob (w.alloc (Obj.cells #[Value.bool false, Value.int IntKind.u64 0, Value.int IntKind.u64 0] 26)) := hG.after bl_
      have hbel1 : Below w.heap.size w (w.alloc (Obj.cells #[Value.bool false, Value.int IntKind.u64 0, Value.int IntKind.u64 0] 26)) := bl_
      have hsz1 : w.heap.size < (w.alloc (Obj.cells #[Value.bool false, Value.int IntKind.u64 0, Value.int IntKind.u64 0] 26)).heap.size := by simp
      generalize w.alloc (Obj.cells #[Value.bool false, Value.int IntKind.u64 0, Value.int IntKind.u64 0] 26) = w1 at *
      clear HH hG d58
      go_wp2_with fail
      refine (H4.out _ hG1).mono ?_
      rintro e w2 ⟨rfl, hb2⟩
      have hR2 := hR1.after hb2
      have hbel2 := bl_trans hbel1 hb2
      go_wp2_with fail
      refine (HV.out _).mono ?_
      rintro e w3 ⟨rfl, hb3⟩
      have hR3 := hR2.after hb3
      have hbel3 := bl_trans hbel2 hb3
      obtain ⟨c0, c1, c2, _⟩ := blk_adr hR3
      have z0 := hR3.frozen 0
      have z1 := hR3.frozen 1
      have z2 := hR3.frozen 2
      rw [AddrV_eq]
      unfold AddrC
      go_wp2_with fail
      obtain ⟨r0, r1, r2, _⟩ := blk_adr (v := false) (n := valB t) (((hR3.put 0 (.bool false)).put 1 (.int .u64 (hi (valB t)))).put 2 (.int .u64 (lo (valB t))))
      refine bodyPost_ret (v := .tuple #[AddrV false (valB t), .int .i64 0]) (by unfold AddrV; simp [results, Tryz.results112, go_sem, r0, r1, r2]) rfl ⟨rfl, bl_⟩
end Go.Proofs.YtpfilldnfpcpkaaGreatDoor

namespace Go.Proofs.YtpfilldnfpcpkaaGreatDoor
open Go.RowKit

/-- numbers as whole numbers -/
def ints (l : List Nat) : List Int := l.map Int.ofNat
theorem ints_len (l : List Nat) : (ints l).length = l.length := by simp [ints]
theorem ints_snoc (l : List Nat) (n : Nat) : ints (l ++ [n]) = ints l ++ [(n : Int)] := by simp [ints]
/-- numbers of bytes as a text -/
def txt (l : List Nat) : ByteArray := strOfNums (ints l)
theorem bts_txt (l : List Nat) : bts (txt l) = l.map UInt8.ofNat := by
  unfold bts txt
  rw [strOfNums_data]
  unfold ints
  rw [List.map_map]
  apply List.map_congr_left
  intro n _
  simp
theorem bytesB_at {k n t : Nat} (ht : t < k) : (bytesB k n)[t]? = some (n / 256 ^ (k - 1 - t) % 256) := by unfold bytesB; simp [ht]
theorem bytesB_len (k n : Nat) : (bytesB k n).length = k := by unfold bytesB; simp
theorem byte_lo (n k : Nat) : IntKind.u8.wrap (lo (n / 2 ^ (8 * k))) = ((n / 256 ^ k % 256 : Nat) : Int) := by
  rw [Nat.pow_mul]
  show lo _ % 256 = _
  unfold lo
  rw [show (2 : Nat) ^ 8 = 256 by decide]
  generalize n / 256 ^ k = x
  omega
def byteN (v6 : Bool) : Nat := if v6 then 16 else 4
theorem byteN_w (v6 : Bool) : widthN v6 = 8 * byteN v6 := by cases v6 <;> rfl
theorem conv_own {w : World} {base : Nat} {v : Value} {l : List Int} (h : w.ownsRow base 5 1 v l.length (bytesV l)) :
    (convert 166 9 v).run Tryz.prog w = Result.ok (Value.string (strOfNums l)) w := by
  rcases Nat.eq_zero_or_pos l.length with h0 | h0
  · have : l = [] := List.eq_nil_of_length_eq_zero h0
    subst this
    rcases h.2 with ⟨rfl, _⟩ | ⟨g, cap, cur, rfl, _⟩
    · exact run_convert_bytes_nil w _ _ Tryz.underlying166 Tryz.underlying5 0 0 _ Tryz.underlying9
    · exact run_convert_bytes_arg w _ _ Tryz.underlying166 Tryz.underlying5 g 0 0 cap [] rfl (fun i hi => absurd hi (by omega)) _ Tryz.underlying9
  · obtain ⟨g, cap, rfl, _, _, _, hc, _⟩ := own_form h h0
    exact run_convert_bytes_arg w _ _ Tryz.underlying166 Tryz.underlying5 g 0 l.length cap l rfl (fun i hi => by rw [Nat.zero_add]; exact hc i _ (get_bytes hi)) _ Tryz.underlying9
set_option maxRecDepth 100000 in
set_option maxHeartbeats 3200000 in
theorem bytes_c (v6 : Bool) (n : Nat) (w : World) (hn : n < 340282366920938463463374607431768211456) (hr : rightB v6 n = true) :
    Calls Tryz.prog 157 #[AddrV v6 n] w fun e w' => e = .returned (.string (txt (bytesB (byteN v6) n))) ∧ Below w.heap.size w w' := by
  have HR := Lib.hid (fun w => right_c v6 n w hn)
  rw [hr] at HR
  have HW := Lib.hid (fun w => width_c v6 n w)
  rw [byteN_w] at HW
  obtain ⟨i0, hi0, hz0, hz1, hz2⟩ := info_parts info_u8
  have hb4 : 4 ≤ byteN v6 ∧ byteN v6 ≤ 16 := by cases v6 <;> decide
  have HB := Lib.hid (fun t (ht : t < byteN v6) => bytesB_at (n := n) ht)
  rw [AddrV_eq] at *
  unfold AddrC at *
  generalize byteN v6 = kb at *
  go_enter Tryz.func157, Tryz.ntmps157
  go_wp2_with fail
  have hA : Blk (w.alloc (.cells #[.bool v6, .int .u64 (hi n), .int .u64 (lo n)] 26)) w.heap.size 26 (AddrC v6 n) := Blk.new _ _ _
  have hbel : Below w.heap.size w (w.alloc (.cells #[.bool v6, .int .u64 (hi n), .int .u64 (lo n)] 26)) := bl_
  generalize w.alloc (.cells #[.bool v6, .int .u64 (hi n), .int .u64 (lo n)] 26) = w0 at *
  refine (HR.out _).mono ?_
  rintro e w1 ⟨rfl, hb1⟩
  have hA1 := hA.after hb1
  obtain ⟨c0, c1, c2, _⟩ := blk_adr hA1
  have hbel1 := bl_trans hbel hb1
  clear hA hbel hb1
  go_wp2_with fail
  refine (HW.out _).mono ?_
  rintro e w2 ⟨rfl, hb2⟩
  have hA2 := hA1.after hb2
  have hbel2 := bl_trans hbel1 hb2
  clear hA1 hbel1 hb2 c0 c1 c2
  go_wp2_with fail
  have HSH := Lib.hid (fun k w (hk : (0:Int) ≤ k) => shr_c (hi n) (lo n) k w (hi_nn _) (hi_lt _) (lo_nn _) (lo_lt _) (by omega))
  rw [num_hi_lo hn] at HSH
  go_loopw [3, 4] (fun b i wr => ∃ t : Nat, t ≤ kb ∧ i = .int .i64 (8 * (kb : Int) - 8 - 8 * t) ∧ wr.ownsRow w2.heap.size 5 1 b t (bytesV (ints ((bytesB kb n).take t))) ∧ Below w2.heap.size w2 wr) (fun _ i _ => (intOf i + 8).toNat)
  case atStart => exact ⟨0, by omega, by go_num, World.ownsRow_nil _ _ _ _, Below.refl _ _⟩
  case round =>
    obtain ⟨t, ht, rfl, hown, hbel⟩ := hrel
    have hA3 := hA2.after hbel
    obtain ⟨c0, c1, c2, _⟩ := blk_adr hA3
    have hz := hbel.size
    by_cases hlt : t < kb
    · have d1 : 0 ≤ 8 * (kb : Int) - 8 - 8 * t := by omega
      have hbt : ints ((bytesB kb n).take (t + 1)) = ints ((bytesB kb n).take t) ++ [((n / 256 ^ (kb - 1 - t) % 256 : Nat) : Int)] := by
        have hl : t < (bytesB kb n).length := by rw [bytesB_len]; exact hlt
        have := HB.out t hlt
        rw [List.getElem?_eq_getElem hl] at this
        injection this with this
        rw [List.take_succ_eq_append_getElem hl, ints_snoc, this]
      have HBT := Lib.hid hbt
      have HSS := Lib.hid (fun w => HSH.out (8 * (kb : Int) - 8 - 8 * t) w d1)
      have hsh : shrN n (8 * (kb : Int) - 8 - 8 * t) = n / 2 ^ (8 * (kb - 1 - t)) := by
        rw [show 8 * (kb : Int) - 8 - 8 * t = ((8 * (kb - 1 - t) : Nat) : Int) by omega]
        exact shrN_nat (by omega) hn
      rw [hsh] at HSS
      have hby := byte_lo n (kb - 1 - t)
      unfold numV at HSS
      generalize n / 2 ^ (8 * (kb - 1 - t)) = x at *
      generalize n / 256 ^ (kb - 1 - t) % 256 = y at *
      have hfd : ∀ w : World, (Instr.field 24 (.agg #[.int .u64 (hi x), .int .u64 (lo x)]) 1).run Tryz.prog w = .ok (.int .u64 (lo x)) w := fun _ => by kernel_rfl
      clear hbt hsh
      go_wp2_with fail
      refine (HSS.out _).mono ?_
      rintro e w3 ⟨rfl, hb3⟩
      have hown3 := own_after hown hb3
      have hbel3 := bl_trans hbel hb3
      have hz3 := hbel3.size
      clear hown hbel c0 c1 c2 hA3 hz hb3
      go_wp2_with (at_builtin; refine wpList_append_own _ rfl _ _ 166 rfl w2.heap.size 5 i0 (.int .u8 0) 1 1 Tryz.underlying166 hi0 hz0 hz1 hz2 rfl (by decide) _ _ _ rfl (hown3.alloc _) ⟨w3.heap.size, 0, none⟩ 1 1 [.int .u8 (y : Int)] rfl rfl ?z1_1 ?z1_2 ?z1_3 ?z1_4 ?z1_5 ?_)
      (try case z1_1 => exact cell_list _ _ _)
      (try case z1_2 => (first | exact one_cell_k _ _ | rfl | (intro u hu; simp at hu; (try rcases hu with rfl | rfl) <;> (try subst hu) <;> rfl)))
      case z1_3 => (first | (simp only [maxLen]; omega) | omega)
      (try case z1_4 => omega)
      (try case z1_5 => (first | omega | (simp; omega)))
      (try case z1_2 => (first | exact one_cell_k _ _ | rfl | (intro u hu; simp at hu; (try rcases hu with rfl | rfl) <;> (try subst hu) <;> rfl)))
      intro v' wa hown' hgrow _
      have hbel1 := below_own hbel3 hown3 (by first | exact Nat.le_refl _ | omega) hgrow
      go_wp2_with fail
      go_roundw
      case rel => exact ⟨t + 1, by omega, by go_num, by rw [HBT.out, bytesV_snoc]; exact hown', hbel1⟩
      case measure => simp [intOf]; omega
    · obtain rfl : t = kb := by omega
      have d1 : ¬ 0 ≤ 8 * (t : Int) - 8 - 8 * t := by omega
      rw [List.take_of_length_le (by rw [bytesB_len]; exact Nat.le_refl _)] at hown
      have hconv := conv_own (l := ints (bytesB t n)) (by rw [ints_len, bytesB_len]; exact hown)
      go_wp2_with fail
      go_ret
      exact ⟨rfl, bl_trans hbel2 hbel⟩
end Go.Proofs.YtpfilldnfpcpkaaGreatDoor

namespace Go.Proofs.YtpfilldnfpcpkaaGreatDoor
open Go.RowKit

set_option maxRecDepth 20000 in
theorem tz64_16 (w : World) (hG : Glob w) :
    Calls Tryz.prog 165 #[.int .u64 16] w fun e w' => e = .returned (.int .i64 4) ∧ w = w' := by
  have ha : bits .and .u64 (16 : Int) (IntKind.u64.wrap (-(16 : Int))) = 16 := by decide +kernel
  have hc : w.cell? ⟨0, 15, none⟩ = some (.int .u8 4) := by
    rw [hG.bru 15 (by decide)]; rfl
  go_enter Tryz.func165, Tryz.ntmps165
  go_wp2_with fail
  go_ret
  exact ⟨rfl, rfl⟩
set_option maxRecDepth 20000 in
theorem tz16_c (w : World) (hG : Glob w) :
    Calls Tryz.prog 210 #[.int .u64 16] w fun e w' => e = .returned (.int .i64 4) ∧ w = w' := by
  have HT := Lib.hid (fun w hG => tz64_16 w hG)
  go_enter Tryz.func210, Tryz.ntmps210
  go_wp2_with (go_at_call 165; refine (HT.out _ hG).mono ?_; rintro e w1 ⟨rfl, rfl⟩)
  go_ret
  exact ⟨rfl, rfl⟩
set_option maxRecDepth 20000 in
theorem pow2_c (w : World) :
    Calls Tryz.prog 209 #[.int .i64 16] w fun e w' => e = .returned (.bool true) ∧ w = w' := by
  have ha : bits .and .i64 (16 : Int) (15 : Int) = 0 := by decide +kernel
  go_enter Tryz.func209, Tryz.ntmps209
  go_wp2_with fail
  go_ret
  exact ⟨rfl, rfl⟩
/-- the row of signs, filled from its end -/
def pad (l : List Nat) : List Value := List.replicate (65 - l.length) (.int .u8 0) ++ l.map fun c => .int .u8 (c : Nat)
theorem pad_put {l : List Nat} {c : Nat} (h : l.length < 65) : (pad l).toArray.setIfInBounds (64 - l.length) (.int .u8 (c : Nat)) = (pad (c :: l)).toArray := by
  rw [List.setIfInBounds_toArray]
  congr 1
  unfold pad
  rw [List.set_append_left _ _ (by rw [List.length_replicate]; omega)]
  rw [show 65 - l.length = (64 - l.length) + 1 by omega, List.replicate_succ']
  rw [List.set_append_right _ _ (by rw [List.length_replicate]; omega), List.length_replicate, Nat.sub_self]
  simp
theorem hexD_step {u : Nat} (h : 16 ≤ u) (h2 : u < 65536) : hexD u = hexD (u / 16) ++ [hexC (u % 16)] := by
  unfold hexD
  rw [if_neg (by omega)]
  by_cases h3 : u < 256
  · rw [if_pos h3, if_pos (by omega)]; rfl
  rw [if_neg h3]
  by_cases h4 : u < 4096
  · rw [if_pos h4, if_neg (by omega), if_pos (by omega), show u / 16 / 16 = u / 256 by omega]; rfl
  · rw [if_neg h4, if_neg (by omega), if_neg (by omega), if_pos (by omega), show u / 16 / 256 = u / 4096 by omega, show u / 16 / 16 % 16 = u / 256 % 16 by omega]; rfl
theorem sgn_at : ∀ d (h : d < 16), ((⟨#[48, 49, 50, 51, 52, 53, 54, 55, 56, 57, 97, 98, 99, 100, 101, 102, 103, 104, 105, 106, 107, 108, 109, 110, 111, 112, 113, 114, 115, 116, 117, 118, 119, 120, 121, 122]⟩ : ByteArray)[d]'(by show d < 36; omega)).toNat = (hexC d).toNat := by decide
/-- so many signs are written, so much of the number is left -/
def Left (u : Nat) (l : List Nat) : Prop := (l.length = 0 ∧ u < 65536) ∨ (l.length = 1 ∧ u < 4096) ∨ (l.length = 2 ∧ u < 256) ∨ (l.length = 3 ∧ u < 16)
theorem and15 (u : Nat) (hu : u < 65536) : bits .and .u64 (u : Int) (15 : Int) = ((u % 16 : Nat) : Int) := by
  have h := bits_and_u64_nat u 15 (by omega) (by omega)
  rw [show ((15 : Nat) : Int) = 15 from rfl] at h
  rw [h, show (15 : Nat) = 2 ^ 4 - 1 by decide, Nat.and_two_pow_sub_one_eq_mod]
theorem slice65 (a k : Nat) (hk : k ≤ 3) (w : World) : (Instr.sliceAt 238 (.pointer (some ⟨a, 0, none⟩)) (some (.int .i64 (65 - (k : Int) - 1))) none none).run Tryz.prog w = .ok (.slice (some ⟨a, 65 - k - 1, none⟩) (k + 1) (k + 1)) w := by
  have hlen : Tryz.prog.arrayLen 238 = 65 := by kernel_rfl
  rw [run_sliceAt_array_l w 238 ⟨a, 0, none⟩ (by kernel_rfl) .i64 _ (by omega) (by rw [hlen]; omega), hlen]
  have hs : (sizeOf (Tryz.prog.elem 238)).run Tryz.prog w = .ok 1 w := by kernel_rfl
  rw [hs]
  have e1 : (65 - (k : Int) - 1).toNat = 65 - k - 1 := by omega
  rw [e1]
  have e2 : 65 - (65 - k - 1) = k + 1 := by omega
  show Result.ok (Value.slice (some (if 65 = 65 - k - 1 then _ else _)) _ _) w = _
  rw [if_neg (by omega), e2]
  unfold Addr.add
  simp
  omega
theorem pad_at {l : List Nat} {i : Nat} (h0 : 0 < l.length) (h65 : l.length ≤ 65) (hi : i < l.length) : (pad l)[65 - l.length + i]? = some (.int .u8 ((ints l).getD i 0)) := by
  unfold pad
  rw [List.getElem?_append_right (by rw [List.length_replicate]; omega), List.length_replicate, Nat.add_sub_cancel_left]
  simp [ints, hi]
theorem txt_back (s : List UInt8) : strOfNums (ints (s.map UInt8.toNat)) = ⟨s.toArray⟩ := by
  apply ByteArray.ext
  apply Array.toList_inj.1
  have := strOfNums_data (ints (s.map UInt8.toNat))
  rw [this]
  unfold ints
  rw [List.map_map, List.map_map]
  show List.map _ s = s
  rw [show (((fun n : Int => UInt8.ofNat n.toNat) ∘ Int.ofNat) ∘ UInt8.toNat) = id from funext fun c => by simp, List.map_id]
set_option maxRecDepth 100000 in
set_option maxHeartbeats 3200000 in
theorem fbits_c (g : Nat) (w : World) (hg : g < 65536) (hG : Glob w) :
    Calls Tryz.prog 198 #[.slice none 0 0, .int .u64 g, .int .i64 16, .bool false, .bool false] w fun e w' => (∃ v, e = .returned (.tuple #[v, .string ⟨(hexD g).toArray⟩])) ∧ Below w.heap.size w w' := by
  go_enter Tryz.func198, Tryz.ntmps198
  go_wp2_with fail
  have hA : Blk (w.alloc (Obj.cells Tryz.zeroCells238 238)) w.heap.size 238 (pad []).toArray := Blk.new _ _ _
  have hbel : Below w.heap.size w (w.alloc (Obj.cells Tryz.zeroCells238 238)) := bl_
  have hG1 : Glob (w.alloc (Obj.cells Tryz.zeroCells238 238)) := hG.after hbel
  generalize w.alloc (Obj.cells Tryz.zeroCells238 238) = w1 at *
  refine (pow2_c _).mono ?_
  rintro e w2 ⟨rfl, rfl⟩
  go_wp2_with fail
  refine (tz16_c _ hG1).mono ?_
  rintro e w2 ⟨rfl, rfl⟩
  go_wp2_with fail
  go_loopw [1, 13] (fun vu vi wr => ∃ (u : Nat) (l : List Nat), vu = .int .u64 u ∧ vi = .int .i64 (65 - (l.length : Int)) ∧ Left u l ∧ (hexD g).map UInt8.toNat = (hexD u).map UInt8.toNat ++ l ∧ Blk wr w.heap.size 238 (pad l).toArray ∧ Below w.heap.size w wr) (fun vu _ _ => (intOf vu).toNat)
  case atStart => exact ⟨g, [], rfl, rfl, .inl ⟨rfl, hg⟩, by simp, hA, hbel⟩
  case round =>
    clear hA hbel hG1
    obtain ⟨u, l, rfl, rfl, hle, hx, hA, hbel⟩ := hrel
    have hl3 : l.length ≤ 3 ∧ u < 65536 := by unfold Left at hle; omega
    obtain ⟨hl3, hu6⟩ := hl3
    have HX := Lib.hid hx
    have HLE := Lib.hid hle
    clear hx hle
    by_cases h16 : 16 ≤ u
    · have d1 : (16 : Int) ≤ u := by omega
      have ha := and15 u hu6
      have hst := hexD_step h16 hu6
      have HST := Lib.hid hst
      have hd : u % 16 < 16 := by omega
      have hcell : ∃ cv, wr.cell? ⟨w.heap.size, 65 - l.length - 1, none⟩ = some cv := ⟨(pad l).toArray[65 - l.length - 1]'(by simp [pad]; omega), by rw [hA.cell]; simp⟩
      obtain ⟨cv, hcell⟩ := hcell
      have hfz := hA.frozen (65 - l.length - 1)
      have HSG := Lib.hid (sgn_at (u % 16) hd)
      have HA : Hid (∀ v : Nat, v = (hexC (u % 16)).toNat → Blk (wr.setCell ⟨w.heap.size, 65 - l.length - 1, none⟩ (.int .u8 (v : Int))) w.heap.size 238 (pad ((hexC (u % 16)).toNat :: l)).toArray ∧ Below w.heap.size w (wr.setCell ⟨w.heap.size, 65 - l.length - 1, none⟩ (.int .u8 (v : Int)))) := Lib.hid (by
        rintro v rfl
        have hpad := pad_put (l := l) (c := (hexC (u % 16)).toNat) (by omega)
        have hA' := hA.put (65 - l.length - 1) (.int .u8 ((hexC (u % 16)).toNat : Nat))
        have hof : 65 - l.length - 1 = 64 - l.length := by omega
        rw [hof, hpad] at hA'
        rw [← hof] at hA'
        exact ⟨hA', bl_set hbel (p := ⟨w.heap.size, 65 - l.length - 1, none⟩) (Nat.le_refl _) _⟩)
      generalize u % 16 = d at *
      clear hst
      go_wp2_with fail
      go_roundw
      case rel =>
        refine ⟨u / 16, (hexC d).toNat :: l, by first | go_num | (congr 1; omega), by first | go_num | (congr 1; simp; omega), ?_, ?_, (HA.out _ HSG.out).1, (HA.out _ HSG.out).2⟩
        · have := HLE.out
          unfold Left at *
          simp only [List.length_cons]
          omega
        · rw [HX.out, HST.out]; simp
      case measure => simp [intOf]; omega
    · have d1 : ¬ (16 : Int) ≤ u := by omega
      have hd : u < 16 := by omega
      have hcell : ∃ cv, wr.cell? ⟨w.heap.size, 65 - l.length - 1, none⟩ = some cv := ⟨(pad l).toArray[65 - l.length - 1]'(by simp [pad]; omega), by rw [hA.cell]; simp⟩
      obtain ⟨cv, hcell⟩ := hcell
      have hfz := hA.frozen (65 - l.length - 1)
      have HSG := Lib.hid (sgn_at (u) hd)
      have HA : Hid (∀ v : Nat, v = (hexC (u)).toNat → Blk (wr.setCell ⟨w.heap.size, 65 - l.length - 1, none⟩ (.int .u8 (v : Int))) w.heap.size 238 (pad ((hexC (u)).toNat :: l)).toArray ∧ Below w.heap.size w (wr.setCell ⟨w.heap.size, 65 - l.length - 1, none⟩ (.int .u8 (v : Int)))) := Lib.hid (by
        rintro v rfl
        have hpad := pad_put (l := l) (c := (hexC (u)).toNat) (by omega)
        have hA' := hA.put (65 - l.length - 1) (.int .u8 ((hexC (u)).toNat : Nat))
        have hof : 65 - l.length - 1 = 64 - l.length := by omega
        rw [hof, hpad] at hA'
        rw [← hof] at hA'
        exact ⟨hA', bl_set hbel (p := ⟨w.heap.size, 65 - l.length - 1, none⟩) (Nat.le_refl _) _⟩)
      have hu1 : hexD u = [hexC u] := by unfold hexD; rw [if_pos hd]
      have HU1 := Lib.hid hu1
      have hsl := slice65 w.heap.size l.length hl3
      have hcv : ∀ v : Nat, v = (hexC u).toNat → (convert 166 9 (.slice (some ⟨w.heap.size, 65 - l.length - 1, none⟩) (l.length + 1) (l.length + 1))).run Tryz.prog (wr.setCell ⟨w.heap.size, 65 - l.length - 1, none⟩ (.int .u8 (v : Int))) = .ok (.string ⟨(hexD g).toArray⟩) (wr.setCell ⟨w.heap.size, 65 - l.length - 1, none⟩ (.int .u8 (v : Int))) := by
        intro v hv
        have hB := (HA.out v hv).1
        have e := HX.out
        rw [hu1] at e
        rw [← txt_back (hexD g), e]
        refine run_convert_bytes_arg _ _ _ Tryz.underlying166 Tryz.underlying5 w.heap.size (65 - l.length - 1) (l.length + 1) (l.length + 1) _ (by simp [ints]) (fun i hi => ?_) _ Tryz.underlying9
        rw [hB.cell]
        have := pad_at (l := (hexC u).toNat :: l) (i := i) (by simp) (by simp; omega) (by simpa using hi)
        rw [show 65 - ((hexC u).toNat :: l).length + i = 65 - l.length - 1 + i by simp; omega] at this
        simpa using this
      have hcv' := hcv _ HSG.out
      clear hu1 hcv
      go_wp2_with fail
      go_ret2
      exact ⟨⟨_, rfl⟩, (HA.out _ HSG.out).2⟩
set_option maxRecDepth 100000 in
theorem fuint_c (g : Nat) (w : World) (hg : g < 65536) (hG : Glob w) :
    Calls Tryz.prog 160 #[.int .u64 g, .int .i64 16] w fun e w' => e = .returned (.string ⟨(hexD g).toArray⟩) ∧ Below w.heap.size w w' := by
  have HF := Lib.hid (fun w hG => fbits_c g w hg hG)
  go_enter Tryz.func160, Tryz.ntmps160
  go_wp2_with fail
  go_enter Tryz.func186, Tryz.ntmps186
  go_wp2_with fail
  refine (HF.out _ hG).mono ?_
  rintro e w1 ⟨⟨v, rfl⟩, hb1⟩
  go_wp2_with fail
  go_ret
  exact ⟨rfl, hb1⟩
end Go.Proofs.YtpfilldnfpcpkaaGreatDoor

namespace Go.Proofs.YtpfilldnfpcpkaaGreatDoor
open Go.RowKit

theorem info_str : (Tryz.prog.info? 9).map (fun i => (i.zero, i.size, i.bytes)) = some (some (.string ByteArray.empty), 1, 16) := by kernel_rfl
def strsV (l : List ByteArray) : List Value := l.map Value.string
def hexT (g : Nat) : ByteArray := ⟨(hexD g).toArray⟩
/-- strings.Join of a row of the call's own -/
theorem join_c {v : Value} {base : Nat} {xs : List ByteArray} (sep : ByteArray) (w : World) (h : w.ownsRow base 9 1 v xs.length (strsV xs)) (hl : (Lib.join (xs.map bts) (bts sep)).length ≤ 1000000) (hx : xs.length ≤ 1000000) :
    Calls Tryz.prog 158 #[v, .string sep] w fun e w' => e = .returned (.string ⟨(Lib.join (xs.map bts) (bts sep)).toArray⟩) ∧ Below w.heap.size w w' := by
  obtain ⟨a, c, rfl⟩ := own_slice h
  rcases Nat.eq_zero_or_pos xs.length with h0 | h0
  · have : xs = [] := List.eq_nil_of_length_eq_zero h0
    subst this
    refine (Tryz.strings_Join_none a c sep w).mono ?_
    rintro e w' ⟨rfl, rfl⟩
    exact ⟨rfl, Below.refl _ _⟩
  · obtain ⟨g, rfl, hg, hc⟩ := own_at h h0
    have hcap : xs.length ≤ c := by
      rcases h.2 with ⟨hv, h1⟩ | ⟨g', cap, cur, hv, _, _, hcap, _⟩
      · omega
      · injection hv with _ _ hv; omega
    exact Tryz.strings_Join g 0 c xs sep w (fun j x hj => by
      have hjl : j < xs.length := (List.getElem?_eq_some_iff.1 hj).1
      rw [Nat.zero_add, hc j hjl]; simp [strsV, hj]) hg (by omega) hcap (Nat.le_trans hl (by omega))
theorem join_len {c : List UInt8} {m : Nat} : ∀ {l : List (List UInt8)}, (∀ p ∈ l, p.length ≤ m) → (Lib.join l c).length ≤ l.length * (m + c.length)
  | [], _ => by simp [Lib.join, List.intercalate]
  | [p], h => by rw [join_one]; have := h p (by simp); simp; omega
  | p :: x :: q, h => by
    rw [join_cons, List.length_append, List.length_append, List.length_cons, Nat.succ_mul]
    have h1 := h p (by simp)
    have h2 := join_len (l := x :: q) (c := c) (fun y hy => h y (by simp [hy]))
    omega
theorem hexD_len (g : Nat) : (hexD g).length ≤ 4 := by unfold hexD; (repeat' split) <;> simp
set_option maxRecDepth 100000 in
set_option maxHeartbeats 3200000 in
theorem words_c (g o n c : Nat) (L : List Nat) (w : World) (hn : L.length = n) (h8 : n ≤ 8) (hL : ∀ x ∈ L, x < 65536) (hc : ∀ j, (h : j < L.length) → w.cell? ⟨g, o + j, none⟩ = some (.int .u16 (L[j] : Nat))) (hg : g < w.heap.size) (hG : Glob w) :
    Calls Tryz.prog 118 #[.slice (some ⟨g, o, none⟩) n c] w fun e w' => e = .returned (.string ⟨(joinH L).toArray⟩) ∧ Below w.heap.size w w' := by
  have HC := Lib.hid hc
  have HN := Lib.hid hn
  have HL := Lib.hid hL
  obtain ⟨i0, hi0, hz0, hz1, hz2⟩ := info_parts info_str
  clear hc hn hL
  go_enter Tryz.func118, Tryz.ntmps118
  go_wp2_with fail
  go_loopw [3, 8] (fun so i wr => ∃ k : Nat, k ≤ n ∧ i = .int .i64 k ∧ wr.ownsRow w.heap.size 9 1 so k (strsV ((L.take k).map hexT)) ∧ Below w.heap.size w wr) (fun _ i _ => n - (intOf i).toNat)
  case atStart => exact ⟨0, by omega, rfl, World.ownsRow_nil _ _ _ _, Below.refl _ _⟩
  case round =>
    obtain ⟨k, hk, rfl, hown, hbel⟩ := hrel
    have hz := hbel.size
    by_cases hlt : k < n
    · have d1 : (k : Int) < n := by omega
      have hkL : k < L.length := by rw [HN.out]; exact hlt
      have hcell := (hbel.cell (p := ⟨g, o + k, none⟩) hg).trans (HC.out k hkL)
      have hx6 := HL.out L[k] (List.getElem_mem hkL)
      have hT : strsV ((L.take (k + 1)).map hexT) = strsV ((L.take k).map hexT) ++ [.string (hexT L[k])] := by rw [List.take_succ_eq_append_getElem hkL]; simp only [strsV, List.map_append, List.map_cons, List.map_nil]
      have HT := Lib.hid hT
      have HF := Lib.hid (fuint_c L[k] wr hx6 (hG.after hbel))
      generalize L[k] = x at *
      have hcw : IntKind.u64.wrap (x : Int) = x := by show (x : Int) % 18446744073709551616 = x; omega
      clear hT hkL
      go_wp2_with fail
      refine HF.out.mono ?_
      rintro e w1 ⟨rfl, hb1⟩
      have hown1 := own_after hown hb1
      have hbel2 := bl_trans hbel hb1
      have hsz2 := hbel2.size
      clear hown hbel hb1 hz hcell
      change Hid (strsV _ = strsV _ ++ [.string ⟨(hexD x).toArray⟩]) at HT
      go_wp2_with (at_builtin; refine wpList_append_own _ rfl _ _ 190 rfl w.heap.size 9 i0 (.string ByteArray.empty) 1 16 Tryz.underlying190 hi0 hz0 hz1 hz2 rfl (by decide) _ _ _ rfl (hown1.alloc _) ⟨w1.heap.size, 0, none⟩ 1 1 [.string ⟨(hexD x).toArray⟩] rfl rfl ?z1_1 ?z1_2 ?z1_3 ?z1_4 ?z1_5 ?_)
      (try case z1_1 => exact cell_list _ _ _)
      (try case z1_2 => (first | exact one_cell_k _ _ | rfl | (intro u hu; simp at hu; (try rcases hu with rfl | rfl) <;> (try subst hu) <;> rfl)))
      case z1_3 => (first | (simp only [maxLen]; omega) | omega)
      (try case z1_4 => omega)
      (try case z1_5 => (first | omega | (simp; omega)))
      (try case z1_2 => (first | exact one_cell_k _ _ | rfl | (intro u hu; simp at hu; (try rcases hu with rfl | rfl) <;> (try subst hu) <;> rfl)))
      intro v' wa hown' hgrow _
      have hbel1 := below_own hbel2 hown1 (by first | exact Nat.le_refl _ | omega) hgrow
      go_wp2_with fail
      go_roundw
      case rel => exact ⟨k + 1, by omega, by go_num, by rw [HT.out, List.map_take]; exact hown', hbel1⟩
      case measure => simp [intOf]; omega
    · obtain rfl : k = n := by omega
      have d1 : ¬ (k : Int) < k := by omega
      rw [List.take_of_length_le (by rw [HN.out]; exact Nat.le_refl _)] at hown
      have hb : (L.map hexT).map bts = L.map hexD := by rw [List.map_map]; apply List.map_congr_left; intro x _; exact bts_mk _
      have hj : Lib.join ((L.map hexT).map bts) (bts ⟨#[58]⟩) = joinH L := by rw [hb]; rfl
      have hjl : (joinH L).length ≤ 1000000 := by
        have := join_len (c := [58]) (m := 4) (l := L.map hexD) (fun p hp => by
          obtain ⟨x, _, rfl⟩ := List.mem_map.1 hp
          exact hexD_len x)
        rw [List.length_map, HN.out] at this
        refine Nat.le_trans this ?_
        simp; omega
      have HJ := Lib.hid (join_c (xs := L.map hexT) ⟨#[58]⟩ wr (by rw [List.length_map, HN.out]; exact hown) (by rw [hj]; exact hjl) (by rw [List.length_map, HN.out]; omega))
      rw [hj] at HJ
      clear hj hb hjl
      go_wp2_with fail
      refine HJ.out.mono ?_
      rintro e w1 ⟨rfl, hb1⟩
      go_wp2_with fail
      go_ret
      exact ⟨rfl, bl_trans hbel hb1⟩
end Go.Proofs.YtpfilldnfpcpkaaGreatDoor

namespace Go.Proofs.YtpfilldnfpcpkaaGreatDoor
open Go.RowKit

set_option maxRecDepth 100000 in
set_option maxHeartbeats 3200000 in
theorem print4_c (n : Nat) (w : World) (hn : n < 4294967296) (hG : Glob w) :
    Calls Tryz.prog 115 #[AddrV false n] w fun e w' => e = .returned (.string ⟨(print4 n).toArray⟩) ∧ Below w.heap.size w w' := by
  have HB := Lib.hid (fun w => bytes_c false n w (Nat.lt_trans hn (by decide)) (by simp [rightB, widthN]; exact hn))
  obtain ⟨i0, hi0, hz0, hz1, hz2⟩ := info_parts info_str
  rw [AddrV_eq] at *
  unfold AddrC at *
  go_enter Tryz.func115, Tryz.ntmps115
  go_wp2_with fail
  refine (HB.out _).mono ?_
  rintro e w1 ⟨rfl, hb1⟩
  have hbt := bts_txt (bytesB 4 n)
  have hTs : (txt (bytesB (byteN false) n)).size = 4 := by
    have := congrArg List.length hbt
    rw [List.length_map, bytesB_len] at this
    exact (by simpa [bts] using this : (txt (bytesB 4 n)).size = 4)
  have hbd : ∀ x ∈ bytesB 4 n, x < 256 := fun x hx => bytesB_lt hx
  have hcv := Lib.run_convert_string_bytes (P := Tryz.prog) w1 9 166 5 (txt (bytesB (byteN false) n)) Tryz.underlying9 Tryz.underlying166 Tryz.underlying5
  have hbw := Lib.bytesWorld_below w1 5 (txt (bytesB (byteN false) n))
  have hcell := Lib.bytesWorld_cell w1 5 (txt (bytesB (byteN false) n))
  have hszb := Lib.bytesWorld_size w1 5 (txt (bytesB (byteN false) n))
  have hbel1 : Below w.heap.size w w1 := bl_trans (by exact bl_) hb1
  have hG1 := hG.after hbel1
  have hbel2 := bl_trans hbel1 hbw
  have hG2 := hG1.after hbw
  rw [hTs] at hcv
  have hcell2 : ∀ k (h : k < (bytesB 4 n).length), (Lib.bytesWorld w1 5 (txt (bytesB (byteN false) n))).cell? ⟨w1.heap.size, k, none⟩ = some (.int .u8 ((bytesB 4 n)[k] : Nat)) := by
    intro k h
    rw [hcell k (by rw [hTs]; rw [bytesB_len] at h; exact h)]
    have e : (txt (bytesB (byteN false) n)).data.toList = (bytesB 4 n).map UInt8.ofNat := hbt
    rw [e]
    have hx := hbd _ (List.getElem_mem h)
    simp [List.getD, h]
    omega
  have HC := Lib.hid hcell2
  have HBD := Lib.hid hbd
  generalize Lib.bytesWorld w1 5 (txt (bytesB (byteN false) n)) = wb at *
  generalize grownCap w1 4 0 5 = cap at *
  generalize txt (bytesB (byteN false) n) = T at *
  have hlt1 : w1.heap.size < wb.heap.size := by omega
  clear hcell hcell2 hbw hszb hbt hbd hb1 hTs
  have hBl : (bytesB 4 n).length = 4 := bytesB_len 4 n
  have hP : print4 n = Lib.join ((bytesB 4 n).map Lib.decDigits) [46] := rfl
  have HBL := Lib.hid hBl
  have HP := Lib.hid hP
  generalize bytesB 4 n = B at *
  clear hBl hP
  go_wp2_with fail
  go_loopw [3, 10] (fun so i wr => ∃ k : Nat, k ≤ 4 ∧ i = .int .i64 k ∧ wr.ownsRow wb.heap.size 9 1 so k (strsV ((B.take k).map itoaT)) ∧ Below wb.heap.size wb wr) (fun _ i _ => 4 - (intOf i).toNat)
  case atStart => exact ⟨0, by omega, rfl, World.ownsRow_nil _ _ _ _, Below.refl _ _⟩
  case round =>
    obtain ⟨k, hk, rfl, hown, hbel⟩ := hrel
    have hsz := hbel.size
    by_cases hlt : k < 4
    · have d1 : (k : Int) < 4 := by omega
      have hkL : k < B.length := by rw [HBL.out]; exact hlt
      have hcell := (hbel.cell (p := ⟨w1.heap.size, k, none⟩) hlt1).trans (HC.out k hkL)
      have hx6 := HBD.out B[k] (List.getElem_mem hkL)
      have hT : strsV ((B.take (k + 1)).map itoaT) = strsV ((B.take k).map itoaT) ++ [.string (itoaT B[k])] := by rw [List.take_succ_eq_append_getElem hkL]; simp only [strsV, List.map_append, List.map_cons, List.map_nil]
      have HT := Lib.hid hT
      have HF := Lib.hid (itoa_c B[k] wr (by omega) (hG2.after hbel))
      generalize B[k] = x at *
      clear hT hkL
      go_wp2_with fail
      refine HF.out.mono ?_
      rintro e w3 ⟨rfl, hb3⟩
      have hown3 := own_after hown hb3
      have hbel3 := bl_trans hbel hb3
      have hsz3 := hbel3.size
      clear hown hbel hb3 hsz hcell
      go_wp2_with (at_builtin; refine wpList_append_own _ rfl _ _ 190 rfl wb.heap.size 9 i0 (.string ByteArray.empty) 1 16 Tryz.underlying190 hi0 hz0 hz1 hz2 rfl (by decide) _ _ _ rfl (hown3.alloc _) ⟨w3.heap.size, 0, none⟩ 1 1 [.string (itoaT x)] rfl rfl ?z1_1 ?z1_2 ?z1_3 ?z1_4 ?z1_5 ?_)
      (try case z1_1 => exact cell_list _ _ _)
      (try case z1_2 => (first | exact one_cell_k _ _ | rfl | (intro u hu; simp at hu; (try rcases hu with rfl | rfl) <;> (try subst hu) <;> rfl)))
      case z1_3 => (first | (simp only [maxLen]; omega) | omega)
      (try case z1_4 => omega)
      (try case z1_5 => (first | omega | (simp; omega)))
      (try case z1_2 => (first | exact one_cell_k _ _ | rfl | (intro u hu; simp at hu; (try rcases hu with rfl | rfl) <;> (try subst hu) <;> rfl)))
      intro v' wa hown' hgrow _
      have hbel1 := below_own hbel3 hown3 (by first | exact Nat.le_refl _ | omega) hgrow
      go_wp2_with fail
      go_roundw
      case rel => exact ⟨k + 1, by omega, by go_num, by rw [HT.out, List.map_take]; exact hown', hbel1⟩
      case measure => simp [intOf]; omega
    · obtain rfl : k = 4 := by omega
      have d1 : ¬ (4 : Int) < 4 := by omega
      rw [List.take_of_length_le (by rw [HBL.out]; exact Nat.le_refl _)] at hown
      have hb : (B.map itoaT).map bts = B.map Lib.decDigits := by rw [List.map_map]; apply List.map_congr_left; intro x _; exact bts_mk _
      have hj : Lib.join ((B.map itoaT).map bts) (bts ⟨#[46]⟩) = print4 n := by rw [hb, HP.out]; rfl
      have hjl : (print4 n).length ≤ 1000000 := by
        rw [HP.out]
        have := join_len (c := [46]) (m := 3) (l := B.map Lib.decDigits) (fun p hp => by
          obtain ⟨x, hx, rfl⟩ := List.mem_map.1 hp
          exact (by decide +kernel : ∀ x, x < 256 → (Lib.decDigits x).length ≤ 3) x (HBD.out x hx))
        rw [List.length_map, HBL.out] at this
        refine Nat.le_trans this ?_
        simp
      have HJ := Lib.hid (join_c (xs := B.map itoaT) ⟨#[46]⟩ wr (by rw [List.length_map, HBL.out]; exact hown) (by rw [hj]; exact hjl) (by rw [List.length_map, HBL.out]; omega))
      rw [hj] at HJ
      clear hj hb hjl
      go_wp2_with fail
      refine HJ.out.mono ?_
      rintro e w3 ⟨rfl, hb3⟩
      go_wp2_with fail
      go_ret
      exact ⟨rfl, bl_trans (bl_trans hbel2 hbel) hb3⟩
end Go.Proofs.YtpfilldnfpcpkaaGreatDoor

namespace Go.Proofs.YtpfilldnfpcpkaaGreatDoor
open Go.RowKit

/-- the groups of a number -/
def grps (n : Nat) : List Nat := (List.range 8).map fun i => n / 65536 ^ (7 - i) % 65536
theorem grps_len (n : Nat) : (grps n).length = 8 := by simp [grps]
theorem grps_lt {n g : Nat} (h : g ∈ grps n) : g < 65536 := by
  unfold grps at h
  obtain ⟨i, _, rfl⟩ := List.mem_map.1 h
  omega
theorem grps_at {n i : Nat} (hi : i < 8) : (grps n)[i]? = some (n / 65536 ^ (7 - i) % 65536) := by unfold grps; simp [hi]
/-- the first groups of a number, noughts behind -/
def gpad (n k : Nat) : List Value := ((grps n).take k).map (fun g => Value.int .u16 (g : Nat)) ++ List.replicate (8 - k) (.int .u16 0)
theorem gpad_put {n k g : Nat} (hk : k < 8) (hg : (grps n)[k]? = some g) : (gpad n k).toArray.setIfInBounds k (.int .u16 (g : Nat)) = (gpad n (k + 1)).toArray := by
  have hl : k < (grps n).length := by rw [grps_len]; exact hk
  rw [List.setIfInBounds_toArray]
  congr 1
  unfold gpad
  have hlen : (((grps n).take k).map (fun g => Value.int .u16 ((g : Nat) : Int))).length = k := by rw [List.length_map, List.length_take, grps_len]; omega
  rw [List.set_append_right _ _ (by rw [hlen]; exact Nat.le_refl _), hlen, Nat.sub_self]
  rw [show 8 - k = (8 - (k + 1)) + 1 by omega, List.replicate_succ]
  rw [List.getElem?_eq_getElem hl] at hg
  injection hg with hg
  rw [List.take_succ_eq_append_getElem hl, hg]
  simp
theorem gpad_len {n k : Nat} (hk : k ≤ 8) : (gpad n k).length = 8 := by
  unfold gpad; rw [List.length_append, List.length_map, List.length_take, grps_len, List.length_replicate]; omega
set_option maxRecDepth 100000 in
set_option maxHeartbeats 3200000 in
theorem pieces_c (v6 : Bool) (n : Nat) (w : World) (hn : n < 340282366920938463463374607431768211456) :
    Calls Tryz.prog 116 #[AddrV v6 n] w fun e w' => e = .returned (.agg (u16V (grps n)).toArray) ∧ Below w.heap.size w w' := by
  rw [AddrV_eq] at *
  unfold AddrC at *
  go_enter Tryz.func116, Tryz.ntmps116
  go_wp2_with fail
  have hA0 : Blk (((w.alloc (Obj.cells #[.bool v6, .int .u64 (hi n), .int .u64 (lo n)] 26)).alloc (Obj.cells #[.int .u16 0, .int .u16 0, .int .u16 0, .int .u16 0, .int .u16 0, .int .u16 0, .int .u16 0, .int .u16 0] 149)).alloc (Obj.cells #[.int .u16 0, .int .u16 0, .int .u16 0, .int .u16 0, .int .u16 0, .int .u16 0, .int .u16 0, .int .u16 0] 149)) w.heap.size 26 (AddrC v6 n) := ((Blk.new w _ _).alloc _).alloc _
  have hR0 : Blk (((w.alloc (Obj.cells #[.bool v6, .int .u64 (hi n), .int .u64 (lo n)] 26)).alloc (Obj.cells #[.int .u16 0, .int .u16 0, .int .u16 0, .int .u16 0, .int .u16 0, .int .u16 0, .int .u16 0, .int .u16 0] 149)).alloc (Obj.cells #[.int .u16 0, .int .u16 0, .int .u16 0, .int .u16 0, .int .u16 0, .int .u16 0, .int .u16 0, .int .u16 0] 149)) (w.heap.size + 1) 149 (gpad n 0).toArray := (Blk.new' _ _ _ _ (by simp)).alloc _
  have hL0 : Blk (((w.alloc (Obj.cells #[.bool v6, .int .u64 (hi n), .int .u64 (lo n)] 26)).alloc (Obj.cells #[.int .u16 0, .int .u16 0, .int .u16 0, .int .u16 0, .int .u16 0, .int .u16 0, .int .u16 0, .int .u16 0] 149)).alloc (Obj.cells #[.int .u16 0, .int .u16 0, .int .u16 0, .int .u16 0, .int .u16 0, .int .u16 0, .int .u16 0, .int .u16 0] 149)) (w.heap.size + 1 + 1) 149 (gpad n 0).toArray := Blk.new' _ _ _ _ (by simp)
  have hbel0 : Below w.heap.size w (((w.alloc (Obj.cells #[.bool v6, .int .u64 (hi n), .int .u64 (lo n)] 26)).alloc (Obj.cells #[.int .u16 0, .int .u16 0, .int .u16 0, .int .u16 0, .int .u16 0, .int .u16 0, .int .u16 0, .int .u16 0] 149)).alloc (Obj.cells #[.int .u16 0, .int .u16 0, .int .u16 0, .int .u16 0, .int .u16 0, .int .u16 0, .int .u16 0, .int .u16 0] 149)) := bl_
  generalize ((w.alloc (Obj.cells #[.bool v6, .int .u64 (hi n), .int .u64 (lo n)] 26)).alloc (Obj.cells #[.int .u16 0, .int .u16 0, .int .u16 0, .int .u16 0, .int .u16 0, .int .u16 0, .int .u16 0, .int .u16 0] 149)).alloc (Obj.cells #[.int .u16 0, .int .u16 0, .int .u16 0, .int .u16 0, .int .u16 0, .int .u16 0, .int .u16 0, .int .u16 0] 149) = w0 at *
  have HSH := Lib.hid (fun k w (hk : (0:Int) ≤ k) => shr_c (hi n) (lo n) k w (hi_nn _) (hi_lt _) (lo_nn _) (lo_lt _) (by omega))
  rw [num_hi_lo hn] at HSH
  go_loopw [5] (fun i wr => ∃ k : Nat, k ≤ 8 ∧ i = .int .i64 k ∧ Blk wr (w.heap.size + 1 + 1) 149 (gpad n k).toArray ∧ Below (w.heap.size + 1 + 1) w0 wr) (fun i _ => 8 - (intOf i).toNat)
  case atStart => exact ⟨0, by omega, rfl, hL0, Below.refl _ _⟩
  case round =>
    obtain ⟨k, hk, rfl, hL, hbw⟩ := hrel
    have hA := hA0.below hbw (by omega)
    have hR := hR0.below hbw (by omega)
    obtain ⟨c0, c1, c2, _⟩ := blk_adr hA
    by_cases hlt : k < 8
    · have d1 : (k : Int) < 8 := by omega
      have hsh : shrN n (128 - 16 * ((k : Int) + 1)) = n / 2 ^ (16 * (7 - k)) := by
        rw [show 128 - 16 * ((k : Int) + 1) = ((16 * (7 - k) : Nat) : Int) by omega]
        exact shrN_nat (by omega) hn
      have HSS := Lib.hid (fun w => HSH.out (128 - 16 * ((k : Int) + 1)) w (by omega))
      rw [hsh] at HSS
      have hgk : (grps n)[k]? = some (n / 65536 ^ (7 - k) % 65536) := grps_at hlt
      have hby : IntKind.u16.wrap (lo (n / 2 ^ (16 * (7 - k)))) = ((n / 65536 ^ (7 - k) % 65536 : Nat) : Int) := by
        rw [Nat.pow_mul]
        show lo _ % 65536 = _
        unfold lo
        rw [show (2 : Nat) ^ 16 = 65536 by decide]
        generalize n / 65536 ^ (7 - k) = x
        omega
      have hput := gpad_put hlt hgk
      have HPUT := Lib.hid hput
      unfold numV at HSS
      generalize n / 2 ^ (16 * (7 - k)) = x at *
      generalize n / 65536 ^ (7 - k) % 65536 = y at *
      have hfd : ∀ w : World, (Instr.field 24 (.agg #[.int .u64 (hi x), .int .u64 (lo x)]) 1).run Tryz.prog w = .ok (.int .u64 (lo x)) w := fun _ => by kernel_rfl
      clear hsh hput hgk HSH
      go_wp2_with fail
      refine (HSS.out _).mono ?_
      rintro e w3 ⟨rfl, hb3⟩
      have hL3 := hL.after hb3
      have hsz3 := hbw.size
      have hbw3 : Below (w.heap.size + 1 + 1) w0 w3 := hbw.trans (hb3.mono (Nat.le_of_lt hL.lt))
      obtain ⟨cv, hcell⟩ : ∃ cv, w3.cell? ⟨w.heap.size + 1 + 1, k, none⟩ = some cv := ⟨(gpad n k).toArray[k]'(by rw [List.size_toArray, gpad_len hk]; exact hlt), by rw [hL3.cell]; simp⟩
      have hfz := hL3.frozen k
      clear c0 c1 c2 hA hR hsz3
      go_wp2_with fail
      go_roundw
      case rel => exact ⟨k + 1, by omega, by go_num, by rw [← HPUT.out]; exact hL3.put k _, hbw3.setCell (Nat.le_refl _) _⟩
      case measure => simp [intOf]; omega
    · obtain rfl : k = 8 := by omega
      have d1 : ¬ (8 : Int) < 8 := by omega
      obtain ⟨a0, a1, a2, a3, a4, a5, a6, a7, hgr⟩ : ∃ a0 a1 a2 a3 a4 a5 a6 a7, grps n = [a0, a1, a2, a3, a4, a5, a6, a7] := ⟨_, _, _, _, _, _, _, _, rfl⟩
      have hpad : gpad n 8 = [.int .u16 (a0 : Nat), .int .u16 (a1 : Nat), .int .u16 (a2 : Nat), .int .u16 (a3 : Nat), .int .u16 (a4 : Nat), .int .u16 (a5 : Nat), .int .u16 (a6 : Nat), .int .u16 (a7 : Nat)] := by unfold gpad; rw [hgr]; rfl
      have hpz : gpad n 0 = [.int .u16 0, .int .u16 0, .int .u16 0, .int .u16 0, .int .u16 0, .int .u16 0, .int .u16 0, .int .u16 0] := rfl
      rw [hpad] at hL
      rw [hpz] at hR
      have HGR := Lib.hid hgr
      have l0 := (hL.cell 0).trans (show _ = some (Value.int .u16 (a0 : Nat)) from rfl)
      have l1 := (hL.cell 1).trans (show _ = some (Value.int .u16 (a1 : Nat)) from rfl)
      have l2 := (hL.cell 2).trans (show _ = some (Value.int .u16 (a2 : Nat)) from rfl)
      have l3 := (hL.cell 3).trans (show _ = some (Value.int .u16 (a3 : Nat)) from rfl)
      have l4 := (hL.cell 4).trans (show _ = some (Value.int .u16 (a4 : Nat)) from rfl)
      have l5 := (hL.cell 5).trans (show _ = some (Value.int .u16 (a5 : Nat)) from rfl)
      have l6 := (hL.cell 6).trans (show _ = some (Value.int .u16 (a6 : Nat)) from rfl)
      have l7 := (hL.cell 7).trans (show _ = some (Value.int .u16 (a7 : Nat)) from rfl)
      have r0 := (hR.cell 0).trans (show _ = some (Value.int .u16 0) from rfl)
      have z0 := hR.frozen 0
      have r1 := (hR.cell 1).trans (show _ = some (Value.int .u16 0) from rfl)
      have z1 := hR.frozen 1
      have r2 := (hR.cell 2).trans (show _ = some (Value.int .u16 0) from rfl)
      have z2 := hR.frozen 2
      have r3 := (hR.cell 3).trans (show _ = some (Value.int .u16 0) from rfl)
      have z3 := hR.frozen 3
      have r4 := (hR.cell 4).trans (show _ = some (Value.int .u16 0) from rfl)
      have z4 := hR.frozen 4
      have r5 := (hR.cell 5).trans (show _ = some (Value.int .u16 0) from rfl)
      have z5 := hR.frozen 5
      have r6 := (hR.cell 6).trans (show _ = some (Value.int .u16 0) from rfl)
      have z6 := hR.frozen 6
      have r7 := (hR.cell 7).trans (show _ = some (Value.int .u16 0) from rfl)
      have z7 := hR.frozen 7
      clear hgr hpad hpz HSH hA c0 c1 c2
      go_wp2_with fail
      refine bodyPost_ret (v := .agg [.int .u16 (a0 : Nat), .int .u16 (a1 : Nat), .int .u16 (a2 : Nat), .int .u16 (a3 : Nat), .int .u16 (a4 : Nat), .int .u16 (a5 : Nat), .int .u16 (a6 : Nat), .int .u16 (a7 : Nat)].toArray) (results_cell_row (t := 149) Tryz.results116 _ _ (w.heap.size + 1) _ (0, 0) _ rfl ((((((((hR.put 0 (.int .u16 (a0 : Nat))).put 1 (.int .u16 (a1 : Nat))).put 2 (.int .u16 (a2 : Nat))).put 3 (.int .u16 (a3 : Nat))).put 4 (.int .u16 (a4 : Nat))).put 5 (.int .u16 (a5 : Nat))).put 6 (.int .u16 (a6 : Nat))).put 7 (.int .u16 (a7 : Nat))) Tryz.underlying149 rfl (by kernel_rfl)) rfl ⟨by rw [HGR.out]; rfl, ?_⟩
      have hb8 := hbel0.trans (hbw.mono (by omega))
      exact bl_
end Go.Proofs.YtpfilldnfpcpkaaGreatDoor

namespace Go.Proofs.YtpfilldnfpcpkaaGreatDoor

def stepRow (z : List Bool) (a : Nat × Nat) (i : Nat) : Nat × Nat := if a.2 - a.1 < runAt (z.drop i) ∧ 1 < runAt (z.drop i) then (i, i + runAt (z.drop i)) else a
def progAt (z : List Bool) (i : Nat) : Nat × Nat := (List.range i).foldl (stepRow z) (0, 0)
theorem progAt_succ (z : List Bool) (i : Nat) : progAt z (i + 1) = stepRow z (progAt z i) i := by unfold progAt; rw [List.range_succ, List.foldl_append]; rfl
theorem progAt_end (z : List Bool) : progAt z 8 = progRow z := rfl
theorem runAt_le : ∀ z : List Bool, runAt z ≤ z.length
  | [] => by simp [runAt]
  | true :: r => by have := runAt_le r; simp [runAt]; omega
  | false :: r => by simp [runAt]
theorem runAt_is {z : List Bool} : ∀ (d i : Nat), (∀ j, i ≤ j → j < i + d → z[j]? = some true) → z[i + d]? ≠ some true → runAt (z.drop i) = d
  | 0, i, _, h => by
    cases hz : z.drop i with
    | nil => rfl
    | cons b r =>
      have : z[i]? = some b := by
        have := congrArg (·[0]?) hz
        simpa using this
      cases b with
      | false => rfl
      | true => exact absurd this (by simpa using h)
  | d + 1, i, h1, h2 => by
    have h0 := h1 i (Nat.le_refl _) (by omega)
    obtain ⟨hi, e⟩ := List.getElem?_eq_some_iff.1 h0
    rw [List.drop_eq_getElem_cons hi, e, runAt, runAt_is d (i + 1) (fun j a b => h1 j (by omega) (by omega)) (by rw [show i + 1 + d = i + (d + 1) by omega]; exact h2)]
theorem progAt_bd {z : List Bool} (hz : z.length = 8) : ∀ i, i ≤ 8 → (progAt z i).1 ≤ (progAt z i).2 ∧ (progAt z i).2 ≤ 8
  | 0, _ => by simp [progAt]
  | i + 1, h => by
    rw [progAt_succ]; unfold stepRow
    split
    · have := runAt_le (z.drop i); simp [hz] at this; simp; omega
    · exact progAt_bd hz i (by omega)
def stepRef (z : List Bool) (a : Nat × Nat) (i : Nat) : Nat × Nat := if a.2 < runAt (z.drop i) then (i, runAt (z.drop i)) else a
def refAt (z : List Bool) (i : Nat) : Nat × Nat := (List.range i).foldl (stepRef z) (0, 0)
theorem refAt_succ (z : List Bool) (i : Nat) : refAt z (i + 1) = stepRef z (refAt z i) i := by unfold refAt; rw [List.range_succ, List.foldl_append]; rfl
theorem refAt_end (z : List Bool) : refAt z 8 = refRow z := rfl
theorem refAt_bd {z : List Bool} (hz : z.length = 8) : ∀ i, i ≤ 8 → (refAt z i).1 ≤ 8 ∧ (refAt z i).2 ≤ 8
  | 0, _ => by simp [refAt]
  | i + 1, h => by
    rw [refAt_succ]; unfold stepRef
    split
    · have := runAt_le (z.drop i); simp [hz] at this; simp; omega
    · exact refAt_bd hz i (by omega)
theorem zeros_at {G : List Nat} {i x : Nat} (h : G[i]? = some x) : (zeros G)[i]? = some (x == 0) := by simp [zeros, h]
theorem zeros_len (G : List Nat) : (zeros G).length = G.length := by simp [zeros]

theorem bit_up (V j r : Nat) : V / 2 ^ j % 2 ^ (r + 1) = 2 * (V / 2 ^ (j + 1) % 2 ^ r) + V / 2 ^ j % 2 := by
  rw [Nat.pow_succ, Nat.mul_comm (2 ^ r) 2, Nat.mod_mul, Nat.pow_succ, ← Nat.div_div_eq_div_mul]; omega
theorem bytesB_mod {k n i : Nat} (hi : i < k) : (bytesB k n)[i]? = some (n / 2 ^ (8 * (k - 1 - i)) % 256) := by
  unfold bytesB
  simp [hi]
  rw [Nat.pow_mul]
end Go.Proofs.YtpfilldnfpcpkaaGreatDoor

namespace Go.Proofs.YtpfilldnfpcpkaaGreatDoor
open Go.RowKit

def bitI (n i : Nat) : Int := ((n / 2 ^ i % 2 : Nat) : Int)
def shrI (a : Int) (k : Nat) : Int := a / 2 ^ k
def rowV (f : Nat → Int) (k : Nat) : List Value := (List.range k).map fun j => Value.int .i64 (f j)
theorem rowV_succ (f : Nat → Int) (k : Nat) : rowV f (k + 1) = rowV f k ++ [.int .i64 (f k)] := by simp [rowV, List.range_succ]
theorem rowV_get (f : Nat → Int) {k j : Nat} (h : j < k) : (rowV f k)[j]? = some (.int .i64 (f j)) := by simp [rowV, h]
theorem bitI_bd (n i : Nat) : 0 ≤ bitI n i ∧ bitI n i ≤ 1 := by unfold bitI; omega
theorem shrI_zero (a : Int) : shrI a 0 = a := by simp [shrI]
theorem shrI_succ (a : Int) (k : Nat) : shrI a k / 2 = shrI a (k + 1) := by
  unfold shrI; rw [Int.pow_succ, ← Int.ediv_ediv_of_nonneg (by rw [pow_cast]; exact Int.natCast_nonneg _)]
theorem shrI_bd {a : Int} (h0 : 0 ≤ a) (h1 : a < 18446744073709551616) (k : Nat) : 0 ≤ shrI a k ∧ shrI a k < 18446744073709551616 := by
  obtain ⟨A, rfl⟩ := Int.eq_ofNat_of_zero_le h0
  unfold shrI
  rw [divpow]
  have := Nat.div_le_self A (2 ^ k)
  generalize A / 2 ^ k = x at *
  omega
theorem bit_lo {h l : Int} (h0 : 0 ≤ h) (l0 : 0 ≤ l) {k : Nat} (hk : k < 64) : bitI (num h l) k = shrI l k % 2 := by
  obtain ⟨H, rfl⟩ := Int.eq_ofNat_of_zero_le h0
  obtain ⟨L, rfl⟩ := Int.eq_ofNat_of_zero_le l0
  unfold bitI shrI num
  simp only [Int.toNat_natCast]
  rw [divpow]
  have e : (H * 18446744073709551616 + L) / 2 ^ k = H * 2 ^ (63 - k) * 2 + L / 2 ^ k := by
    have hp : 18446744073709551616 = 2 ^ (63 - k) * 2 * 2 ^ k := by
      rw [← Nat.pow_succ, ← Nat.pow_add, show (63 - k).succ + k = 64 from by omega]
    rw [hp, ← Nat.mul_assoc, ← Nat.mul_assoc, Nat.add_comm, Nat.add_mul_div_right _ _ (Nat.two_pow_pos _), Nat.add_comm]
  rw [e]
  generalize H * 2 ^ (63 - k) = x
  generalize L / 2 ^ k = y
  omega
theorem bit_hi {h l : Int} (h0 : 0 ≤ h) (l0 : 0 ≤ l) (l1 : l < 18446744073709551616) (k : Nat) : bitI (num h l) (64 + k) = shrI h k % 2 := by
  obtain ⟨H, rfl⟩ := Int.eq_ofNat_of_zero_le h0
  obtain ⟨L, rfl⟩ := Int.eq_ofNat_of_zero_le l0
  unfold bitI shrI num
  simp only [Int.toNat_natCast]
  rw [divpow, Nat.pow_add, ← Nat.div_div_eq_div_mul, two64, show (H * 18446744073709551616 + L) / 18446744073709551616 = H from by omega]
  omega

def sumB (f : Nat → Int) (from_ : Nat) : Nat → Nat
  | 0 => 0
  | c + 1 => sumB f (from_ + 1) c * 2 + (f from_).toNat
theorem sumB_lt {f : Nat → Int} (hf : ∀ j, f j ≤ 1) : ∀ (c from_ : Nat), sumB f from_ c < 2 ^ c
  | 0, _ => by simp [sumB]
  | c + 1, from_ => by
    have := sumB_lt hf c (from_ + 1)
    have := hf from_
    rw [sumB, Nat.pow_succ]
    omega
theorem sumB_bits {f : Nat → Int} {n : Nat} (hf : ∀ j, f j = bitI n j) : ∀ (c from_ : Nat), sumB f from_ c = n / 2 ^ from_ % 2 ^ c
  | 0, from_ => by simp [sumB, Nat.mod_one]
  | c + 1, from_ => by
    rw [sumB, sumB_bits hf c (from_ + 1), hf]
    unfold bitI
    rw [Int.toNat_natCast, Nat.pow_succ 2 from_, ← Nat.div_div_eq_div_mul, Nat.pow_succ', Nat.mod_mul]
    omega
theorem sumB_congr {f g : Nat → Int} : ∀ (c from_ : Nat), (∀ j, from_ ≤ j → j < from_ + c → f j = g j) → sumB f from_ c = sumB g from_ c
  | 0, _, _ => rfl
  | c + 1, from_, h => by
    rw [sumB, sumB, h from_ (Nat.le_refl _) (by omega), sumB_congr c (from_ + 1) fun j h1 h2 => h j (by omega) (by omega)]
theorem sumB_join (f : Nat → Int) (d : Nat) : ∀ (c from_ : Nat), sumB f from_ (c + d) = sumB f (from_ + c) d * 2 ^ c + sumB f from_ c
  | 0, from_ => by simp [sumB]
  | c + 1, from_ => by
    rw [show c + 1 + d = (c + d) + 1 from by omega, sumB, sumB_join f d c (from_ + 1), sumB, Nat.pow_succ, show from_ + 1 + c = from_ + (c + 1) from by omega, Nat.add_mul, Nat.mul_assoc, Nat.add_assoc]
end Go.Proofs.YtpfilldnfpcpkaaGreatDoor

namespace Go.Proofs.YtpfilldnfpcpkaaGreatDoor
open Go.RowKit

theorem info_int : (Tryz.prog.info? 3).map (fun i => (i.zero, i.size, i.bytes)) = some (some (.int .i64 0), 1, 8) := by kernel_rfl

theorem one_cell_int (n : Int) : ∀ u ∈ [Value.int .i64 n], u.oneCell' = true := by intro u hu; simp at hu; subst hu; rfl
theorem own_empty (w : World) (t : TypeId) (base : Nat) (h : base ≤ w.heap.size) : (w.alloc (.cells #[] t)).ownsRow base t 1 (.slice (some ⟨w.heap.size, 0, none⟩) 0 0) 0 [] :=
  World.ownsRow_made w #[] 0 h (by simp [maxLen]) (by simp)
set_option maxRecDepth 100000 in
set_option maxHeartbeats 800000 in
theorem bits_c (ah al : Int) (w : World) (h0_ah : 0 ≤ ah) (h1_ah : ah < 18446744073709551616) (h0_al : 0 ≤ al) (h1_al : al < 18446744073709551616) :
    Calls Tryz.prog 145 #[.agg #[.int .u64 ah, .int .u64 al]] w fun e w' =>
      ∃ v, e = .returned v ∧ w'.ownsRow w.heap.size 3 1 v 128 (rowV (bitI (num ah al)) 128) ∧ Below w.heap.size w w' := by
  obtain ⟨i0, hi0, hz0, hz1, hz2⟩ := info_parts info_int
  have ho := own_empty (w.alloc (.cells #[.int .u64 ah, .int .u64 al] 24)) 3 w.heap.size (by simp)
  simp only [size_alloc'] at ho
  have hlo : ∀ k, k < 64 → bitI (num ah al) k = shrI al k % 2 := fun k hk => bit_lo h0_ah h0_al hk
  have hhi : ∀ k, bitI (num ah al) (64 + k) = shrI ah k % 2 := fun k => bit_hi h0_ah h0_al h1_al k
  have HLO := Lib.hid hlo
  have HHI := Lib.hid hhi
  have hsl : ∀ k, 0 ≤ shrI al k ∧ shrI al k < 18446744073709551616 := fun k => shrI_bd h0_al h1_al k
  have hsh : ∀ k, 0 ≤ shrI ah k ∧ shrI ah k < 18446744073709551616 := fun k => shrI_bd h0_ah h1_ah k
  have HSL := Lib.hid hsl
  have HSH := Lib.hid hsh
  clear hlo hhi hsl hsh
  generalize hf : bitI (num ah al) = f at *
  clear hf
  go_enter Tryz.func145, Tryz.ntmps145
  go_wp2
  go_loopw [3, 4, 6] (fun l lo i wr => ∃ k : Nat, k ≤ 64 ∧ i = .int .i64 k ∧ lo = .int .u64 (shrI al k) ∧ wr.ownsRow w.heap.size 3 1 l k (rowV f k) ∧ Below w.heap.size w wr) (fun _ _ i _ => 64 - (intOf i).toNat)
  case atStart => exact ⟨0, by omega, rfl, by rw [shrI_zero], ho, bl_⟩
  case round =>
    obtain ⟨k, hk, rfl, rfl, hown, hbel⟩ := hrel
    by_cases hlt : k < 64
    · obtain ⟨g1, g2⟩ := HSL.out k
      have hv := HLO.out k hlt
      have HV := Lib.hid hv
      clear hv
      have hz := hbel.size
      go_wp2_with (at_builtin; refine wpList_append_own _ rfl _ _ 52 rfl w.heap.size 3 i0 (.int .i64 0) 1 8 Tryz.underlying52 hi0 hz0 hz1 hz2 rfl (by decide) _ _ _ rfl (hown.alloc _) ⟨wr.heap.size, 0, none⟩ 1 1 [.int .i64 (shrI al k % 2)] rfl rfl ?q1_1 ?q1_2 ?q1_3 ?q1_4 ?q1_5 ?_)
      (try case q1_1 => exact cell_one _ _ _)
      (try case q1_2 => (first | exact one_cell_int _ | rfl))
      case q1_3 => (first | (simp only [maxLen]; omega) | omega)
      case q1_4 => omega
      case q1_5 => (first | (rw [size_alloc']; omega) | omega)
      intro v' w1 hown' hgrow _
      have hbel1 := below_own hbel hown (Nat.le_refl _) hgrow
      clear hown hgrow
      go_wp2
      go_roundw
      case rel => exact ⟨k + 1, by omega, by go_num, by rw [shrI_succ], by rw [rowV_succ, HV.out]; exact hown', hbel1⟩
      case measure => simp [intOf]; omega
    · have hk64 : k = 64 := by omega
      subst hk64
      rw [show ((64 : Nat) : Int) = (64 : Int) from rfl]
      go_wp2
      go_loopw [3, 5, 7] (fun l hi i ws => ∃ k : Nat, k ≤ 64 ∧ i = .int .i64 k ∧ hi = .int .u64 (shrI ah k) ∧ ws.ownsRow w.heap.size 3 1 l (64 + k) (rowV f (64 + k)) ∧ Below w.heap.size w ws) (fun _ _ i _ => 64 - (intOf i).toNat)
      case atStart => exact ⟨0, by omega, rfl, by rw [shrI_zero], hown, hbel⟩
      case round =>
        obtain ⟨k, hk, rfl, rfl, hown, hbel⟩ := hrel
        by_cases hlt : k < 64
        · obtain ⟨g1, g2⟩ := HSH.out k
          have hv := HHI.out k
          have HV := Lib.hid hv
          clear hv
          have hz := hbel.size
          go_wp2_with (at_builtin; refine wpList_append_own _ rfl _ _ 52 rfl w.heap.size 3 i0 (.int .i64 0) 1 8 Tryz.underlying52 hi0 hz0 hz1 hz2 rfl (by decide) _ _ _ rfl (hown.alloc _) ⟨wr.heap.size, 0, none⟩ 1 1 [.int .i64 (shrI ah k % 2)] rfl rfl ?q2_1 ?q2_2 ?q2_3 ?q2_4 ?q2_5 ?_)
          (try case q2_1 => exact cell_one _ _ _)
          (try case q2_2 => (first | exact one_cell_int _ | rfl))
          case q2_3 => (first | (simp only [maxLen]; omega) | omega)
          case q2_4 => omega
          case q2_5 => (first | (rw [size_alloc']; omega) | omega)
          intro v' w1 hown' hgrow _
          have hbel1 := below_own hbel hown (Nat.le_refl _) hgrow
          clear hown hgrow
          go_wp2
          go_roundw
          case rel => exact ⟨k + 1, by omega, by go_num, by rw [shrI_succ], by rw [show 64 + (k + 1) = 64 + k + 1 from by omega, rowV_succ, HV.out]; exact hown', hbel1⟩
          case measure => simp [intOf]; omega
        · have hk64 : k = 64 := by omega
          subst hk64
          go_wp2
          go_ret
          exact ⟨_, rfl, hown, hbel⟩
end Go.Proofs.YtpfilldnfpcpkaaGreatDoor

namespace Go.Proofs.YtpfilldnfpcpkaaGreatDoor
open Go.RowKit

theorem sum_half {f : Nat → Int} (hf : ∀ j, f j ≤ 1) {c from_ : Nat} (hc : c ≤ 63) : sumB f from_ c < 9223372036854775808 :=
  Nat.lt_of_lt_of_le (sumB_lt hf c from_) (by rw [show (9223372036854775808 : Nat) = 2 ^ 63 from by decide]; exact Nat.pow_le_pow_right (by omega) hc)

set_option maxRecDepth 100000 in
set_option maxHeartbeats 1600000 in
theorem refnum_c (g o n cap : Nat) (f : Nat → Int) (w : World) (hn : n ≤ 140737488355328) (hf : ∀ j, 0 ≤ f j ∧ f j ≤ 1) (hf0 : ∀ j, n ≤ j → f j = 0) (hg : g < w.heap.size)
    (hc : ∀ j, j < n → w.cell? ⟨g, o + j, none⟩ = some (.int .i64 (f j))) :
    Calls Tryz.prog 170 #[.slice (some ⟨g, o, none⟩) n cap] w fun e w' => e = .returned (numV (sumB f 0 128)) ∧ Below w.heap.size w w' := by
  have HF := Lib.hid hf
  have HF0 := Lib.hid hf0
  have HC := Lib.hid hc
  clear hf hf0 hc
  go_enter Tryz.func170, Tryz.ntmps170
  go_wp2
  go_loopw [4] (fun i wr => ∃ c : Nat, 64 ≤ c ∧ c ≤ 128 ∧ i = .int .i64 ((c : Int) - 1) ∧ Blk wr w.heap.size 24 #[.int .u64 0, .int .u64 0] ∧ Blk wr (w.heap.size + 1) 24 #[.int .u64 (sumB f c (128 - c) : Nat), .int .u64 0] ∧ Below w.heap.size w wr) (fun i _ => (intOf i + 1).toNat)
  case atStart => exact ⟨128, by omega, by omega, rfl, (Blk.new _ _ _).alloc _, by rw [← size_alloc' w (.cells #[.int .u64 0, .int .u64 0] 24)]; exact Blk.new _ _ _, bl_⟩
  case round =>
    obtain ⟨c, hc1, hc2, rfl, hb1, hb2, hbel⟩ := hrel
    have k0 := hb2.cell 0
    have k1 := hb2.cell 1
    have z0 := hb2.frozen 0
    have z1 := hb2.frozen 1
    by_cases hlt : 65 ≤ c
    · obtain ⟨j, rfl⟩ : ∃ j, c = j + 1 := ⟨c - 1, by omega⟩
      rw [show (((j + 1 : Nat) : Int) - 1) = (j : Int) from by omega]
      have hs2 := sum_half (f := f) (fun j => (HF.out j).2) (c := 128 - (j + 1)) (from_ := j + 1) (by omega)
      have hsum : sumB f j (128 - j) = sumB f (j + 1) (128 - (j + 1)) * 2 + (f j).toNat := by rw [show 128 - j = (128 - (j + 1)) + 1 from by omega]; rfl
      generalize sumB f (j + 1) (128 - (j + 1)) = H at *
      have HS := Lib.hid hsum
      clear hsum
      simp at k0 k1
      have dj : decide (64 ≤ (j : Int)) = true := by simp; omega
      obtain ⟨m1, m2⟩ := HF.out j
      by_cases hjn : j < n
      · have hcr : wr.cell? ⟨g, o + j, none⟩ = some (.int .i64 (f j)) := (hbel.cell (p := ⟨g, o + j, none⟩) hg).trans (HC.out j hjn)
        have hgne : g ≠ w.heap.size + 1 := by omega
        have dn : decide (j < n) = true := by simpa using hjn
        go_wp2
        go_region
        go_wp2
        go_roundw
        case rel =>
          refine ⟨j, by omega, by omega, rfl, ((hb1.far (by simp) _).far (by simp) _).drew, ?_, bl_⟩
          rw [HS.out, show ((H * 2 + (f j).toNat : Nat) : Int) = (H : Int) * 2 + f j from by omega]
          exact ((hb2.put 0 _).put 0 _).drew
        case measure => simp [intOf] <;> omega
      · have dn : decide (j < n) = false := by simpa using hjn
        have hfz := HF0.out j (by omega)
        have HFZ := Lib.hid hfz
        clear hfz m1 m2
        go_wp2
        go_roundw
        case rel =>
          refine ⟨j, by omega, by omega, rfl, hb1.far (by simp) _, ?_, bl_⟩
          rw [HS.out, HFZ.out, show ((H * 2 + (0 : Int).toNat : Nat) : Int) = (H : Int) * 2 from by simp]
          exact hb2.put 0 _
        case measure => simp [intOf] <;> omega
    · obtain rfl : c = 64 := by omega
      rw [show ((64 : Nat) : Int) - 1 = (63 : Int) from rfl]
      obtain ⟨H, hH⟩ : ∃ H, sumB f 64 (128 - 64) = H := ⟨_, rfl⟩
      rw [hH] at hb2 k0
      have HH := Lib.hid hH
      clear hH k0 k1 z0 z1
      go_wp2
      go_loopw [5] (fun i ws => ∃ c : Nat, c ≤ 64 ∧ i = .int .i64 ((c : Int) - 1) ∧ Blk ws w.heap.size 24 #[.int .u64 0, .int .u64 0] ∧ Blk ws (w.heap.size + 1) 24 #[.int .u64 H, .int .u64 (sumB f c (64 - c) : Nat)] ∧ Below w.heap.size w ws) (fun i _ => (intOf i + 1).toNat)
      case atStart => exact ⟨64, by omega, rfl, hb1, hb2, hbel⟩
      case round =>
        obtain ⟨c, hc2, rfl, hb1, hb2, hbel⟩ := hrel
        have k0 := hb2.cell 0
        have k1 := hb2.cell 1
        have z0 := hb2.frozen 0
        have z1 := hb2.frozen 1
        have y0 := hb1.cell 0
        have y1 := hb1.cell 1
        have x0 := hb1.frozen 0
        have x1 := hb1.frozen 1
        simp at k0 k1 y0 y1
        by_cases hlt : 1 ≤ c
        · obtain ⟨j, rfl⟩ : ∃ j, c = j + 1 := ⟨c - 1, by omega⟩
          rw [show (((j + 1 : Nat) : Int) - 1) = (j : Int) from by omega]
          have hs2 := sum_half (f := f) (fun j => (HF.out j).2) (c := 64 - (j + 1)) (from_ := j + 1) (by omega)
          have hsum : sumB f j (64 - j) = sumB f (j + 1) (64 - (j + 1)) * 2 + (f j).toNat := by rw [show 64 - j = (64 - (j + 1)) + 1 from by omega]; rfl
          generalize sumB f (j + 1) (64 - (j + 1)) = L at *
          have HS := Lib.hid hsum
          clear hsum
          have dj : decide (0 ≤ (j : Int)) = true := by simp
          obtain ⟨m1, m2⟩ := HF.out j
          by_cases hjn : j < n
          · have hcr : wr.cell? ⟨g, o + j, none⟩ = some (.int .i64 (f j)) := (hbel.cell (p := ⟨g, o + j, none⟩) hg).trans (HC.out j hjn)
            have hgne : g ≠ w.heap.size + 1 := by omega
            have dn : decide (j < n) = true := by simpa using hjn
            go_wp2
            go_region
            go_wp2
            go_roundw
            case rel =>
              refine ⟨j, by omega, rfl, ((hb1.far (by simp) _).far (by simp) _).drew, ?_, bl_⟩
              rw [HS.out, show ((L * 2 + (f j).toNat : Nat) : Int) = (L : Int) * 2 + f j from by omega]
              exact ((hb2.put 1 _).put 1 _).drew
            case measure => simp [intOf] <;> omega
          · have dn : decide (j < n) = false := by simpa using hjn
            have hfz := HF0.out j (by omega)
            have HFZ := Lib.hid hfz
            clear hfz m1 m2
            go_wp2
            go_roundw
            case rel =>
              refine ⟨j, by omega, rfl, hb1.far (by simp) _, ?_, bl_⟩
              rw [HS.out, HFZ.out, show ((L * 2 + (0 : Int).toNat : Nat) : Int) = (L : Int) * 2 from by simp]
              exact hb2.put 1 _
            case measure => simp [intOf] <;> omega
        · obtain rfl : c = 0 := by omega
          rw [show ((0 : Nat) : Int) - 1 = (-1 : Int) from rfl]
          obtain ⟨L, hL⟩ : ∃ L, sumB f 0 (64 - 0) = L := ⟨_, rfl⟩
          rw [hL] at hb2 k1
          have hbd := HF.out
          have q : numV (sumB f 0 128) = .agg #[.int .u64 H, .int .u64 L] := by
            have e1 := sumB_join f 64 64 0
            rw [Nat.zero_add, show sumB f 64 64 = H from HH.out, show sumB f 0 64 = L from hL] at e1
            have e2 := sumB_lt (fun j => (hbd j).2) 64 64
            rw [show sumB f 64 64 = H from HH.out] at e2
            have e3 := sumB_lt (fun j => (hbd j).2) 64 0
            rw [show sumB f 0 64 = L from hL] at e3
            rw [two64] at e1 e2 e3
            exact (numV_nat e2 e3 e1.symm).symm
          have QQ := Lib.hid q
          clear q hL hbd
          go_wp2
          refine bodyPost_ret (v := .agg #[.int .u64 H, .int .u64 L]) (by simp [results, Tryz.results170, go_sem, y0, y1]) rfl ⟨by rw [QQ.out], bl_⟩
end Go.Proofs.YtpfilldnfpcpkaaGreatDoor

namespace Go.Proofs.YtpfilldnfpcpkaaGreatDoor
open Go.RowKit

def carryN (a b k : Nat) : Nat := (a % 2 ^ k + b % 2 ^ k) / 2 ^ k
theorem carry_zero (a b : Nat) : carryN a b 0 = 0 := by simp [carryN, Nat.mod_one]
theorem carry_bd (a b k : Nat) : carryN a b k ≤ 1 := by
  unfold carryN
  have h := Nat.two_pow_pos k
  have h1 := Nat.mod_lt a h
  have h2 := Nat.mod_lt b h
  have : (a % 2 ^ k + b % 2 ^ k) / 2 ^ k < 2 := by rw [Nat.div_lt_iff_lt_mul h]; omega
  omega
theorem add_bit (a b k : Nat) : (a / 2 ^ k % 2 + b / 2 ^ k % 2 + carryN a b k) % 2 = (a + b) / 2 ^ k % 2 := by
  have h := Nat.two_pow_pos k
  have e : (a + b) / 2 ^ k = a / 2 ^ k + b / 2 ^ k + carryN a b k := by
    have e1 := Nat.div_add_mod a (2 ^ k)
    have e2 := Nat.div_add_mod b (2 ^ k)
    have e3 : a + b = 2 ^ k * (a / 2 ^ k + b / 2 ^ k) + (a % 2 ^ k + b % 2 ^ k) := by rw [Nat.mul_add]; omega
    rw [e3, Nat.mul_add_div h]; rfl
  rw [e]; omega
theorem add_carry (a b k : Nat) : (a / 2 ^ k % 2 + b / 2 ^ k % 2 + carryN a b k) / 2 = carryN a b (k + 1) := by
  have h := Nat.two_pow_pos k
  unfold carryN
  rw [Nat.pow_succ, Nat.mod_mul, Nat.mod_mul, ← Nat.div_div_eq_div_mul]
  have e : a % 2 ^ k + 2 ^ k * (a / 2 ^ k % 2) + (b % 2 ^ k + 2 ^ k * (b / 2 ^ k % 2)) = 2 ^ k * (a / 2 ^ k % 2 + b / 2 ^ k % 2) + (a % 2 ^ k + b % 2 ^ k) := by rw [Nat.mul_add]; omega
  rw [e, Nat.mul_add_div h]
theorem add_stepI (a b k : Nat) : (bitI a k + bitI b k + (carryN a b k : Int)) % 2 = bitI (a + b) k ∧ (bitI a k + bitI b k + (carryN a b k : Int)) / 2 = (carryN a b (k + 1) : Int) := by
  have h1 := add_bit a b k
  have h2 := add_carry a b k
  unfold bitI
  omega
theorem two128 : (2 : Nat) ^ 128 = 340282366920938463463374607431768211456 := by decide
theorem carry_end {a b : Nat} (ha : a < 340282366920938463463374607431768211456) (hb : b < 340282366920938463463374607431768211456) : ((carryN a b 128 : Int) == 0) = addF a b := by
  unfold carryN addF
  rw [two128, Nat.mod_eq_of_lt ha, Nat.mod_eq_of_lt hb, Bool.eq_iff_iff]
  simp only [beq_iff_eq, decide_eq_true_eq]
  omega

/-- a row of bits that is cut off behind the n-th -/
def cutI (n : Nat) (f : Nat → Int) (j : Nat) : Int := if j < n then f j else 0
theorem cutI_lt {n : Nat} {f : Nat → Int} {j : Nat} (h : j < n) : cutI n f j = f j := by unfold cutI; rw [if_pos h]
theorem cutI_ge {n : Nat} {f : Nat → Int} {j : Nat} (h : n ≤ j) : cutI n f j = 0 := by unfold cutI; rw [if_neg (by omega)]
theorem cutI_bd {n : Nat} {f : Nat → Int} (h : ∀ j, j < n → 0 ≤ f j ∧ f j ≤ 1) (j : Nat) : 0 ≤ cutI n f j ∧ cutI n f j ≤ 1 := by
  unfold cutI; split
  · exact h j (by assumption)
  · omega
theorem sum_cut (x : Nat) : sumB (cutI 128 (bitI x)) 0 128 = x % 340282366920938463463374607431768211456 := by
  rw [sumB_congr (g := bitI x) 128 0 (fun j _ h => cutI_lt (by omega)), sumB_bits (fun _ => rfl), Nat.pow_zero, Nat.div_one, two128]
theorem sum_cut_of {f : Nat → Int} {x : Nat} (h : ∀ j, j < 128 → f j = bitI x j) : sumB (cutI 128 f) 0 128 = x % 340282366920938463463374607431768211456 := by
  rw [← sum_cut x]
  exact sumB_congr 128 0 fun j _ hj => by rw [cutI_lt (by omega), cutI_lt (by omega), h j (by omega)]

theorem cmp_same {a b j : Nat} (h : a / 2 ^ (j + 1) = b / 2 ^ (j + 1)) (e : bitI a j = bitI b j) : a / 2 ^ j = b / 2 ^ j := by
  rw [Nat.pow_succ, ← Nat.div_div_eq_div_mul, ← Nat.div_div_eq_div_mul] at h
  unfold bitI at e
  omega
theorem cmp_bits {a b j : Nat} (h : a / 2 ^ (j + 1) = b / 2 ^ (j + 1)) (e : bitI a j ≠ bitI b j) : bitI a j - bitI b j = cmpN a b := by
  rw [Nat.pow_succ, ← Nat.div_div_eq_div_mul, ← Nat.div_div_eq_div_mul] at h
  have hp := Nat.two_pow_pos j
  have h1 : a / 2 ^ j < b / 2 ^ j → a < b := fun q => Nat.lt_of_not_le fun r => by have := Nat.div_le_div_right (c := 2 ^ j) r; omega
  have h2 : b / 2 ^ j < a / 2 ^ j → b < a := fun q => Nat.lt_of_not_le fun r => by have := Nat.div_le_div_right (c := 2 ^ j) r; omega
  unfold bitI at e ⊢
  unfold cmpN
  rcases Nat.lt_trichotomy (a / 2 ^ j) (b / 2 ^ j) with q | q | q
  · rw [if_pos (h1 q)]; omega
  · omega
  · have := h2 q
    rw [if_neg (by omega), if_neg (by omega)]; omega
theorem cmp_eq {a b : Nat} (h : a / 2 ^ 0 = b / 2 ^ 0) : cmpN a b = 0 := by
  rw [Nat.pow_zero, Nat.div_one, Nat.div_one] at h
  unfold cmpN; rw [if_neg (by omega), if_pos h]
end Go.Proofs.YtpfilldnfpcpkaaGreatDoor

namespace Go.Proofs.YtpfilldnfpcpkaaGreatDoor
open Go.RowKit

/-- a row of bits that the callee hands back, opened -/
theorem bits_f (ah al : Int) (w : World) (h0_ah : 0 ≤ ah) (h1_ah : ah < 18446744073709551616) (h0_al : 0 ≤ al) (h1_al : al < 18446744073709551616) :
    Calls Tryz.prog 145 #[.agg #[.int .u64 ah, .int .u64 al]] w fun e w' =>
      ∃ g cap, e = .returned (.slice (some ⟨g, 0, none⟩) 128 cap) ∧ 128 ≤ cap ∧ w.heap.size ≤ g ∧ g < w'.heap.size ∧ (∀ j, j < 128 → w'.cell? ⟨g, j, none⟩ = some (.int .i64 (bitI (num ah al) j))) ∧ (∀ j, w'.frozen? ⟨g, j, none⟩ = false) ∧ Below w.heap.size w w' := by
  refine (bits_c ah al w h0_ah h1_ah h0_al h1_al).mono ?_
  rintro e w' ⟨v, rfl, hown, hb⟩
  obtain ⟨g, cap, rfl, g1, g2, g3, g4, g5⟩ := own_form hown (by omega)
  exact ⟨g, cap, rfl, g3, g1, g2, fun j hj => g4 j _ (rowV_get _ hj), g5, hb⟩

/-- the number of a row of 128 bits of the call's own -/
theorem refnum_own {w : World} {base : Nat} {v : Value} {f : Nat → Int} {x : Nat} (hown : w.ownsRow base 3 1 v 128 (rowV f 128)) (hf : ∀ j, j < 128 → f j = bitI x j) :
    Calls Tryz.prog 170 #[v] w fun e w' => e = .returned (numV (x % 340282366920938463463374607431768211456)) ∧ Below w.heap.size w w' := by
  obtain ⟨g, cap, rfl, g1, g2, g3, g4, g5⟩ := own_form hown (by omega)
  have h := refnum_c g 0 128 cap (cutI 128 f) w (by omega) (cutI_bd fun j hj => by rw [hf j hj]; exact bitI_bd x j) (fun j hj => cutI_ge hj) g2 (fun j hj => by
    rw [Nat.zero_add, cutI_lt hj]; exact g4 j _ (rowV_get _ hj))
  rw [sum_cut_of hf] at h
  exact h

end Go.Proofs.YtpfilldnfpcpkaaGreatDoor

namespace Go.Proofs.YtpfilldnfpcpkaaGreatDoor
open Go.RowKit

theorem cmp_k (a b : Nat) (w : World) (ha : a < 340282366920938463463374607431768211456) (hb : b < 340282366920938463463374607431768211456) :
    Calls Tryz.prog 88 #[numV a, numV b] w fun e w' => e = .returned (.int .i64 (cmpN a b)) ∧ Below w.heap.size w w' := by
  have h := cmp_c (hi a) (lo a) (hi b) (lo b) w (hi_nn _) (hi_lt _) (lo_nn _) (lo_lt _) (hi_nn _) (hi_lt _) (lo_nn _) (lo_lt _)
  rw [num_hi_lo ha, num_hi_lo hb] at h
  exact h
/-- which of two addresses is first -/
def cmpA (v : Bool) (a : Nat) (u : Bool) (b : Nat) : Int := if v = u then cmpN a b else if v = true then 1 else -1
set_option maxRecDepth 100000 in
theorem rwidth_c (v6 : Bool) (n : Nat) (w : World) :
    Calls Tryz.prog 67 #[AddrV v6 n] w fun e w' => e = .returned (.int .i64 (widthN v6)) ∧ Below w.heap.size w w' := by
  unfold AddrV
  cases v6
  all_goals
    go_enter Tryz.func67, Tryz.ntmps67
    go_wp2_with fail
    go_ret
    exact ⟨rfl, bl_⟩
theorem right_words {n : Nat} (hn : n < 340282366920938463463374607431768211456) : rightB false n = (decide (hi n = 0) && decide (lo n < 4294967296)) := by
  unfold rightB hi lo
  have : 2 ^ widthN false = 4294967296 := by decide
  rw [this, Bool.eq_iff_iff]
  simp
  omega
set_option maxRecDepth 100000 in
theorem rright_c (v6 : Bool) (n : Nat) (w : World) (hn : n < 340282366920938463463374607431768211456) :
    Calls Tryz.prog 105 #[AddrV v6 n] w fun e w' => e = .returned (.bool (rightB v6 n)) ∧ Below w.heap.size w w' := by
  unfold AddrV
  cases v6
  · rw [right_words hn]
    generalize hi n = h, lo n = l
    by_cases h0 : h = 0
    · subst h0
      by_cases h1 : l < 4294967296
      · go_enter Tryz.func105, Tryz.ntmps105
        go_wp2_with fail
        go_ret
        exact ⟨by simp [h1], bl_⟩
      · go_enter Tryz.func105, Tryz.ntmps105
        go_wp2_with fail
        go_ret
        exact ⟨by simp [h1], bl_⟩
    · go_enter Tryz.func105, Tryz.ntmps105
      go_wp2_with fail
      go_ret
      exact ⟨by simp [h0], bl_⟩
  · have : rightB true n = true := by unfold rightB; exact decide_eq_true hn
    rw [this]
    go_enter Tryz.func105, Tryz.ntmps105
    go_wp2_with fail
    go_ret
    exact ⟨rfl, bl_⟩
set_option maxRecDepth 100000 in
theorem acmp_c (v : Bool) (a : Nat) (u : Bool) (b : Nat) (w : World) (ha : a < 340282366920938463463374607431768211456) (hb : b < 340282366920938463463374607431768211456) :
    Calls Tryz.prog 30 #[AddrV v a, AddrV u b] w fun e w' => e = .returned (.int .i64 (cmpA v a u b)) ∧ Below w.heap.size w w' := by
  have HC := Lib.hid (fun w => cmp_k a b w ha hb)
  unfold numV at HC
  unfold AddrV
  cases v <;> cases u
  · go_enter Tryz.func30, Tryz.ntmps30
    go_wp2_with fail
    refine (HC.out _).mono ?_
    rintro e w1 ⟨rfl, hb1⟩
    go_wp2_with fail
    go_ret
    exact ⟨rfl, bl_⟩
  · go_enter Tryz.func30, Tryz.ntmps30
    go_wp2_with fail
    go_ret
    exact ⟨rfl, bl_⟩
  · go_enter Tryz.func30, Tryz.ntmps30
    go_wp2_with fail
    go_ret
    exact ⟨rfl, bl_⟩
  · go_enter Tryz.func30, Tryz.ntmps30
    go_wp2_with fail
    refine (HC.out _).mono ?_
    rintro e w1 ⟨rfl, hb1⟩
    go_wp2_with fail
    go_ret
    exact ⟨rfl, bl_⟩
end Go.Proofs.YtpfilldnfpcpkaaGreatDoor

