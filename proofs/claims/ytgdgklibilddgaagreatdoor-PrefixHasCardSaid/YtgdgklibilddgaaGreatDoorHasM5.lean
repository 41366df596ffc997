/-
PrefixHas: whether a prefix may be, its ends, which addresses it has, what lies within it and what overlaps it are what the reference tells: for every two prefixes, every address and every number of bits the call returns true. No condition; the listed variables are tied to the program's text.
-/
import Derived.ProofKit
import Derived.ChangeSame
import Derived.LaidMore
import Derived.Lay
import Derived.MakeChecks
import Derived.LaidByTextLater
import Derived.OpenShut
import Derived.Stop.Joined
import Derived.Stop.LaidErr
import Derived.Handed
import Derived.Shelf.Vars
import Derived.Lib.SmallJoins
import Derived.Carry
import Derived.SevenTiedAt
import Derived.ShutString
import Derived.Test.YtgdgklibilddgaaGreatDoorHasM4
import Derived.Test.YtgdgklibilddgaaGreatDoorRows
import Derived.Test.YtgdgklibilddgaaGreatDoorCards
import Derived.Test.YtgdgklibilddgaaGreatDoorTie
namespace Go.Proofs.YtgdgklibilddgaaGreatDoor
open Go.RowKit Go.Proofs.YtgdgklibilddgaaGreatDoorW.PrintWords Go.Proofs.YtgdgklibilddgaaGreatDoor.PPr

/-- as a rewriting step, not by computation -/
theorem bsome {α β : Type} (x : α) (f : α → Option β) : (some x).bind f = f x := by
  have h : ∀ y : Option α, y = some x → y.bind f = f x := by intro y hy; subst hy; rfl
  exact h _ rfl
theorem aright_hl (v : Bool) {n : Nat} (hn : n < 340282366920938463463374607431768211456) : addr_Right.f v (hi n) (lo n) = some (rightB v n) := by
  unfold addr_Right.f; rw [if_pos (okW_hl n), num_hi_lo hn]
theorem rright02_hl (v : Bool) {n : Nat} (hn : n < 340282366920938463463374607431768211456) : platbookref02_Right.f v (hi n) (lo n) = some (rightB v n) := by
  unfold platbookref02_Right.f; rw [if_pos (okW_hl n), num_hi_lo hn]
theorem awidth_hl (v : Bool) (n : Nat) : addr_Width.f v (hi n) (lo n) = some ((widthN v : Nat) : Int) := by
  unfold addr_Width.f; rw [if_pos (okW_hl n)]
theorem pright_hl (v : Bool) {n : Nat} (b : Int) (hn : n < 340282366920938463463374607431768211456) : prefix_Right.f v (hi n) (lo n) b = some (rightP v n b) := by
  unfold prefix_Right.f; rw [if_pos (okW_hl n), num_hi_lo hn]
theorem free_hl (v : Bool) (n : Nat) {b : Int} (h0 : 0 ≤ b) (h1 : b ≤ (widthN v : Int)) : prefix_free.f v (hi n) (lo n) b = some (hi (2 ^ fr v b - 1), lo (2 ^ fr v b - 1)) := by
  unfold prefix_free.f; rw [okW_hl, decide_eq_true h0, decide_eq_true h1]; rfl
theorem not_hl {n : Nat} (hn : n < 340282366920938463463374607431768211456) : num_Not.f (hi n) (lo n) = some (hi (notN n), lo (notN n)) := by
  unfold num_Not.f; rw [if_pos (okW_hl n), num_hi_lo hn]
theorem and_hl {n m : Nat} (hn : n < 340282366920938463463374607431768211456) (hm : m < 340282366920938463463374607431768211456) : num_And.f (hi n) (lo n) (hi m) (lo m) = some (hi (n &&& m), lo (n &&& m)) := by
  unfold num_And.f; rw [okW_hl, okW_hl, num_hi_lo hn, num_hi_lo hm]; rfl
theorem or_hl {n m : Nat} (hn : n < 340282366920938463463374607431768211456) (hm : m < 340282366920938463463374607431768211456) : num_Or.f (hi n) (lo n) (hi m) (lo m) = some (hi (n ||| m), lo (n ||| m)) := by
  unfold num_Or.f; rw [okW_hl, okW_hl, num_hi_lo hn, num_hi_lo hm]; rfl
theorem hl_eq {a b : Nat} (ha : a < 340282366920938463463374607431768211456) (hb : b < 340282366920938463463374607431768211456) : (hi a == hi b && lo a == lo b) = (a == b) := by
  rw [Bool.eq_iff_iff]; simp only [Bool.and_eq_true, beq_iff_eq]; exact hi_lo_eq ha hb
theorem rightP_iff {v : Bool} {n : Nat} {b : Int} : rightP v n b = true ↔ n < 2 ^ widthN v ∧ 0 ≤ b ∧ b ≤ (widthN v : Int) ∧ n % 2 ^ fr v b = 0 := by
  unfold rightP rightB; simp
theorem rightB_iff {v : Bool} {n : Nat} : rightB v n = true ↔ n < 2 ^ widthN v := by unfold rightB; simp
theorem pow_w (v : Bool) : 2 ^ widthN v ≤ 340282366920938463463374607431768211456 := by cases v <;> decide
theorem top_lt {f n : Nat} (hn : n < 340282366920938463463374607431768211456) : topN f n < 340282366920938463463374607431768211456 := Nat.lt_of_le_of_lt (topN_le f n) hn
/-- without the bits behind: the reference's way -/
theorem top_ref {v : Bool} {n i : Nat} (hn : n < 2 ^ widthN v) (hi : i ≤ widthN v) : n / 2 ^ (widthN v - i) % 2 ^ i * 2 ^ (widthN v - i) = topN (widthN v - i) n := by
  unfold topN
  rw [Nat.mod_eq_of_lt]
  rw [Nat.div_lt_iff_lt_mul (Nat.two_pow_pos _), ← Nat.pow_add, show i + (widthN v - i) = widthN v by omega]; exact hn
def ofS (v : Bool) (n : Nat) (b : Int) : Bool × Nat × Int × Int := if rightB v n = true ∧ 0 ≤ b ∧ b ≤ (widthN v : Int) then (v, topN (fr v b) n, b, 0) else (false, 0, 0, 1)
def tup5 (x : Bool × Nat × Int × Int) : Bool × Int × Int × Int × Int := (x.1, hi x.2.1, lo x.2.1, x.2.2.1, x.2.2.2)
theorem hi00 : hi 0 = 0 := rfl
theorem lo00 : lo 0 = 0 := rfl
theorem fr_lt (v : Bool) (b : Int) : 2 ^ fr v b - 1 < 340282366920938463463374607431768211456 := pow_fr v b
theorem of_f (K : Nat) (hK : 1 ≤ K) (v : Bool) (n : Nat) (b : Int) (hn : n < 340282366920938463463374607431768211456) : prefix_Of.f K v (hi n) (lo n) b = some (tup5 (ofS v n b)) := by
  obtain ⟨k, rfl⟩ : ∃ k, K = k + 1 := ⟨K - 1, by omega⟩
  unfold prefix_Of.f ofS
  rw [aright_hl v hn]
  simp only [bsome]
  cases hr : rightB v n
  · rw [if_neg (by simp), if_neg (by simp), prefix_Of.j0, if_pos rfl]; rfl
  · rw [if_pos rfl]
    by_cases h0 : b < 0
    · rw [if_pos h0, if_neg (by omega), prefix_Of.j0, if_pos rfl]; rfl
    · rw [if_neg h0, awidth_hl]
      simp only [bsome]
      by_cases h1 : b ≤ (widthN v : Int)
      · rw [if_pos ⟨trivial, by omega, h1⟩, prefix_Of.j0, if_neg (by simp; omega), free_hl v n (by omega) h1]
        simp only [bsome]
        have hf := fr_lt v b
        have hnn : notN (2 ^ fr v b - 1) < 340282366920938463463374607431768211456 := by unfold notN; omega
        rw [not_hl hf]
        simp only [bsome]
        rw [and_hl hn hnn]
        have e : n &&& notN (2 ^ fr v b - 1) = topN (fr v b) n := by
          have := and_not (n := n) (f := fr v b) (k := 128) (fr_le v b) (by rw [show (2 : Nat) ^ 128 = 340282366920938463463374607431768211456 by decide]; exact hn)
          rw [← this]; unfold notN
          rw [show (340282366920938463463374607431768211455 : Nat) = 2 ^ 128 - 1 by decide]
        rw [e]
        simp only [tup5, bsome]
      · rw [if_neg (by simp only [true_and]; omega), prefix_Of.j0, if_pos (by simp; omega)]; rfl
theorem rof_f (K : Nat) (hK : 600 ≤ K) (v : Bool) (n : Nat) (b : Int) (hn : n < 340282366920938463463374607431768211456) : platbookref03_Of.f K v (hi n) (lo n) b = some (tup5 (ofS v n b)) := by
  obtain ⟨k, rfl⟩ : ∃ k, K = k + 500 := ⟨K - 500, by omega⟩
  unfold platbookref03_Of.f ofS
  rw [rright02_hl v hn]
  simp only [bsome]
  cases hr : rightB v n
  · rw [if_neg (by simp), if_neg (by simp)]; rfl
  · rw [if_pos rfl]
    by_cases h0 : b < 0
    · rw [if_pos h0, if_neg (by omega)]; rfl
    · rw [if_neg h0, width_hl]
      simp only [bsome]
      by_cases h1 : b ≤ (widthN v : Int)
      · rw [if_neg (by omega), if_pos ⟨trivial, by omega, h1⟩]
        obtain ⟨i, rfl⟩ := Int.eq_ofNat_of_zero_le (show 0 ≤ b by omega)
        rw [pfilled_f k v n i 0 hn (by omega) (.inl rfl), top_ref (rightB_iff.1 hr) (by omega)]
        simp only [bsome]
        have e : fr v (i : Int) = widthN v - i := by unfold fr; omega
        rw [e]; simp [tup5]
      · rw [if_pos (by omega), if_neg (by simp only [true_and]; omega)]; rfl
theorem rrightP_f (K : Nat) (hK : 600 ≤ K) (v : Bool) (n : Nat) (b : Int) (hn : n < 340282366920938463463374607431768211456) : platbookref03_Right.f K v (hi n) (lo n) b = some (rightP v n b) := by
  obtain ⟨k, rfl⟩ : ∃ k, K = k + 500 := ⟨K - 500, by omega⟩
  unfold platbookref03_Right.f
  rw [rright02_hl v hn]
  simp only [bsome]
  unfold rightP
  cases hr : rightB v n
  · rw [if_neg (by simp)]; rfl
  · rw [if_pos rfl]
    by_cases h0 : b < 0
    · rw [if_pos h0, decide_eq_false (by omega)]; rfl
    · rw [if_neg h0, width_hl, decide_eq_true (show 0 ≤ b by omega)]
      simp only [bsome]
      by_cases h1 : b ≤ (widthN v : Int)
      · rw [if_neg (by omega), decide_eq_true h1]
        obtain ⟨i, rfl⟩ := Int.eq_ofNat_of_zero_le (show 0 ≤ b by omega)
        rw [pfilled_f k v n i 0 hn (by omega) (.inl rfl), top_ref (rightB_iff.1 hr) (by omega)]
        have e : fr v (i : Int) = widthN v - i := by unfold fr; omega
        simp only [bsome, Int.toNat_zero, Nat.zero_mul, Nat.add_zero]
        rw [hl_eq (top_lt hn) hn, e]
        simp only [beq_self_eq_true, Bool.true_and, Option.some.injEq]
        rw [Bool.eq_iff_iff]; simp [topN_eq]
      · rw [if_pos (by omega), decide_eq_false h1]; rfl
def firstS (v : Bool) (n : Nat) (b : Int) : Bool × Nat := if rightP v n b = true then (v, n) else (false, 0)
def lastS (v : Bool) (n : Nat) (b : Int) : Bool × Nat := if rightP v n b = true then (v, n + (2 ^ fr v b - 1)) else (false, 0)
def tup3 (x : Bool × Nat) : Bool × Int × Int := (x.1, hi x.2, lo x.2)
theorem last_lt {v : Bool} {n : Nat} {b : Int} (h : rightP v n b = true) : n + (2 ^ fr v b - 1) < 2 ^ widthN v := by
  obtain ⟨h1, h2, h3, h4⟩ := rightP_iff.1 h
  have hf : fr v b ≤ widthN v := by unfold fr; omega
  have hp := Nat.two_pow_pos (fr v b)
  obtain ⟨q, hq⟩ := Nat.dvd_of_mod_eq_zero h4
  have e : 2 ^ widthN v = 2 ^ fr v b * 2 ^ (widthN v - fr v b) := by rw [← Nat.pow_add]; congr 1; omega
  rw [hq, e] at h1
  rw [hq, e]
  have h5 : q < 2 ^ (widthN v - fr v b) := Nat.lt_of_mul_lt_mul_left h1
  have h6 : 2 ^ fr v b * (q + 1) ≤ 2 ^ fr v b * 2 ^ (widthN v - fr v b) := Nat.mul_le_mul_left _ h5
  rw [Nat.mul_add, Nat.mul_one] at h6
  omega
theorem lastS_lt (v : Bool) (n : Nat) (b : Int) : (lastS v n b).2 < 340282366920938463463374607431768211456 := by
  unfold lastS; split
  · rename_i h; exact Nat.lt_of_lt_of_le (last_lt h) (pow_w v)
  · decide
theorem first_f (v : Bool) (n : Nat) (b : Int) (hn : n < 340282366920938463463374607431768211456) : prefix_First.f v (hi n) (lo n) b = some (tup3 (firstS v n b)) := by
  unfold prefix_First.f firstS
  rw [pright_hl v b hn]
  simp only [bsome]
  cases rightP v n b <;> simp [tup3, hi00, lo00]
theorem last_f (v : Bool) (n : Nat) (b : Int) (hn : n < 340282366920938463463374607431768211456) : prefix_Last.f v (hi n) (lo n) b = some (tup3 (lastS v n b)) := by
  unfold prefix_Last.f lastS
  rw [pright_hl v b hn]
  simp only [bsome]
  cases h : rightP v n b
  · simp [tup3, hi00, lo00]
  · obtain ⟨h1, h2, h3, h4⟩ := rightP_iff.1 h
    rw [if_pos rfl, if_pos rfl, free_hl v n h2 h3]
    simp only [bsome]
    rw [or_hl hn (fr_lt v b), or_ones h4]
    simp only [tup3, bsome]
theorem rlast_f (K : Nat) (hK : 600 ≤ K) (v : Bool) (n : Nat) (b : Int) (hn : n < 340282366920938463463374607431768211456) : platbookref03_Last.f K v (hi n) (lo n) b = some (tup3 (lastS v n b)) := by
  unfold platbookref03_Last.f lastS
  rw [rrightP_f K hK v n b hn]
  simp only [bsome]
  cases h : rightP v n b
  · simp [tup3, hi00, lo00]
  · obtain ⟨h1, h2, h3, h4⟩ := rightP_iff.1 h
    rw [if_pos rfl, if_pos rfl]
    obtain ⟨i, rfl⟩ := Int.eq_ofNat_of_zero_le h2
    obtain ⟨k, rfl⟩ : ∃ k, K = k + 500 := ⟨K - 500, by omega⟩
    have e : fr v (i : Int) = widthN v - i := by unfold fr; omega
    rw [pfilled_f k v n i 1 hn (by omega) (.inr rfl), top_ref h1 (by omega), ← e, topN_eq.2 h4]
    simp [tup3]
def hasS (v : Bool) (n : Nat) (b : Int) (u : Bool) (m : Nat) : Bool := rightP v n b && (rightB u m && (u == v && topN (fr v b) m == n))
theorem has_f (K : Nat) (hK : 1 ≤ K) (v : Bool) (n : Nat) (b : Int) (u : Bool) (m : Nat) (hn : n < 340282366920938463463374607431768211456) (hm : m < 340282366920938463463374607431768211456) : prefix_Has.f K v (hi n) (lo n) b u (hi m) (lo m) = some (hasS v n b u m) := by
  unfold prefix_Has.f hasS
  rw [pright_hl v b hn, aright_hl u hm, of_f K hK u m b hm]
  simp only [bsome]
  cases h : rightP v n b
  · rfl
  · cases hu : rightB u m
    · rfl
    · rw [if_pos rfl, if_pos rfl]
      by_cases huv : u = v
      · subst huv
        obtain ⟨h1, h2, h3, h4⟩ := rightP_iff.1 h
        rw [if_neg (by simp)]
        unfold ofS
        rw [if_pos ⟨hu, h2, h3⟩]
        simp only [tup5]
        rw [hl_eq (top_lt hm) hn]
        simp
      · rw [if_pos (by simpa using huv)]
        simp [huv]
theorem rhas_f (K : Nat) (hK : 700 ≤ K) (v : Bool) (n : Nat) (b : Int) (u : Bool) (m : Nat) (hn : n < 340282366920938463463374607431768211456) (hm : m < 340282366920938463463374607431768211456) : platbookref03_Has.f K v (hi n) (lo n) b u (hi m) (lo m) = some (hasS v n b u m) := by
  obtain ⟨k, rfl⟩ : ∃ k, K = k + 300 + 1 := ⟨K - 301, by omega⟩
  unfold platbookref03_Has.f hasS
  rw [rrightP_f _ (by omega) v n b hn, rright02_hl u hm]
  simp only [bsome]
  cases h : rightP v n b
  · rw [if_neg (by simp), platbookref03_Has.j0, if_pos rfl]; rfl
  · cases hu : rightB u m
    · rw [if_pos rfl, if_neg (by simp), platbookref03_Has.j0, if_pos rfl]; rfl
    · rw [if_pos rfl, if_pos rfl]
      by_cases huv : u = v
      · subst huv
        obtain ⟨h1, h2, h3, h4⟩ := rightP_iff.1 h
        rw [platbookref03_Has.j0, if_neg (by simp), prow_f k u n hn, prow_f k u m hm]
        simp only [bsome]
        rw [show k + 300 = (k + 100) + 200 by omega, palike_f _ _ _ (by rw [rowT_len, rowT_len]) (by rw [rowT_len]; exact widthN_le u)]
        simp only [bsome, Bool.true_and, beq_self_eq_true, Option.some.injEq]
        obtain ⟨i, rfl⟩ := Int.eq_ofNat_of_zero_le h2
        have hi' : i ≤ widthN u := by omega
        have e : fr u (i : Int) = widthN u - i := by unfold fr; omega
        have hl : ∀ z : Nat, z < 2 ^ widthN u → z / 2 ^ (widthN u - i) % 2 ^ i = z / 2 ^ (widthN u - i) := by
          intro z hz
          apply Nat.mod_eq_of_lt
          rw [Nat.div_lt_iff_lt_mul (Nat.two_pow_pos _), ← Nat.pow_add, show i + (widthN u - i) = widthN u by omega]; exact hz
        rw [Bool.eq_iff_iff, decide_eq_true_iff, beq_iff_eq, topN_iff h4, e]
        have := alike_ge n m (widthN u) i hi'
        rw [hl n h1, hl m (rightB_iff.1 hu)] at this
        constructor
        · intro hge; exact (this.1 (by omega)).symm
        · intro heq; have := this.2 heq.symm; omega
      · rw [platbookref03_Has.j0, if_pos (by simpa using huv)]
        simp [huv]
def withinS (v : Bool) (n : Nat) (b : Int) (u : Bool) (m : Nat) (c : Int) : Bool := rightP v n b && (rightP u m c && (decide (c ≤ b) && hasS u m c v n))
def overlapS (v : Bool) (n : Nat) (b : Int) (u : Bool) (m : Nat) (c : Int) : Bool := withinS v n b u m c || withinS u m c v n b
theorem within_f (K : Nat) (hK : 1 ≤ K) (v : Bool) (n : Nat) (b : Int) (u : Bool) (m : Nat) (c : Int) (hn : n < 340282366920938463463374607431768211456) (hm : m < 340282366920938463463374607431768211456) : prefix_Within.f K v (hi n) (lo n) b u (hi m) (lo m) c = some (withinS v n b u m c) := by
  unfold prefix_Within.f withinS
  rw [pright_hl v b hn, pright_hl u c hm, has_f K hK u m c v n hm hn]
  simp only [bsome]
  cases rightP v n b
  · rfl
  · cases rightP u m c
    · rfl
    · rw [if_pos rfl, if_pos rfl]
      by_cases h : c ≤ b
      · rw [if_pos h, decide_eq_true h]; rfl
      · rw [if_neg h, decide_eq_false h]; rfl
theorem overlap_f (K : Nat) (hK : 1 ≤ K) (v : Bool) (n : Nat) (b : Int) (u : Bool) (m : Nat) (c : Int) (hn : n < 340282366920938463463374607431768211456) (hm : m < 340282366920938463463374607431768211456) : prefix_Overlap.f K v (hi n) (lo n) b u (hi m) (lo m) c = some (overlapS v n b u m c) := by
  unfold prefix_Overlap.f overlapS
  rw [within_f K hK v n b u m c hn hm, within_f K hK u m c v n b hm hn]
  simp only [bsome]
  cases withinS v n b u m c <;> rfl
theorem div_mono {a x y f g : Nat} (h : x / 2 ^ f = y / 2 ^ f) (hfg : f ≤ g) : x / 2 ^ g = y / 2 ^ g := by
  have e : 2 ^ g = 2 ^ f * 2 ^ (g - f) := by rw [← Nat.pow_add]; congr 1; omega
  rw [e, ← Nat.div_div_eq_div_mul, ← Nat.div_div_eq_div_mul, h]
theorem hasS_right {v : Bool} {n : Nat} {b : Int} {u : Bool} {m : Nat} (h : hasS v n b u m = true) : rightP v n b = true ∧ rightB u m = true ∧ u = v ∧ m / 2 ^ fr v b = n / 2 ^ fr v b := by
  unfold hasS at h
  simp only [Bool.and_eq_true, beq_iff_eq] at h
  obtain ⟨h1, h2, h3, h4⟩ := h
  exact ⟨h1, h2, h3, (topN_iff (rightP_iff.1 h1).2.2.2).1 h4⟩
theorem hasS_mk {v : Bool} {n : Nat} {b : Int} {m : Nat} (h1 : rightP v n b = true) (h2 : rightB v m = true) (h : m / 2 ^ fr v b = n / 2 ^ fr v b) : hasS v n b v m = true := by
  unfold hasS
  rw [h1, h2]
  simp only [Bool.true_and, beq_self_eq_true, beq_iff_eq]
  exact (topN_iff (rightP_iff.1 h1).2.2.2).2 h
theorem rightP_B {v : Bool} {n : Nat} {b : Int} (h : rightP v n b = true) : rightB v n = true := rightB_iff.2 (rightP_iff.1 h).1
/-- one that has both ends of another one has no more bits -/
theorem ends_bits {u : Bool} {m : Nat} {c : Int} {n : Nat} {b : Int} (hq : hasS u m c u n = true) (hl : hasS u m c u (n + (2 ^ fr u b - 1)) = true) (hp : rightP u n b = true) : c ≤ b := by
  obtain ⟨h1, _, _, h4⟩ := hasS_right hq
  obtain ⟨_, _, _, h5⟩ := hasS_right hl
  obtain ⟨p1, p2, p3, p4⟩ := rightP_iff.1 hp
  obtain ⟨q1, q2, q3, q4⟩ := rightP_iff.1 h1
  refine Classical.byContradiction fun hcb => ?_
  have hlt : fr u c < fr u b := by unfold fr; omega
  rw [← h4] at h5
  have hp2 : 2 ^ fr u b = 2 ^ fr u c * 2 ^ (fr u b - fr u c) := by rw [← Nat.pow_add]; congr 1; omega
  have hge : 2 ≤ 2 ^ (fr u b - fr u c) := by
    have := Nat.pow_le_pow_right (n := 2) (by omega) (show 1 ≤ fr u b - fr u c by omega)
    simpa using this
  have hpos := Nat.two_pow_pos (fr u c)
  have hle : n + 2 ^ fr u c ≤ n + (2 ^ fr u b - 1) := by
    rw [hp2]
    have := Nat.mul_le_mul_left (2 ^ fr u c) hge
    omega
  have h6 := Nat.div_le_div_right (c := 2 ^ fr u c) hle
  rw [Nat.add_div_right _ hpos, h5] at h6
  omega
theorem rwithin_f (K : Nat) (hK : 700 ≤ K) (v : Bool) (n : Nat) (b : Int) (u : Bool) (m : Nat) (c : Int) (hn : n < 340282366920938463463374607431768211456) (hm : m < 340282366920938463463374607431768211456) : platbookref03_Within.f K v (hi n) (lo n) b u (hi m) (lo m) c = some (withinS v n b u m c) := by
  unfold platbookref03_Within.f withinS
  rw [rrightP_f K (by omega) v n b hn, rrightP_f K (by omega) u m c hm, rhas_f K hK u m c v n hm hn, rlast_f K (by omega) v n b hn]
  simp only [bsome, tup3]
  rw [rhas_f K hK u m c (lastS v n b).1 (lastS v n b).2 hm (lastS_lt v n b)]
  cases h1 : rightP v n b
  · rfl
  · cases h2 : rightP u m c
    · rfl
    · rw [if_pos rfl, if_pos rfl]
      have e : lastS v n b = (v, n + (2 ^ fr v b - 1)) := by unfold lastS; rw [if_pos h1]
      rw [e]
      simp only [Bool.true_and, bsome]
      cases h3 : hasS u m c v n
      · simp
      · rw [if_pos rfl]
        obtain ⟨_, _, rfl, h4⟩ := hasS_right h3
        simp only [Bool.and_true, Option.some.injEq]
        rw [Bool.eq_iff_iff, decide_eq_true_iff]
        constructor
        · intro hl; exact ends_bits h3 hl h1
        · intro hcb
          refine hasS_mk h2 (rightB_iff.2 (last_lt h1)) ?_
          rw [← h4]
          obtain ⟨p1, p2, p3, p4⟩ := rightP_iff.1 h1
          obtain ⟨q1, q2, q3, q4⟩ := rightP_iff.1 h2
          have hfr : fr v b ≤ fr v c := by unfold fr; omega
          refine div_mono (a := 0) (f := fr v b) ?_ hfr
          have hpos := Nat.two_pow_pos (fr v b)
          obtain ⟨q, rfl⟩ := Nat.dvd_of_mod_eq_zero p4
          rw [Nat.mul_add_div hpos, Nat.div_eq_of_lt (by omega), Nat.mul_div_cancel_left _ hpos, Nat.add_zero]
theorem roverlap_f (K : Nat) (hK : 700 ≤ K) (v : Bool) (n : Nat) (b : Int) (u : Bool) (m : Nat) (c : Int) (hn : n < 340282366920938463463374607431768211456) (hm : m < 340282366920938463463374607431768211456) : platbookref03_Overlap.f K v (hi n) (lo n) b u (hi m) (lo m) c = some (overlapS v n b u m c) := by
  unfold platbookref03_Overlap.f overlapS withinS
  rw [rrightP_f K (by omega) v n b hn, rrightP_f K (by omega) u m c hm, rhas_f K hK u m c v n hm hn, rhas_f K hK v n b u m hn hm]
  simp only [bsome]
  cases h1 : rightP v n b
  · simp
  · cases h2 : rightP u m c
    · simp
    · rw [if_pos rfl, if_pos rfl]
      simp only [Bool.true_and]
      by_cases hcb : c ≤ b
      · by_cases hbc : b ≤ c
        · rw [decide_eq_true hcb, decide_eq_true hbc]; cases hasS u m c v n <;> rfl
        · rw [decide_eq_true hcb, decide_eq_false hbc]
          cases h3 : hasS u m c v n
          · rw [if_neg (by simp)]
            have : hasS v n b u m = false := by
              cases h4 : hasS v n b u m
              · rfl
              · exfalso
                obtain ⟨_, _, rfl, h5⟩ := hasS_right h4
                have hfr : fr u b ≤ fr u c := by unfold fr; omega
                have := hasS_mk (v := u) (n := m) (b := c) (m := n) h2 (rightP_B h1) (div_mono (a := 0) h5.symm hfr)
                rw [this] at h3; cases h3
            rw [this]; rfl
          · rfl
      · have hbc : b ≤ c := by omega
        rw [decide_eq_false hcb, decide_eq_true hbc]
        cases h3 : hasS u m c v n
        · rfl
        · rw [if_pos rfl]
          obtain ⟨_, _, rfl, h5⟩ := hasS_right h3
          have hfr : fr v c ≤ fr v b := by unfold fr; omega
          rw [hasS_mk (v := v) (n := n) (b := b) (m := m) h1 (rightP_B h2) (div_mono (a := 0) h5.symm hfr)]
          rfl
end Go.Proofs.YtgdgklibilddgaaGreatDoor

namespace Go.Proofs.YtgdgklibilddgaaGreatDoor
open Go.RowKit Go.Proofs.YtgdgklibilddgaaGreatDoorW.PrintWords Go.Proofs.YtgdgklibilddgaaGreatDoor.PPr

theorem awake03_f : platbooklaw03_awake.f = some true := by decide +kernel
theorem bool_self (t : Bool) : (t == t) = true := by cases t <;> rfl
theorem int_self (t : Int) : (t == t) = true := by simp
theorem prefixHas_f (v : Bool) (n : Nat) (b : Int) (u : Bool) (m : Nat) (c : Int) (t : Bool) (x : Nat) (bits : Int) (hn : n < 340282366920938463463374607431768211456) (hm : m < 340282366920938463463374607431768211456) (hx : x < 340282366920938463463374607431768211456) :
    platbooklaw03_PrefixHas.f 1000 v (hi n) (lo n) b u (hi m) (lo m) c t (hi x) (lo x) bits = some true := by
  have key : ∀ (o : Bool × Nat × Int × Int) (q : Bool × Nat), q = firstS v n b →
      platbooklaw03_PrefixHas.j0 1000 o.2.2.2 o.2.2.2 v (hi n) (lo n) b u (hi m) (lo m) c t (hi x) (lo x) o.1 (hi o.2.1) (lo o.2.1) o.2.2.1 o.1 (hi o.2.1) (lo o.2.1) o.2.2.1 q.1 (hi q.2) (lo q.2) = some true := by
    rintro o q rfl
    rw [show 1000 = 999 + 1 from rfl, platbooklaw03_PrefixHas.j0]
    rw [pright_hl v b hn, rrightP_f 999 (by omega) v n b hn, first_f v n b hn, last_f v n b hn, rlast_f 999 (by omega) v n b hn, has_f 999 (by omega) v n b t x hn hx, rhas_f 999 (by omega) v n b t x hn hx, within_f 999 (by omega) v n b u m c hn hm, rwithin_f 999 (by omega) v n b u m c hn hm, overlap_f 999 (by omega) v n b u m c hn hm, roverlap_f 999 (by omega) v n b u m c hn hm]
    simp only [bsome, tup3, bool_self, int_self, Bool.and_self, if_true]
  unfold platbooklaw03_PrefixHas.f
  rw [awake03_f, of_f 1000 (by omega) t x bits hx, rof_f 1000 (by omega) t x bits hx, rrightP_f 1000 (by omega) v n b hn]
  simp only [bsome, tup5, if_true]
  have k := key (ofS t x bits) (firstS v n b) rfl
  unfold firstS at k
  cases h : rightP v n b
  · rw [h] at k
    simp only [Bool.false_eq_true, if_false, hi00, lo00] at k ⊢
    exact k
  · rw [h] at k
    simp only [if_true] at k ⊢
    exact k
theorem prefixHas_walk (v : Bool) (n : Nat) (b : Int) (u : Bool) (m : Nat) (c : Int) (t : Bool) (x : Nat) (bits : Int) (w : World) (hn : n < 340282366920938463463374607431768211456) (_ : (Lit.int .i64 b).wf = true) (hm : m < 340282366920938463463374607431768211456) (_ : (Lit.int .i64 c).wf = true) (hx : x < 340282366920938463463374607431768211456) (hG : Glob w) :
    Calls Tryz.prog 6 #[PfxV v n b, PfxV u m c, AddrV t x, .int .i64 bits] w fun e w' => e = .returned (.bool true) ∧ Below w.heap.size w w' :=
  platbooklaw03_PrefixHas.calls 1000 v (hi n) (lo n) b u (hi m) (lo m) c t (hi x) (lo x) bits true w hG rfl (prefixHas_f v n b u m c t x bits hn hm hx)
end Go.Proofs.YtgdgklibilddgaaGreatDoor

namespace Go.Proofs.YtgdgklibilddgaaGreatDoor
open Go.ChangeShapes Go.WideShapes Go.ChangeAt Go.RowKit

section
variable {H : Type} {enc : TypeId × Value → H} {P : Program}
theorem post_below {f : Func} {s : ChangeSpec} {apart fresh handsOn again : Bool} {W W' : World} {args : Array Value} {v : Value} {ds gs : List (DataW H)} {before pa pv : List MemPlace}
    (hW : DataW.Whole enc P f.params.toList s.vars apart W args.toList ds gs before)
    (hres : ∀ (b : Nat) (sp : Nat → Bool) (hd : Bool), DataW.TrodAll enc P W' b sp hd f.resultTypes.toList (v.resultList f.resultTypes.size) (s.fn H (ds ++ gs)).results [])
    (hargs : ∀ sp : Nat → Bool, (∀ p ∈ before, sp p.block = true) → DataW.TrodAll enc P W' 0 sp true f.params.toList args.toList (s.fn H (ds ++ gs)).args pa)
    (hvars : ∀ sp : Nat → Bool, (∀ p ∈ before, sp p.block = true) → DataW.TrodVars enc P W' sp s.vars (s.fn H (ds ++ gs)).vars pv)
    (hps : before = pa ++ pv) (hb : Below W.heap.size W W')
    (hok : ∀ (j : Nat) (t : TypeId) (r : Value), f.resultTypes[j]? = some t → (v.resultList f.resultTypes.size)[j]? = some r → Value.okWide P W' .any 0 t r) :
    s.post enc P f apart fresh handsOn again W args v W' := by
  have hlt : ∀ p ∈ before, p.block < W.heap.size := fun p hp => hW.lt p hp
  have hold : ∀ p ∈ before, (fun b => decide (b < W.heap.size)) p.block = true := fun p hp => by simpa using hlt p hp
  refine ⟨ds, gs, before, [], pa, pv, hW, hres _ _ _, hargs _ hold, hvars _ hold, World.keptBut_mono (fun p hp => ⟨hp, ?_⟩) (hb.frame (· ∈ before)), fun _ => ?_⟩
  · rw [hps, List.mem_append] at hp
    exact Or.inr hp
  · obtain ⟨_, _, _, _, _, hz, hn⟩ := hW
    refine ⟨hok, _, _, ([] ++ pa) ++ pv, ⟨[] ++ pa, pv, trodAll_append (hargs _ (fun _ _ => rfl)) (hres _ _ _), hvars _ (fun _ _ => rfl), rfl, ?_, ?_⟩, ?_⟩
    · intro b off hp
      have hin : MemPlace.cell b off ∈ before := by rw [hps]; simpa using hp
      rw [hb.frozen (hlt _ hin)]
      exact hz b off hin
    · intro ha
      have := hn ha
      rw [hps] at this
      simpa using this
    · intro p hp _
      rw [hps]
      simpa using hp
end

theorem Tryz.own : ownKnob Tryz.prog.godebug = none := by kernel_rfl
theorem u64_bd {n : Int} (h : (Lit.int .u64 n).wf = true) : 0 ≤ n ∧ n < 18446744073709551616 := by
  simp [Lit.wf, IntKind.min, IntKind.max, IntKind.bits, IntKind.signed] at h
  omega
end Go.Proofs.YtgdgklibilddgaaGreatDoor

namespace Go.Proofs.YtgdgklibilddgaaGreatDoor
open Go.RowKit

def listA : List (String × DataW Unit) := [("math/bits.deBruijn32tab", Rows.laid_math_bits_deBruijn32tab), ("math/bits.deBruijn64tab", Rows.laid_math_bits_deBruijn64tab), ("internal/strconv.uint64pow10", Rows.laid_internal_strconv_uint64pow10), ("unicode/utf8.acceptRanges", Rows.laid_unicode_utf8_acceptRanges), ("strconv.ErrRange", Rows.laid_strconv_ErrRange), ("strconv.ErrSyntax", Rows.laid_strconv_ErrSyntax), ("unicode/utf8.first", Rows.laid_unicode_utf8_first)]
theorem doorA_met (os : Os) (args : Array Value) : laidMetH Tryz.prog listA ((World.laidAll Tryz.prog os listA).forCall (fun _ _ => 0) ⟨#[], args, []⟩).memory := by
  rw [MakeChecks.laidMetH_plain _ _ _ (by kernel_rfl)]; exact laidMet_laidAll _ (by kernel_rfl) (by kernel_rfl)
def tabZ : List Int := Lib.deBruijn64tab.map Int.ofNat
theorem listA_tab : (Rows.laid_math_bits_deBruijn64tab : DataW Unit) = Lib.tabData .u8 tabZ := by kernel_rfl
theorem listA_pow : (Rows.laid_internal_strconv_uint64pow10 : DataW Unit) = Lib.tabData .u64 Lib.pow10Tab := by kernel_rfl
theorem err_star : "*" ++ "errors.errorString" = "*errors.errorString" := by decide
theorem err_name (u : TypeId) (h : Tryz.prog.typeName? 3 u = some "*errors.errorString") : u = 170 :=
  typeName_ptr_named (nm := "errors.errorString") (by rw [err_star]; kernel_rfl) (by kernel_rfl) (by decide) u (by rw [err_star]; exact h)
theorem glob_of {W : World} (h : laidMetH Tryz.prog listA W) (hs : W.ShapedOpen Tryz.prog) : Glob W := by
  rw [MakeChecks.laidMetH_plain _ _ _ (by kernel_rfl)] at h
  unfold listA at h
  have h2 := h.tail
  have h3 := h2.tail
  have h5 := h3.tail.tail
  have h6 := h5.tail
  rw [listA_tab] at h2
  rw [listA_pow] at h3
  refine ⟨?_, ?_, ?_, ?_, ?_⟩
  · exact cell_of_shapedOpen_int (g := 0) (t := 3) (zero := #[.int .i64 0]) hs (of_decide_eq_true (by kernel_rfl)) (by kernel_rfl) rfl (by kernel_rfl) (by kernel_rfl) Tryz.underlying3
  · obtain ⟨a, s, hv, _⟩ := laid_sentinel h6 (g := 1) (by kernel_rfl) (by kernel_rfl) Tryz.underlying83 err_name Tryz.underlying170 Tryz.underlying172 rfl rfl Tryz.underlying9 (by kernel_rfl) (by kernel_rfl)
    exact ⟨_, _, hv⟩
  · obtain ⟨a, s, hv, _⟩ := laid_sentinel h5 (g := 2) (by kernel_rfl) (by kernel_rfl) Tryz.underlying83 err_name Tryz.underlying170 Tryz.underlying172 rfl rfl Tryz.underlying9 (by kernel_rfl) (by kernel_rfl)
    exact ⟨_, _, hv⟩
  · exact Lib.tabIs_of_head (P := Tryz.prog) (g := 3) (t := 174) (e := 22) (n := 20) (by kernel_rfl) (by kernel_rfl) Tryz.underlying174 Tryz.underlying22 (by kernel_rfl) (by kernel_rfl) h3
  · have hT := Lib.tabIs_of_head (P := Tryz.prog) (g := 5) (t := 185) (e := 5) (n := 64) (by kernel_rfl) (by kernel_rfl) Tryz.underlying185 Tryz.underlying5 (by kernel_rfl) (by kernel_rfl) h2
    intro j hj
    have hc := hT.cell (g := 5) (by kernel_rfl) j (by unfold tabZ; rw [List.length_map, show Lib.deBruijn64tab.length = 64 by decide]; exact hj)
    rw [hc]
    have e : tabZ.getD j 0 = ((Lib.deBruijn64tab.getD j 0 : Nat) : Int) := by
      unfold tabZ
      simp only [List.getD_eq_getElem?_getD, List.getElem?_map]
      cases Lib.deBruijn64tab[j]? <;> rfl
    rw [e]
/-- the plain wrap with the row's condition and the start's shape -/
theorem lift_shaped {H : Type} {enc : TypeId × Value → H} {C : Checked} {os : Os} {f : FuncId} {fn : Func} {s : ChangeSpec} {X : World → Array Value → Prop}
    (hX : ∀ (w w' : World) (args : Array Value), w.heap = w'.heap → X w args → X w' args)
    (own : ownKnob C.prog.godebug = none) (started : os.Started) (noInit : C.prog.inits.idxOf? f = none) (hfn : C.prog.funcs[f]? = some fn)
    (witness : ∃ (w : World) (tape : Tape) (i : Input), w.os = os ∧ (w.forCall tape i).Shaped C.prog ∧ i.vars = [] ∧ Input.okWide C.prog (w.forCall tape i) .any w.heap.size f i ∧
      ((s.pre enc C.prog fn [] false (w.forCall tape i).memory i.args ∧ X (w.forCall tape i).memory i.args) ∧ sizedMet enc C.prog fn (OpenSpec.ofChange s) false (w.forCall tape i).memory i.args) ∧ ({} : Assume).holds C.prog (lone (Frame.enter C.prog f i.args .normal) [] (w.forCall tape i)))
    (contract : ∀ (W : World) (base : Nat) (args : Array Value) (ds gs : List (DataW H)) (before : List MemPlace),
      (∀ (j : Nat) t v, fn.params[j]? = some t → args[j]? = some v → Value.okWide C.prog W .any base t v) →
      DataW.Whole enc C.prog fn.params.toList s.vars false W args.toList ds gs before → X W args → W.ShapedOpen C.prog →
      Calls C.prog f args W fun e W' => ∃ v, e = .returned v ∧ s.post enc C.prog fn false true false false W args v W') :
    ReturnsInHanded {} C os f .any (fun w args => (s.pre enc C.prog fn [] false w args ∧ X w args) ∧ sizedMet enc C.prog fn (OpenSpec.ofChange s) false w args) (s.post enc C.prog fn false true false false) := by
  refine returnsInHanded_of_calls own started noInit witness ?_
  intro w tape i _ hshape _ hok hpre _
  obtain ⟨_, _, _, fn2, hfn2, _, _, _, _, hval⟩ := hok
  obtain rfl : fn2 = fn := Option.some.inj (hfn2.symm.trans hfn)
  obtain ⟨⟨⟨ds, gs, before, hw, _⟩, hx⟩, _⟩ := hpre
  refine (contract (w.forCall tape i) w.heap.size i.args ds gs before hval (DataW.Whole.of_heap (w' := w.forCall tape i) (by rfl) hw) (hX _ _ _ (by rfl) hx) hshape).mono fun e W' ⟨v, he, hp⟩ => ?_
  subst he
  exact ChangeSpec.post_blind hp
end Go.Proofs.YtgdgklibilddgaaGreatDoor

namespace Go.Proofs.YtgdgklibilddgaaGreatDoor
open Go.ChangeShapes Go.WideShapes Go.ChangeAt Go.RowKit Go.Joins

theorem Tryz.cellsNum : Tryz.prog.cellsOf 24 = 2 := by kernel_rfl

end Go.Proofs.YtgdgklibilddgaaGreatDoor

namespace Go.Proofs.YtgdgklibilddgaaGreatDoor
open Go.ChangeShapes Go.WideShapes Go.ChangeAt Go.RowKit Go.Joins

set_option maxRecDepth 100000 in
theorem Tryz.cellsAddr : Tryz.prog.cellsOf 26 = 3 := by kernel_rfl
def numD {H : Type} (n : Nat) : DataW H := .agg [.lit (.int .u64 (hi n)), .lit (.int .u64 (lo n))]
def addrD {H : Type} (v : Bool) (n : Nat) : DataW H := .agg [.lit (.bool v), numD n]
/-- the number's words are in their bounds -/
def numOk (n : Nat) : Prop := (Lit.int .u64 (hi n)).wf = true ∧ (Lit.int .u64 (lo n)).wf = true

set_option maxRecDepth 100000 in
theorem trod_bool_form {H : Type} {enc : TypeId × Value → H} {P : Program} {w : World} {base : Nat} {sp : Nat → Bool} {held : Bool} {fuel : Nat} {t : TypeId} {c : Value} {x : DataW H × List MemPlace} (ht : P.underlying t = some .bool)
    (h : DataW.trod enc P w base sp held fuel t [c] = some x) : ∃ b, c = .bool b ∧ x = (.lit (.bool b), []) := by
  cases fuel with
  | zero => simp [DataW.trod] at h
  | succ fuel =>
    simp only [DataW.trod, ht] at h
    split at h
    · rename_i e1 e2
      simp at e2
      subst e2
      exact ⟨_, rfl, (Option.some.inj h).symm⟩
    all_goals first | (rename_i e1 _; cases e1; done) | (cases h; done) | skip
    all_goals simp_all
set_option maxRecDepth 100000 in
theorem trod_num_form {H : Type} {enc : TypeId × Value → H} {W : World} {base : Nat} {sp : Nat → Bool} {held : Bool} {fuel : Nat} {c0 c1 : Value} {x : DataW H × List MemPlace}
    (h : DataW.trod enc Tryz.prog W base sp held fuel 24 [c0, c1] = some x) : ∃ n : Nat, n < 340282366920938463463374607431768211456 ∧ c0 = .int .u64 (hi n) ∧ c1 = .int .u64 (lo n) ∧ x = (numD n, []) ∧ numOk n := by
  obtain ⟨y0, y1, m, rfl, _, h0, h1⟩ := trod_struct2 Tryz.underlying24 h
  have h0' : DataW.trod enc Tryz.prog W base sp held m 22 [c0] = some y0 := h0
  have h1' : DataW.trod enc Tryz.prog W base sp held m 22 [c1] = some y1 := h1
  obtain ⟨a, e0, rfl, wa⟩ := DataW.trod_int Tryz.underlying22 h0'
  obtain ⟨b, e1, rfl, wb⟩ := DataW.trod_int Tryz.underlying22 h1'
  simp at e0 e1
  subst e0 e1
  obtain ⟨a0, a1⟩ := u64_bd wa
  obtain ⟨b0', b1⟩ := u64_bd wb
  refine ⟨num a b, num_lt a1 b1, ?_, ?_, ?_, ?_, ?_⟩
  · rw [hi_num a0 a1 b0' b1]
  · rw [lo_num b0' b1]
  · unfold numD; rw [hi_num a0 a1 b0' b1, lo_num b0' b1]; rfl
  · rw [hi_num a0 a1 b0' b1]; exact wa
  · rw [lo_num b0' b1]; exact wb
set_option maxRecDepth 100000 in
theorem trod_num_mk {H : Type} {enc : TypeId × Value → H} {W : World} {base : Nat} {sp : Nat → Bool} {held : Bool} {n : Nat} (h : numOk n) : DataW.trod enc Tryz.prog W base sp held 2 24 [.int .u64 (hi n), .int .u64 (lo n)] = some (numD n, []) := by
  obtain ⟨wa, wb⟩ := h
  have := trod_struct2_mk (enc := enc) (w := W) (base := base) (spare := sp) (held := held) (n := 1) (cs := [.int .u64 (hi n), .int .u64 (lo n)]) (y0 := (.lit (.int .u64 (hi n)), [])) (y1 := (.lit (.int .u64 (lo n)), [])) Tryz.underlying24 Tryz.cellsNum.symm
    (by show DataW.trod enc Tryz.prog W base sp held 1 22 [.int .u64 (hi n)] = _; simp [DataW.trod, Tryz.underlying22, wa])
    (by show DataW.trod enc Tryz.prog W base sp held 1 22 [.int .u64 (lo n)] = _; simp [DataW.trod, Tryz.underlying22, wb])
  exact this
set_option maxRecDepth 100000 in
theorem trod_addr_form {H : Type} {enc : TypeId × Value → H} {W : World} {base : Nat} {sp : Nat → Bool} {held : Bool} {fuel : Nat} {c0 c1 c2 : Value} {x : DataW H × List MemPlace}
    (h : DataW.trod enc Tryz.prog W base sp held fuel 26 [c0, c1, c2] = some x) : ∃ (v : Bool) (n : Nat), n < 340282366920938463463374607431768211456 ∧ c0 = .bool v ∧ c1 = .int .u64 (hi n) ∧ c2 = .int .u64 (lo n) ∧ x = (addrD v n, []) ∧ numOk n := by
  obtain ⟨y0, y1, m, rfl, _, h0, h1⟩ := trod_struct2 Tryz.underlying26 h
  have h0' : DataW.trod enc Tryz.prog W base sp held m 4 [c0] = some y0 := h0
  have h1' : DataW.trod enc Tryz.prog W base sp held m 24 [c1, c2] = some y1 := h1
  obtain ⟨v, rfl, rfl⟩ := trod_bool_form Tryz.underlying4 h0'
  obtain ⟨n, hn, rfl, rfl, rfl, ho⟩ := trod_num_form h1'
  exact ⟨v, n, hn, rfl, rfl, rfl, rfl, ho⟩
set_option maxRecDepth 100000 in
theorem trod_addr_mk {H : Type} {enc : TypeId × Value → H} {W : World} {base : Nat} {sp : Nat → Bool} {held : Bool} {v : Bool} {n : Nat} (h : numOk n) : DataW.trod enc Tryz.prog W base sp held 3 26 [.bool v, .int .u64 (hi n), .int .u64 (lo n)] = some (addrD v n, []) := by
  have := trod_struct2_mk (enc := enc) (w := W) (base := base) (spare := sp) (held := held) (n := 2) (cs := [.bool v, .int .u64 (hi n), .int .u64 (lo n)]) (y0 := (.lit (.bool v), [])) (y1 := (numD n, [])) Tryz.underlying26 Tryz.cellsAddr.symm
    (by show DataW.trod enc Tryz.prog W base sp held 2 4 [.bool v] = _; simp [DataW.trod, Tryz.underlying4])
    (trod_num_mk h)
  exact this
set_option maxRecDepth 100000 in
/-- an address as an argument -/
theorem open_addr {H : Type} {enc : TypeId × Value → H} {W : World} {base b0 : Nat} {sp : Nat → Bool} {v : Value} {d : DataW H} {p : List MemPlace} {r : Reach}
    (hv : Value.okWide Tryz.prog W r b0 26 v) (h : DataW.Trod enc Tryz.prog W base sp true 26 v d p) :
    ∃ (u : Bool) (n : Nat), n < 340282366920938463463374607431768211456 ∧ v = AddrV u n ∧ d = addrD u n ∧ p = [] ∧ numOk n := by
  obtain ⟨cs, rfl, hsz⟩ := okWide_struct Tryz.underlying26 hv
  obtain ⟨c0, c1, c2, rfl⟩ := array3 (hsz.trans Tryz.cellsAddr)
  obtain ⟨fuel, hf⟩ := h
  obtain ⟨u, n, hn, rfl, rfl, rfl, e, ho⟩ := trod_addr_form hf
  simp only [Prod.mk.injEq] at e
  exact ⟨u, n, hn, rfl, e.1, e.2, ho⟩
set_option maxRecDepth 100000 in
theorem shut_addr {H : Type} {enc : TypeId × Value → H} {W : World} {base : Nat} {sp : Nat → Bool} {u : Bool} {n : Nat} (h : numOk n) :
    DataW.Trod enc Tryz.prog W base sp true 26 (AddrV u n) (addrD u n) [] := ⟨3, trod_addr_mk h⟩
end Go.Proofs.YtgdgklibilddgaaGreatDoor

namespace Go.Proofs.YtgdgklibilddgaaGreatDoor
open Go.ChangeShapes Go.WideShapes Go.ChangeAt Go.RowKit Go.Joins

set_option maxRecDepth 100000 in
theorem Tryz.cellsPfx : Tryz.prog.cellsOf 38 = 4 := by kernel_rfl
def pfxD {H : Type} (v : Bool) (n : Nat) (b : Int) : DataW H := .agg [addrD v n, .lit (.int .i64 b)]
def pfxOk (n : Nat) (b : Int) : Prop := numOk n ∧ (Lit.int .i64 b).wf = true
set_option maxRecDepth 100000 in
theorem trod_pfx_form {H : Type} {enc : TypeId × Value → H} {W : World} {base : Nat} {sp : Nat → Bool} {held : Bool} {fuel : Nat} {c0 c1 c2 c3 : Value} {x : DataW H × List MemPlace}
    (h : DataW.trod enc Tryz.prog W base sp held fuel 38 [c0, c1, c2, c3] = some x) : ∃ (v : Bool) (n : Nat) (b : Int), n < 340282366920938463463374607431768211456 ∧ c0 = .bool v ∧ c1 = .int .u64 (hi n) ∧ c2 = .int .u64 (lo n) ∧ c3 = .int .i64 b ∧ x = (pfxD v n b, []) ∧ pfxOk n b := by
  obtain ⟨y0, y1, m, rfl, _, h0, h1⟩ := trod_struct2 Tryz.underlying38 h
  have h0' : DataW.trod enc Tryz.prog W base sp held m 26 [c0, c1, c2] = some y0 := h0
  have h1' : DataW.trod enc Tryz.prog W base sp held m 3 [c3] = some y1 := h1
  obtain ⟨v, n, hn, rfl, rfl, rfl, rfl, ho⟩ := trod_addr_form h0'
  obtain ⟨b, e1, rfl, wb⟩ := DataW.trod_int Tryz.underlying3 h1'
  simp at e1
  subst e1
  exact ⟨v, n, b, hn, rfl, rfl, rfl, rfl, rfl, ho, wb⟩
set_option maxRecDepth 100000 in
theorem trod_pfx_mk {H : Type} {enc : TypeId × Value → H} {W : World} {base : Nat} {sp : Nat → Bool} {held : Bool} {v : Bool} {n : Nat} {b : Int} (h : pfxOk n b) : DataW.trod enc Tryz.prog W base sp held 4 38 [.bool v, .int .u64 (hi n), .int .u64 (lo n), .int .i64 b] = some (pfxD v n b, []) := by
  have wb := h.2
  have := trod_struct2_mk (enc := enc) (w := W) (base := base) (spare := sp) (held := held) (n := 3) (cs := [.bool v, .int .u64 (hi n), .int .u64 (lo n), .int .i64 b]) (y0 := (addrD v n, [])) (y1 := (.lit (.int .i64 b), [])) Tryz.underlying38 Tryz.cellsPfx.symm
    (trod_addr_mk h.1)
    (by show DataW.trod enc Tryz.prog W base sp held 3 3 [.int .i64 b] = _; simp [DataW.trod, Tryz.underlying3, wb])
  exact this
theorem arr4 {α : Type} {cs : Array α} (h : cs.size = 4) : ∃ c0 c1 c2 c3, cs = #[c0, c1, c2, c3] := by
  rcases cs with ⟨l⟩
  match l, h with
  | [a, b, c, d], _ => exact ⟨a, b, c, d, rfl⟩
set_option maxRecDepth 100000 in
/-- a prefix as an argument -/
theorem open_pfx {H : Type} {enc : TypeId × Value → H} {W : World} {base b0 : Nat} {sp : Nat → Bool} {v : Value} {d : DataW H} {p : List MemPlace} {r : Reach}
    (hv : Value.okWide Tryz.prog W r b0 38 v) (h : DataW.Trod enc Tryz.prog W base sp true 38 v d p) :
    ∃ (u : Bool) (n : Nat) (b : Int), n < 340282366920938463463374607431768211456 ∧ (Lit.int .i64 b).wf = true ∧ v = PfxV u n b ∧ d = pfxD u n b ∧ p = [] ∧ pfxOk n b := by
  obtain ⟨cs, rfl, hsz⟩ := okWide_struct Tryz.underlying38 hv
  obtain ⟨c0, c1, c2, c3, rfl⟩ := arr4 (hsz.trans Tryz.cellsPfx)
  obtain ⟨fuel, hf⟩ := h
  obtain ⟨u, n, b, hn, rfl, rfl, rfl, rfl, e, ho⟩ := trod_pfx_form hf
  simp only [Prod.mk.injEq] at e
  exact ⟨u, n, b, hn, ho.2, rfl, e.1, e.2, ho⟩
set_option maxRecDepth 100000 in
theorem shut_pfx {H : Type} {enc : TypeId × Value → H} {W : World} {base : Nat} {sp : Nat → Bool} {u : Bool} {n : Nat} {b : Int} (h : pfxOk n b) :
    DataW.Trod enc Tryz.prog W base sp true 38 (PfxV u n b) (pfxD u n b) [] := ⟨4, trod_pfx_mk h⟩
end Go.Proofs.YtgdgklibilddgaaGreatDoor

namespace Go.Proofs.YtgdgklibilddgaaGreatDoor
open Go.ChangeShapes Go.WideShapes Go.ChangeAt Go.RowKit
open Go.ChangeMaps (open_string shut_string)

set_option maxRecDepth 100000 in
theorem prefixHas_lifted (os : Os) (started : os.Started) (H : Type) (enc : TypeId × Value → H) :
    ReturnsInHanded {} Tryz.checked os 6 .any (fun w args => (Rows.prefixHasSpec.pre enc Tryz.prog Tryz.f6 [] false w args ∧ laidMetH Tryz.prog listA w) ∧ sizedMet enc Tryz.prog Tryz.f6 (OpenSpec.ofChange Rows.prefixHasSpec) false w args)
      (Rows.prefixHasSpec.post enc Tryz.prog Tryz.f6 false true false false) := by
  refine lift_shaped (C := Tryz.checked) (X := fun w _ => laidMetH Tryz.prog listA w) (fun _ _ _ hh h => h.of_heap hh) Tryz.own started (by kernel_rfl) Tryz.func6
    (ChangeSpec.witness_shaped (enc := enc) (C := Tryz.checked) (os := os) (X := fun w _ => laidMetH Tryz.prog listA w) false (World.laidAll Tryz.prog os listA) #[.agg #[.bool false, .int .u64 0, .int .u64 0, .int .i64 0], .agg #[.bool false, .int .u64 0, .int .u64 0, .int .i64 0], .agg #[.bool false, .int .u64 0, .int .u64 0], .int .i64 0] 8 (World.laidAll_os _ _ _) (World.shaped_of_ZipB (by kernel_rfl) (by kernel_rfl)) (by kernel_rfl) (by kernel_rfl) (by kernel_rfl) (doorA_met os _)) ?_
  intro W base args ds gs before hval0 hW hL hSh
  have hval : ∀ (j : Nat) t v, Tryz.f6.params[j]? = some t → args[j]? = some v → Value.okWide Tryz.prog W .any base t v := hval0
  have hW' := hW
  obtain ⟨p, q, hA0, hV, rfl, _, _⟩ := hW
  have hA : DataW.TrodAll enc Tryz.prog W 0 (fun _ => true) true Tryz.f6.params.toList args.toList ds p := hA0
  rw [Tryz.params6] at hA hval
  obtain ⟨v0, v1, v2, v3, d0, d1, d2, d3, p0, p1, p2, p3, rfl, rfl, rfl, h0, h1, h2, h3⟩ := trodAll_four hA
  obtain ⟨rfl, rfl⟩ := trodVars_none hV
  obtain ⟨u0, x0, b0, hx0, hb0, rfl, rfl, rfl, ho0⟩ := open_pfx (hval 0 38 v0 rfl rfl) h0
  obtain ⟨u1, x1, b1, hx1, hb1, rfl, rfl, rfl, ho1⟩ := open_pfx (hval 1 38 v1 rfl rfl) h1
  obtain ⟨u2, x2, hx2, rfl, rfl, rfl, ho2⟩ := open_addr (hval 2 26 v2 rfl rfl) h2
  obtain ⟨x3, rfl, rfl, rfl, wx3⟩ := open_int Tryz.underlying3 (hval 3 3 v3 rfl rfl) h3
  clear hA0 hval0
  simp only [List.append_nil] at hW'
  refine (prefixHas_walk u0 x0 b0 u1 x1 b1 u2 x2 x3 W hx0 hb0 hx1 hb1 hx2 (glob_of hL hSh)).mono fun e W' ⟨he, hw⟩ => ?_
  subst he
  exact ⟨_, rfl, post_below (pa := []) (pv := []) hW' (fun _ _ _ => trodAll_mk1 (shut_bool Tryz.underlying4 _)) (fun sp _ => trodAll_mk4 (shut_pfx ho0) (shut_pfx ho1) (shut_addr ho2) (shut_int Tryz.underlying3 wx3)) (fun _ _ => rfl) rfl
    hw (ok_one (by kernel_rfl) rfl (okWide_bool_mk Tryz.underlying4 _))⟩

theorem prefixHas_row : Rows.PrefixHasSaid :=
  OpenClaim.holds_of_wide 6 Tryz.f6 rfl rfl rfl rfl rfl rfl rfl ⟨rfl, rfl, rfl, rfl, rfl⟩ rfl rfl rfl rfl rfl (by kernel_rfl) Tryz.func6 (by kernel_rfl)
    (of_decide_eq_true (by kernel_rfl)) (by unfold Func.isWrapper; first | (rw [if_pos (by decide +kernel)]; kernel_rfl) | (rw [if_neg (by decide +kernel)]; exact ⟨rfl, rfl⟩))
    (fun os started H enc _ => prefixHas_lifted os started H enc)

theorem prefixHas_card : Rows.PrefixHasCardSaid :=
  Claim7.holds_tied_plain_at .later [] [.data, .data, .data, .data, .sentinel, .sentinel, .pinned] true Rows.prefixHasCard.stood.harness true
    prefixHas_row (fun _ h => by cases h) (by kernel_rfl) (fun _ h => by cases h) prefixHas_row_tie rfl ⟨rfl, rfl⟩ (by kernel_rfl) rfl
    (fun f fn hf hfn => by
      obtain rfl : f = 6 := Option.some.inj ((show Tryz.prog.funcNamed "platbook/platbooklaw03.PrefixHas" = some 6 by kernel_rfl).symm.trans hf) |>.symm
      obtain rfl : fn = Tryz.f6 := (Option.some.inj (Tryz.func6.symm.trans hfn)).symm
      exact ⟨by kernel_rfl, fun j t ht => by
        rw [Tryz.params6] at ht
        have hm : t ∈ [38, 38, 26, 3] := by simpa using Array.mem_of_getElem? ht
        have hall : ([38, 38, 26, 3].all fun u => !Tryz.prog.wantsStandIn u) = true := by kernel_rfl
        exact (show Tryz.prog.wantsStandIn t = false by simpa using List.all_eq_true.1 hall t hm)⟩)
    (by kernel_rfl)
end Go.Proofs.YtgdgklibilddgaaGreatDoor

#print axioms Go.Proofs.YtgdgklibilddgaaGreatDoor.prefixHas_card
