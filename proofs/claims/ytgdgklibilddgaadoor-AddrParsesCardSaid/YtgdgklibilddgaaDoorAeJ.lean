/- The plain law of an address's text, VI: the state of the reference's reading, and the bytes that it lays at the end. -/
import Derived.Test.YtgdgklibilddgaaDoorAdN
namespace Go.Proofs.YtgdgklibilddgaaDoor

/-- where two colons stood, in bytes; -1: nowhere -/
def gI : Option Nat → Int
  | none => -1
  | some j => ((2 * j : Nat) : Int)
/-- the bytes at the end -/
def allB (B : List Nat) (z : List Nat) : Option Nat → Nat → List Nat
  | none, i => B.take i
  | some j, i => if 2 * j < i then B.take (2 * j) ++ z ++ (B.take i).drop (2 * j) else B.take i
/-- .. with the noughts behind all -/
def endB (B : List Nat) (z : List Nat) : Option Nat → List Nat
  | none => B
  | some j => B.take (2 * j) ++ z ++ B.drop (2 * j)
theorem allB_zero (B z : List Nat) (gap : Option Nat) : allB B z gap 0 = [] := by
  cases gap <;> simp [allB]
theorem take_snoc {B : List Nat} {i x : Nat} (h : B[i]? = some x) : B.take (i + 1) = B.take i ++ [x] := by
  obtain ⟨hi, rfl⟩ := List.getElem?_eq_some_iff.1 h
  rw [List.take_succ_eq_append_getElem hi]
/-- the next byte, the noughts ahead of it where they stand there -/
theorem allB_step {B z : List Nat} {gap : Option Nat} {i x : Nat} (h : B[i]? = some x) : allB B z gap (i + 1) = allB B z gap i ++ (if gI gap = (i : Int) then z else []) ++ [x] := by
  have hi : i < B.length := (List.getElem?_eq_some_iff.1 h).1
  cases gap with
  | none =>
    rw [if_neg (by simp only [gI]; omega)]
    simp [allB, take_snoc h]
  | some j =>
    by_cases e : 2 * j = i
    · subst e
      rw [if_pos (show gI (some j) = ((2 * j : Nat) : Int) from rfl)]
      unfold allB
      simp only
      rw [if_pos (by omega), if_neg (by omega), take_snoc h]
      congr 1
      rw [List.drop_append_of_le_length (by simp; omega), List.drop_of_length_le (by rw [List.length_take]; exact Nat.min_le_left _ _)]
      rfl
    · rw [if_neg (show ¬ gI (some j) = (i : Int) from by show ¬ ((2 * j : Nat) : Int) = (i : Int); omega)]
      unfold allB
      simp only
      by_cases e2 : 2 * j < i
      · rw [if_pos (by omega), if_pos e2, take_snoc h, List.drop_append_of_le_length (by simp; omega)]
        simp
      · rw [if_neg (by omega), if_neg e2, take_snoc h]
        simp
theorem allB_end {B z : List Nat} {gap : Option Nat} (hj : ∀ j, gap = some j → 2 * j ≤ B.length) : allB B z gap B.length ++ (if gI gap = (B.length : Int) then z else []) = endB B z gap := by
  cases gap with
  | none =>
    rw [if_neg (by simp only [gI]; omega)]
    simp [allB, endB]
  | some j =>
    have := hj j rfl
    unfold allB endB
    simp only
    by_cases e : 2 * j = B.length
    · rw [if_neg (show ¬ 2 * j < B.length by omega), if_pos (show gI (some j) = (B.length : Int) from by show ((2 * j : Nat) : Int) = _; omega), List.take_length, e, List.take_length, List.drop_length]
      simp
    · rw [if_pos (show 2 * j < B.length by omega), if_neg (show ¬ gI (some j) = (B.length : Int) from by show ¬ ((2 * j : Nat) : Int) = _; omega), List.take_length]
      simp
/-- what is made of the groups at the end -/
theorem fin_bytes {G : List Nat} {gap : Option Nat} (hG : ∀ g ∈ G, g < 65536) (hj : ∀ j, gap = some j → j ≤ G.length) (hok : (gap = none ∧ G.length = 8) ∨ (∃ j, gap = some j ∧ G.length ≤ 7)) :
    fin G gap = some (true, valB (endB (byts G) (List.replicate (16 - 2 * G.length) 0) gap)) ∧ (endB (byts G) (List.replicate (16 - 2 * G.length) 0) gap).length = 16 ∧ ∀ b ∈ endB (byts G) (List.replicate (16 - 2 * G.length) 0) gap, b < 256 := by
  have hb := byts_lt hG
  have hl := byts_len G
  rcases hok with ⟨rfl, h8⟩ | ⟨j, rfl, h7⟩
  · unfold fin endB
    simp only
    rw [if_pos h8, valB_byts hG]
    exact ⟨rfl, by omega, hb⟩
  · have hjl := hj j rfl
    unfold fin endB
    simp only
    rw [if_pos h7]
    have e1 : (byts G).take (2 * j) = byts (G.take j) := by
      conv => lhs; rw [← List.take_append_drop j G, byts_app]
      rw [List.take_append_of_le_length (by rw [byts_len]; simp; omega), List.take_of_length_le (by rw [byts_len]; simp; omega)]
    have e2 : (byts G).drop (2 * j) = byts (G.drop j) := by
      conv => lhs; rw [← List.take_append_drop j G, byts_app]
      have : (byts (G.take j)).length = 2 * j := by rw [byts_len]; simp; omega
      rw [← this, List.drop_left]
    have e3 : List.replicate (16 - 2 * G.length) 0 = byts (nulls (8 - G.length)) := by
      rw [byts_nulls, show 2 * (8 - G.length) = 16 - 2 * G.length by omega]
    rw [e1, e2, e3, ← byts_app, ← byts_app]
    have hgg : ∀ g ∈ G.take j ++ nulls (8 - G.length) ++ G.drop j, g < 65536 := by
      intro g hg
      rw [List.mem_append, List.mem_append] at hg
      rcases hg with (hg | hg) | hg
      · exact hG g (List.mem_of_mem_take hg)
      · unfold nulls at hg; have := List.eq_of_mem_replicate hg; omega
      · exact hG g (List.mem_of_mem_drop hg)
    refine ⟨by rw [valB_byts hgg], ?_, byts_lt hgg⟩
    rw [byts_len]
    simp [nulls]
    omega
theorem fin_none {G : List Nat} {gap : Option Nat} (h : ¬ ((gap = none ∧ G.length = 8) ∨ (∃ j, gap = some j ∧ G.length ≤ 7))) : fin G gap = none := by
  cases gap with
  | none => unfold fin; simp only; rw [if_neg (fun k => h (.inl ⟨rfl, k⟩))]
  | some j => unfold fin; simp only; rw [if_neg (fun k => h (.inr ⟨j, rfl, k⟩))]
end Go.Proofs.YtgdgklibilddgaaDoor
