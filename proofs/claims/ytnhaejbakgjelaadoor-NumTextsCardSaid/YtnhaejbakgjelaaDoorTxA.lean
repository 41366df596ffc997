/- num.Small; strings.Trim of the digits. -/
import Derived.Test.YtnhaejbakgjelaaDoorTxP
import Derived.Shelf.Strings.SlTrimAscii
namespace Go.Proofs.YtnhaejbakgjelaaDoor
open Go.RowKit

set_option maxRecDepth 100000 in
theorem small_c (ah al : Int) (w : World) (h0_ah : 0 ≤ ah) (h1_ah : ah < 18446744073709551616) (h0_al : 0 ≤ al) (h1_al : al < 18446744073709551616) :
    Calls Tryd.prog 33 #[.agg #[.int .u64 ah, .int .u64 al]] w fun e w' => e = .returned (.tuple #[.int .u64 (if 0 < ah then 0 else al), .bool (decide (¬ 0 < ah))]) ∧ Below w.heap.size w w' := by
  by_cases h : 0 < ah
  · rw [if_pos h, decide_eq_false (fun k => k h)]
    have d := decide_eq_true h
    go_enter Tryd.func33, Tryd.ntmps33
    go_wp2_with fail
    go_ret2
    exact ⟨rfl, (by repeat (first | (with_reducible exact Below.refl _ _) | (with_reducible assumption) | (with_reducible refine bl_alloc ?_ _) | (with_reducible refine bl_drew ?_) | (with_reducible refine bl_drewN ?_ _) | (with_reducible refine bl_set ?_ (by first | (simp; done) | (simp; omega)) _) | (with_reducible refine bl_trans ?_ ‹_›)))⟩
  · rw [if_neg h, decide_eq_true h]
    have d := decide_eq_false h
    go_enter Tryd.func33, Tryd.ntmps33
    go_wp2_with fail
    go_ret2
    exact ⟨rfl, (by repeat (first | (with_reducible exact Below.refl _ _) | (with_reducible assumption) | (with_reducible refine bl_alloc ?_ _) | (with_reducible refine bl_drew ?_) | (with_reducible refine bl_drewN ?_ _) | (with_reducible refine bl_set ?_ (by first | (simp; done) | (simp; omega)) _) | (with_reducible refine bl_trans ?_ ‹_›)))⟩

/-! strings.Trim at the ten digits -/
def tenD : List UInt8 := [48, 49, 50, 51, 52, 53, 54, 55, 56, 57]
theorem tenD_iff (b : UInt8) : tenD.contains b = true ↔ 48 ≤ b.toNat ∧ b.toNat ≤ 57 := by
  constructor
  · intro h
    simp [tenD] at h
    rcases h with rfl | rfl | rfl | rfl | rfl | rfl | rfl | rfl | rfl | rfl <;> decide
  · rintro ⟨h1, h2⟩
    have h3 : b.toNat = 48 ∨ b.toNat = 49 ∨ b.toNat = 50 ∨ b.toNat = 51 ∨ b.toNat = 52 ∨ b.toNat = 53 ∨ b.toNat = 54 ∨ b.toNat = 55 ∨ b.toNat = 56 ∨ b.toNat = 57 := by omega
    have h4 : ∀ c : UInt8, b.toNat = c.toNat → b = c := fun c h => UInt8.toNat.inj h
    rcases h3 with h | h | h | h | h | h | h | h | h | h
    · rw [h4 48 h]; decide
    · rw [h4 49 h]; decide
    · rw [h4 50 h]; decide
    · rw [h4 51 h]; decide
    · rw [h4 52 h]; decide
    · rw [h4 53 h]; decide
    · rw [h4 54 h]; decide
    · rw [h4 55 h]; decide
    · rw [h4 56 h]; decide
    · rw [h4 57 h]; decide
theorem dropW_nil {p : UInt8 → Bool} : ∀ {l : List UInt8}, l.dropWhile p = [] ↔ ∀ b ∈ l, p b = true
  | [] => by simp
  | a :: l => by
    rw [List.dropWhile_cons]
    cases h : p a
    · simp [h]
    · simp [h, dropW_nil (l := l)]
theorem dropW_head {p : UInt8 → Bool} : ∀ {l : List UInt8} {b m}, l.dropWhile p = b :: m → p b = false
  | [], _, _, h => by simp at h
  | a :: l, b, m, h => by
    rw [List.dropWhile_cons] at h
    cases ha : p a
    · simp [ha] at h; rw [← h.1]; exact ha
    · simp [ha] at h; exact dropW_head h
theorem trimS_nil (l cs : List UInt8) : Lib.trimS l cs = [] ↔ ∀ b ∈ l, cs.contains b = true := by
  unfold Lib.trimS Lib.trimLeftS Lib.trimRightS
  rw [dropW_nil]
  constructor
  · intro h
    have h2 : l.reverse.dropWhile (cs.contains ·) = [] := by
      match hm : l.reverse.dropWhile (cs.contains ·) with
      | [] => rfl
      | b :: m =>
        have h3 := dropW_head hm
        have h4 := h b (by rw [hm]; simp)
        rw [h4] at h3; cases h3
    exact fun b hb => dropW_nil.1 h2 b (by simpa using hb)
  · intro h b hb
    have : l.reverse.dropWhile (cs.contains ·) = [] := dropW_nil.2 fun b hb => h b (by simpa using hb)
    rw [this] at hb
    simp at hb
theorem trim_dig (s : ByteArray) : Lib.trimS s.data.toList tenD = [] ↔ allDig s := by
  rw [trimS_nil]
  constructor
  · intro h i hi
    rw [tB_at hi]
    refine (tenD_iff _).1 (h _ ?_)
    rw [List.mem_iff_getElem]
    exact ⟨i, by simpa using hi, rfl⟩
  · intro h b hb
    obtain ⟨i, hi, rfl⟩ := List.mem_iff_getElem.1 hb
    have hi' : i < s.size := by simpa using hi
    have := h i hi'
    rw [tB_at hi'] at this
    exact (tenD_iff _).2 this
theorem trim_c (s : ByteArray) (w : World) (hs : s.size ≤ 9223372036854775807) :
    Calls Tryd.prog 50 #[.string s, .string ⟨#[48, 49, 50, 51, 52, 53, 54, 55, 56, 57]⟩] w fun e w' => ∃ t : ByteArray, e = .returned (.string t) ∧ (t = ⟨#[]⟩ ↔ allDig s) ∧ Below w.heap.size w w' := by
  refine (Any.strings_Trim_laid Tryd.lays160 (by kernel_rfl) s ⟨#[48, 49, 50, 51, 52, 53, 54, 55, 56, 57]⟩ w hs (by decide) (ascii_of_all (by decide))).mono ?_
  rintro e w' ⟨rfl, hb⟩
  refine ⟨_, rfl, ?_, hb⟩
  rw [← trim_dig s]
  constructor
  · intro h
    have := congrArg (fun t : ByteArray => t.data.toList) h
    have h3 : Lib.trimS s.data.toList [48, 49, 50, 51, 52, 53, 54, 55, 56, 57] = [] := by simpa using this
    exact h3
  · intro h
    have h2 : Lib.trimS s.data.toList (⟨#[48, 49, 50, 51, 52, 53, 54, 55, 56, 57]⟩ : ByteArray).data.toList = [] := h
    rw [h2]
end Go.Proofs.YtnhaejbakgjelaaDoor
