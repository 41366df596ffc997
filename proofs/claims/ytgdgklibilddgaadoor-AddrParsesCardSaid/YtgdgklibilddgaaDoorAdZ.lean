/- Addresses: the reference's reading of four decimal numbers, and of a sign of base 16. -/
import Derived.Test.YtgdgklibilddgaaDoorAdU
import Derived.Test.YtgdgklibilddgaaDoorAdY
import Derived.Test.YtgdgklibilddgaaDoorAdN
namespace Go.Proofs.YtgdgklibilddgaaDoor
open Go.RowKit

def digI (x : Nat) : Int := if 48 ≤ x ∧ x ≤ 57 then (x : Int) - 48 else if 97 ≤ x ∧ x ≤ 102 then (x : Int) - 87 else if 65 ≤ x ∧ x ≤ 70 then (x : Int) - 55 else -1
set_option maxRecDepth 100000 in
theorem rdigit_c (x : Nat) (w : World) (hx : x < 256) :
    Calls Tryd.prog 40 #[.int .u8 x] w fun e w' => e = .returned (.int .i64 (digI x)) ∧ Below w.heap.size w w' := by
  have hc : (48 ≤ (x : Int) ∧ (x : Int) ≤ 57 ∧ digI x = (x : Int) - 48) ∨ ((x : Int) < 48 ∧ digI x = -1) ∨ (48 ≤ (x : Int) ∧ ¬ (x : Int) ≤ 57 ∧ ((97 ≤ (x : Int) ∧ (x : Int) ≤ 102 ∧ digI x = (x : Int) - 87) ∨ (97 ≤ (x : Int) ∧ ¬ (x : Int) ≤ 102 ∧ ¬ (x : Int) ≤ 70 ∧ 65 ≤ (x : Int) ∧ digI x = -1) ∨ (¬ 97 ≤ (x : Int) ∧ 65 ≤ (x : Int) ∧ (x : Int) ≤ 70 ∧ digI x = (x : Int) - 55) ∨ (¬ 97 ≤ (x : Int) ∧ 65 ≤ (x : Int) ∧ ¬ (x : Int) ≤ 70 ∧ digI x = -1) ∨ (¬ 97 ≤ (x : Int) ∧ ¬ 65 ≤ (x : Int) ∧ digI x = -1))) := by
    unfold digI
    (repeat' split) <;> omega
  rcases hc with ⟨h1, h2, h3⟩ | ⟨h1, h3⟩ | ⟨h1, h2, ⟨h4, h5, h3⟩ | ⟨h4, h5, h6, h7, h3⟩ | ⟨h4, h5, h6, h3⟩ | ⟨h4, h5, h6, h3⟩ | ⟨h4, h5, h3⟩⟩
  all_goals
    rw [h3]
    clear h3
    go_enter Tryd.func40, Tryd.ntmps40
    go_wp2_with fail
    go_ret
    exact ⟨rfl, (by repeat (first | (with_reducible exact Below.refl _ _) | (with_reducible assumption) | (with_reducible refine bl_alloc ?_ _) | (with_reducible refine bl_drew ?_) | (with_reducible refine bl_drewN ?_ _) | (with_reducible refine bl_set ?_ (by first | (simp; done) | (simp; omega)) _) | (with_reducible refine bl_trans ?_ ‹_›)))⟩
theorem hexV_I (c : UInt8) : (∃ d, hexV c = some d ∧ digI c.toNat = d ∧ d < 16) ∨ (hexV c = none ∧ digI c.toNat = -1) := by
  unfold hexV digI
  have := c.toNat_lt
  by_cases h1 : 48 ≤ c.toNat ∧ c.toNat ≤ 57
  · rw [if_pos h1, if_pos h1]; exact .inl ⟨_, rfl, by omega, by omega⟩
  rw [if_neg h1, if_neg h1]
  by_cases h2 : 97 ≤ c.toNat ∧ c.toNat ≤ 102
  · rw [if_pos h2, if_pos h2]; exact .inl ⟨_, rfl, by omega, by omega⟩
  rw [if_neg h2, if_neg h2]
  by_cases h3 : 65 ≤ c.toNat ∧ c.toNat ≤ 70
  · rw [if_pos h3, if_pos h3]; exact .inl ⟨_, rfl, by omega, by omega⟩
  rw [if_neg h3, if_neg h3]; exact .inr ⟨rfl, rfl⟩
/-- the number so far; -1: none -/
def nI : Option Nat → Int
  | none => -1
  | some m => m
/-- what the reference's reading of four numbers answers -/
def FourE (R : Option (List Nat)) (w : World) (e : Ending) (w' : World) : Prop :=
  (R = none ∧ ∃ v, e = .returned (.tuple #[v, .bool false])) ∨ (∃ t v, R = some t ∧ e = .returned (.tuple #[v, .bool true]) ∧ w'.ownsRow w.heap.size 5 1 v 4 (bytesV (ints t)))
theorem drop_at {s : ByteArray} {k : Nat} (h : k < s.size) : (bts s).drop k = s[k]'h :: (bts s).drop (k + 1) := by
  have hl : k < (bts s).length := by simpa [bts] using h
  rw [List.drop_eq_getElem_cons hl]
  rfl
/-- the state of the reading ahead of place k -/
def FourAt (s : ByteArray) (R : Option (List Nat)) (k : Nat) (n : Option Nat) (out : List Nat) : Prop :=
  out.length ≤ 4 ∧ (∀ m, n = some m → m ≤ 255) ∧ ((k ≤ s.size ∧ refFour n out ((bts s).drop k) = R) ∨ (k = s.size + 1 ∧ R = if out.length = 4 then some out else none))
theorem bts_len (s : ByteArray) : (bts s).length = s.size := by simp [bts]
/-- one step more: what the signs say -/
theorem FourAt.step {s : ByteArray} {R : Option (List Nat)} {k : Nat} {n : Option Nat} {out : List Nat} (h : FourAt s R k n out) (hk : k ≤ s.size) :
    (k = s.size ∧ ((n = none ∧ R = none) ∨ (∃ m, n = some m ∧ m ≤ 255 ∧ ((out.length = 4 ∧ R = none) ∨ (out.length < 4 ∧ FourAt s R (k + 1) none (out ++ [m]))))))
    ∨ (∃ hl : k < s.size, (s[k]'hl).toNat = 46 ∧ ((n = none ∧ R = none) ∨ (∃ m, n = some m ∧ m ≤ 255 ∧ ((out.length = 4 ∧ R = none) ∨ (out.length < 4 ∧ FourAt s R (k + 1) none (out ++ [m]))))))
    ∨ (∃ hl : k < s.size, (s[k]'hl).toNat ≠ 46 ∧ ((R = none ∧ ((s[k]'hl).toNat < 48 ∨ (48 ≤ (s[k]'hl).toNat ∧ 57 < (s[k]'hl).toNat) ∨ (48 ≤ (s[k]'hl).toNat ∧ (s[k]'hl).toNat ≤ 57 ∧ n = some 0)))
        ∨ (48 ≤ (s[k]'hl).toNat ∧ (s[k]'hl).toNat ≤ 57 ∧ n ≠ some 0 ∧ ((R = none ∧ 255 < 10 * n.getD 0 + ((s[k]'hl).toNat - 48)) ∨ (10 * n.getD 0 + ((s[k]'hl).toNat - 48) ≤ 255 ∧ FourAt s R (k + 1) (some (10 * n.getD 0 + ((s[k]'hl).toNat - 48))) out))))) := by
  obtain ⟨h1, h2, ⟨_, h3⟩ | ⟨h3, _⟩⟩ := h
  · rcases Nat.lt_or_ge k s.size with hl | hl
    · have hd := drop_at hl
      rw [hd, refFour_cons] at h3
      by_cases e : s[k] = 46
      · rw [if_pos e] at h3
        refine .inr (.inl ⟨hl, by rw [e]; rfl, ?_⟩)
        cases n with
        | none => exact .inl ⟨rfl, h3.symm⟩
        | some m =>
          simp only at h3
          refine .inr ⟨m, rfl, h2 m rfl, ?_⟩
          by_cases e4 : out.length = 4
          · rw [if_pos e4] at h3; exact .inl ⟨e4, h3.symm⟩
          · rw [if_neg e4] at h3
            exact .inr ⟨by omega, by simp; omega, fun m' h => by simp at h, .inl ⟨by omega, h3⟩⟩
      · have e' : (s[k]'hl).toNat ≠ 46 := fun h => e (UInt8.toNat.inj h)
        rw [if_neg e] at h3
        refine .inr (.inr ⟨hl, e', ?_⟩)
        generalize hx : (s[k]'hl) = c at *
        by_cases hc : dig c ∧ n ≠ some 0 ∧ 10 * n.getD 0 + (c.toNat - 48) ≤ 255
        · rw [if_pos hc] at h3
          obtain ⟨c1, c2, c3⟩ := hc
          exact .inr ⟨c1.1, c1.2, c2, .inr ⟨c3, h1, fun m h => by cases h; exact c3, .inl ⟨by omega, h3⟩⟩⟩
        · rw [if_neg hc] at h3
          by_cases c1 : dig c
          · by_cases c2 : n = some 0
            · exact .inl ⟨h3.symm, .inr (.inr ⟨c1.1, c1.2, c2⟩)⟩
            · refine .inr ⟨c1.1, c1.2, c2, .inl ⟨h3.symm, ?_⟩⟩
              rcases Nat.lt_or_ge 255 (10 * n.getD 0 + (c.toNat - 48)) with c3 | c3
              · exact c3
              · exact absurd ⟨c1, c2, c3⟩ hc
          · unfold dig at c1
            refine .inl ⟨h3.symm, ?_⟩
            omega
    · have : k = s.size := by omega
      subst this
      refine .inl ⟨rfl, ?_⟩
      rw [List.drop_of_length_le (by rw [bts_len]; exact Nat.le_refl _), refFour_nil] at h3
      cases n with
      | none => exact .inl ⟨rfl, h3.symm⟩
      | some m =>
        simp only at h3
        refine .inr ⟨m, rfl, h2 m rfl, ?_⟩
        by_cases e4 : out.length = 4
        · rw [if_neg (by omega)] at h3; exact .inl ⟨e4, h3.symm⟩
        · refine .inr ⟨by omega, by simp; omega, fun m' h => by simp at h, .inr ⟨rfl, ?_⟩⟩
          rw [← h3]
          simp only [List.length_append, List.length_singleton]
          by_cases e3 : out.length = 3
          · rw [if_pos e3, if_pos (by omega)]
          · rw [if_neg e3, if_neg (by omega)]
  · omega
end Go.Proofs.YtgdgklibilddgaaDoor
