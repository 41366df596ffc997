/- Addresses: the order, sums and differences; both the program's and the reference's. -/
import Derived.Test.YtgdgklibilddgaaDoorAdK
import Derived.Test.YtgdgklibilddgaaDoorAdL
import Derived.Test.YtgdgklibilddgaaDoorRefBf
namespace Go.Proofs.YtgdgklibilddgaaDoor
open Go.RowKit

theorem cmp_k (a b : Nat) (w : World) (ha : a < 340282366920938463463374607431768211456) (hb : b < 340282366920938463463374607431768211456) :
    Calls Tryd.prog 50 #[numV a, numV b] w fun e w' => e = .returned (.int .i64 (cmpN a b)) ∧ Below w.heap.size w w' := by
  have h := cmp_c (hi a) (lo a) (hi b) (lo b) w (hi_nn _) (hi_lt _) (lo_nn _) (lo_lt _) (hi_nn _) (hi_lt _) (lo_nn _) (lo_lt _)
  rw [num_hi_lo ha, num_hi_lo hb] at h
  exact h
theorem add_k (a b : Nat) (w : World) (ha : a < 340282366920938463463374607431768211456) (hb : b < 340282366920938463463374607431768211456) :
    Calls Tryd.prog 48 #[numV a, numV b] w fun e w' => e = .returned (.tuple #[numV (addN a b), .bool (addF a b)]) ∧ Below w.heap.size w w' := by
  have h := add_c (hi a) (lo a) (hi b) (lo b) w (hi_nn _) (hi_lt _) (lo_nn _) (lo_lt _) (hi_nn _) (hi_lt _) (lo_nn _) (lo_lt _)
  rw [num_hi_lo ha, num_hi_lo hb] at h
  exact h
theorem sub_k (a b : Nat) (w : World) (ha : a < 340282366920938463463374607431768211456) (hb : b < 340282366920938463463374607431768211456) :
    Calls Tryd.prog 49 #[numV a, numV b] w fun e w' => e = .returned (.tuple #[numV (subN a b), .bool (subF a b)]) ∧ Below w.heap.size w w' := by
  have h := sub_c (hi a) (lo a) (hi b) (lo b) w (hi_nn _) (hi_lt _) (lo_nn _) (lo_lt _) (hi_nn _) (hi_lt _) (lo_nn _) (lo_lt _)
  rw [num_hi_lo ha, num_hi_lo hb] at h
  exact h
theorem addN_lt' (a b : Nat) : addN a b < 340282366920938463463374607431768211456 := Nat.mod_lt _ (by omega)
theorem subN_lt' (a b : Nat) : subN a b < 340282366920938463463374607431768211456 := Nat.mod_lt _ (by omega)
/-- which of two addresses is first -/
def cmpA (v : Bool) (a : Nat) (u : Bool) (b : Nat) : Int := if v = u then cmpN a b else if v = true then 1 else -1
/-- what is so far behind an address -/
def plusV (v : Bool) (a n : Nat) : Value := if rightB v a = true then (if (addF a n && rightB v (addN a n)) = true then .tuple #[AddrV v (addN a n), .int .i64 0] else .tuple #[AddrV false 0, .int .i64 11]) else .tuple #[AddrV false 0, .int .i64 1]
def minusV (v : Bool) (a : Nat) (u : Bool) (b : Nat) : Value := if (rightB v a && (rightB u b && (v == u))) = true then (if subF a b = true then .tuple #[numV (subN a b), .int .i64 0] else .tuple #[numV 0, .int .i64 11]) else .tuple #[numV 0, .int .i64 1]
set_option maxRecDepth 100000 in
theorem rwidth_c (v6 : Bool) (n : Nat) (w : World) :
    Calls Tryd.prog 47 #[AddrV v6 n] w fun e w' => e = .returned (.int .i64 (widthN v6)) ∧ Below w.heap.size w w' := by
  unfold AddrV
  cases v6
  all_goals
    go_enter Tryd.func47, Tryd.ntmps47
    go_wp2_with fail
    go_ret
    exact ⟨rfl, (by repeat (first | (with_reducible exact Below.refl _ _) | (with_reducible assumption) | (with_reducible refine bl_alloc ?_ _) | (with_reducible refine bl_drew ?_) | (with_reducible refine bl_drewN ?_ _) | (with_reducible refine bl_set ?_ (by first | (simp; done) | (simp; omega)) _) | (with_reducible refine bl_trans ?_ ‹_›)))⟩
theorem right_words {n : Nat} (hn : n < 340282366920938463463374607431768211456) : rightB false n = (decide (hi n = 0) && decide (lo n < 4294967296)) := by
  unfold rightB hi lo
  have : 2 ^ widthN false = 4294967296 := by decide
  rw [this, Bool.eq_iff_iff]
  simp
  omega
set_option maxRecDepth 100000 in
theorem rright_c (v6 : Bool) (n : Nat) (w : World) (hn : n < 340282366920938463463374607431768211456) :
    Calls Tryd.prog 11 #[AddrV v6 n] w fun e w' => e = .returned (.bool (rightB v6 n)) ∧ Below w.heap.size w w' := by
  unfold AddrV
  cases v6
  · rw [right_words hn]
    generalize hi n = h, lo n = l
    by_cases h0 : h = 0
    · subst h0
      by_cases h1 : l < 4294967296
      · go_enter Tryd.func11, Tryd.ntmps11
        go_wp2_with fail
        go_ret
        exact ⟨by simp [h1], (by repeat (first | (with_reducible exact Below.refl _ _) | (with_reducible assumption) | (with_reducible refine bl_alloc ?_ _) | (with_reducible refine bl_drew ?_) | (with_reducible refine bl_drewN ?_ _) | (with_reducible refine bl_set ?_ (by first | (simp; done) | (simp; omega)) _) | (with_reducible refine bl_trans ?_ ‹_›)))⟩
      · go_enter Tryd.func11, Tryd.ntmps11
        go_wp2_with fail
        go_ret
        exact ⟨by simp [h1], (by repeat (first | (with_reducible exact Below.refl _ _) | (with_reducible assumption) | (with_reducible refine bl_alloc ?_ _) | (with_reducible refine bl_drew ?_) | (with_reducible refine bl_drewN ?_ _) | (with_reducible refine bl_set ?_ (by first | (simp; done) | (simp; omega)) _) | (with_reducible refine bl_trans ?_ ‹_›)))⟩
    · go_enter Tryd.func11, Tryd.ntmps11
      go_wp2_with fail
      go_ret
      exact ⟨by simp [h0], (by repeat (first | (with_reducible exact Below.refl _ _) | (with_reducible assumption) | (with_reducible refine bl_alloc ?_ _) | (with_reducible refine bl_drew ?_) | (with_reducible refine bl_drewN ?_ _) | (with_reducible refine bl_set ?_ (by first | (simp; done) | (simp; omega)) _) | (with_reducible refine bl_trans ?_ ‹_›)))⟩
  · have : rightB true n = true := by unfold rightB; exact decide_eq_true hn
    rw [this]
    go_enter Tryd.func11, Tryd.ntmps11
    go_wp2_with fail
    go_ret
    exact ⟨rfl, (by repeat (first | (with_reducible exact Below.refl _ _) | (with_reducible assumption) | (with_reducible refine bl_alloc ?_ _) | (with_reducible refine bl_drew ?_) | (with_reducible refine bl_drewN ?_ _) | (with_reducible refine bl_set ?_ (by first | (simp; done) | (simp; omega)) _) | (with_reducible refine bl_trans ?_ ‹_›)))⟩
set_option maxRecDepth 100000 in
theorem acmp_c (v : Bool) (a : Nat) (u : Bool) (b : Nat) (w : World) (ha : a < 340282366920938463463374607431768211456) (hb : b < 340282366920938463463374607431768211456) :
    Calls Tryd.prog 19 #[AddrV v a, AddrV u b] w fun e w' => e = .returned (.int .i64 (cmpA v a u b)) ∧ Below w.heap.size w w' := by
  have HC := Lib.hid (fun w => cmp_k a b w ha hb)
  unfold numV at HC
  unfold AddrV
  cases v <;> cases u
  · go_enter Tryd.func19, Tryd.ntmps19
    go_wp2_with fail
    refine (HC.out _).mono ?_
    rintro e w1 ⟨rfl, hb1⟩
    go_wp2_with fail
    go_ret
    exact ⟨rfl, (by repeat (first | (with_reducible exact Below.refl _ _) | (with_reducible assumption) | (with_reducible refine bl_alloc ?_ _) | (with_reducible refine bl_drew ?_) | (with_reducible refine bl_drewN ?_ _) | (with_reducible refine bl_set ?_ (by first | (simp; done) | (simp; omega)) _) | (with_reducible refine bl_trans ?_ ‹_›)))⟩
  · go_enter Tryd.func19, Tryd.ntmps19
    go_wp2_with fail
    go_ret
    exact ⟨rfl, (by repeat (first | (with_reducible exact Below.refl _ _) | (with_reducible assumption) | (with_reducible refine bl_alloc ?_ _) | (with_reducible refine bl_drew ?_) | (with_reducible refine bl_drewN ?_ _) | (with_reducible refine bl_set ?_ (by first | (simp; done) | (simp; omega)) _) | (with_reducible refine bl_trans ?_ ‹_›)))⟩
  · go_enter Tryd.func19, Tryd.ntmps19
    go_wp2_with fail
    go_ret
    exact ⟨rfl, (by repeat (first | (with_reducible exact Below.refl _ _) | (with_reducible assumption) | (with_reducible refine bl_alloc ?_ _) | (with_reducible refine bl_drew ?_) | (with_reducible refine bl_drewN ?_ _) | (with_reducible refine bl_set ?_ (by first | (simp; done) | (simp; omega)) _) | (with_reducible refine bl_trans ?_ ‹_›)))⟩
  · go_enter Tryd.func19, Tryd.ntmps19
    go_wp2_with fail
    refine (HC.out _).mono ?_
    rintro e w1 ⟨rfl, hb1⟩
    go_wp2_with fail
    go_ret
    exact ⟨rfl, (by repeat (first | (with_reducible exact Below.refl _ _) | (with_reducible assumption) | (with_reducible refine bl_alloc ?_ _) | (with_reducible refine bl_drew ?_) | (with_reducible refine bl_drewN ?_ _) | (with_reducible refine bl_set ?_ (by first | (simp; done) | (simp; omega)) _) | (with_reducible refine bl_trans ?_ ‹_›)))⟩
end Go.Proofs.YtgdgklibilddgaaDoor
