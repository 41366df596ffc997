/- The walk of BitmapGreat. -/
import Derived.Test.YtnhaejbakgjelaaDoorBmW
namespace Go.Proofs.YtnhaejbakgjelaaDoor
open Go.RowKit

theorem has_int (g c n : Nat) (f : Nat → Bool) (i : Int) (b : Bool) (w : World) (h : MapAt w g c n f) (h0 : 0 ≤ i) (hi : i < n) (hf : f i.toNat = b) :
    Calls Tryd.prog 13 #[.pointer (some ⟨g, 0, none⟩), .int .i64 i] w fun e w' => e = .returned (.bool b) ∧ w.drew = w' := by
  obtain ⟨I, rfl⟩ := Int.eq_ofNat_of_zero_le h0
  rw [← hf, Int.toNat_natCast]
  exact has_yes g c n f I w h (by omega)
/-- a row of ones -/
def rowOf (i j : Nat) : Nat → Bool := fun x => if i ≤ x ∧ x ≤ j then true else false
theorem rowOf_in {i j x : Nat} (h1 : i ≤ x) (h2 : x ≤ j) : rowOf i j x = true := if_pos ⟨h1, h2⟩
theorem rowOf_out {i j x : Nat} (h : ¬ (i ≤ x ∧ x ≤ j)) : rowOf i j x = false := if_neg h
theorem cnt_rowOf {i j m : Nat} (h1 : i ≤ j) (h2 : j < m) : cnt (rowOf i j) 0 m = j + 1 - i := by
  rw [show m = i + ((j + 1 - i) + (m - (j + 1))) from by omega, cnt_join, cnt_join, cnt_none (n := i) fun x _ h => rowOf_out (by omega),
    cnt_none (n := m - (j + 1)) fun x h _ => rowOf_out (by omega), cnt_all (a := 0 + i) fun x h3 h4 => rowOf_in (by omega) (by omega)]
  omega
theorem next_row {i j n k : Nat} (h1 : i ≤ j) (h2 : j < n) (h : IsNext (rowOf i j) n i k) : k = if j + 1 < n then j + 1 else 0 := by
  obtain ⟨q1, q2, q3⟩ := h
  have q4 : ¬ (i ≤ k ∧ k ≤ j) := fun e => by rw [rowOf_in e.1 e.2] at q2; cases q2
  rcases q3 with ⟨q3, q5⟩ | ⟨q3, q5, q6⟩
  · rw [if_pos (by omega)]
    rcases Nat.lt_or_ge (j + 1) k with e | e
    · have := q5 (j + 1) (by omega) e; rw [rowOf_out (by omega)] at this; cases this
    · omega
  · by_cases e : j + 1 < n
    · have := q5 (j + 1) (by omega) e; rw [rowOf_out (by omega)] at this; cases this
    · rw [if_neg e]
      rcases Nat.eq_zero_or_pos k with z | z
      · exact z
      · have := q6 0 z; rw [rowOf_out (by omega)] at this; cases this
theorem count_c (g c n k : Nat) (f : Nat → Bool) (w : World) (h : MapAt w g c n f) (hk : cnt f 0 (64 * ((n + 63) / 64)) = k) :
    Calls Tryd.prog 12 #[.pointer (some ⟨g, 0, none⟩)] w fun e w' => e = .returned (.int .i64 k) ∧ w = w' := by
  rw [← hk]; exact count_words g c n f w h
theorem fill_row (g c n i j k : Nat) (w : World) (h : MapAt w g c n (fun _ => false)) (hi : i ≤ j) (hj : j < n) (hk : j + 1 - i = k) :
    Calls Tryd.prog 11 #[.pointer (some ⟨g, 0, none⟩), .int .i64 i, .int .i64 j] w fun e w' =>
      e = .returned (.tuple #[.int .i64 k, .int .i64 0]) ∧ MapAt w' g c n (rowOf i j) ∧ w.grownBy w' (some c) := by
  have := fill_c g c n i j (fun _ => false) w h hi hj
  rw [show cnt (fun _ => !false) i (j + 1 - i) = j + 1 - i from cnt_all (fun _ _ _ => rfl), hk] at this
  exact this
theorem clear_row (g c n i j k : Nat) (w : World) (h : MapAt w g c n (rowOf i j)) (hi : i ≤ j) (hj : j < n) (hk : j + 1 - i = k) :
    Calls Tryd.prog 15 #[.pointer (some ⟨g, 0, none⟩), .int .i64 i, .int .i64 j] w fun e w' =>
      e = .returned (.tuple #[.int .i64 k, .int .i64 0]) ∧ MapAt w' g c n (fun _ => false) ∧ w.grownBy w' (some c) := by
  have := clear_c g c n i j (rowOf i j) w h hi hj
  rw [cnt_all (fun x h1 h2 => rowOf_in h1 (by omega)), hk] at this
  refine this.mono fun e w' ⟨a, b, d⟩ => ⟨a, b.same ?_, d⟩
  funext x
  by_cases e : i ≤ x ∧ x ≤ j
  · rw [if_pos e]
  · rw [if_neg e, rowOf_out e]

set_option maxRecDepth 20000 in
theorem great_no (n i j : Int) (w : World) (hT : Tab w) (hn : n < 0 ∨ 65536 < n) :
    Calls Tryd.prog 3 #[.int .i64 n, .int .i64 i, .int .i64 j] w fun e w' => e = .returned (.bool true) ∧ Below w.heap.size w w' := by
  rcases hn with h | h
  all_goals
    go_enter Tryd.func3, Tryd.ntmps3
    go_wp2_with fail
    refine (awake_c _ hT).mono ?_
    rintro e w1 ⟨rfl, hb1⟩
    go_wp2_with fail
    refine (new_no n _ (by omega)).mono ?_
    rintro e w2 ⟨rfl, rfl⟩
    go_wp2_with fail
    go_ret
    exact ⟨rfl, hb1⟩
set_option maxRecDepth 20000 in
theorem great_arg (n : Nat) (i j : Int) (w : World) (hT : Tab w) (hn : n ≤ 65536) (hb : i < 0 ∨ (0 ≤ i ∧ j < i) ∨ (0 ≤ i ∧ i ≤ j ∧ n ≤ j)) :
    Calls Tryd.prog 3 #[.int .i64 n, .int .i64 i, .int .i64 j] w fun e w' => e = .returned (.bool true) ∧ Below w.heap.size w w' := by
  rcases hb with h1 | ⟨h1, h2⟩ | ⟨h1, h2, h3⟩
  all_goals
    go_enter Tryd.func3, Tryd.ntmps3
    go_wp2_with fail
    refine (awake_c _ hT).mono ?_
    rintro e w1 ⟨rfl, hb1⟩
    go_wp2_with fail
    refine (new_c n _ hn).mono ?_
    rintro e w2 ⟨rfl, hm, hb2'⟩
    have hb2 := bl_trans hb1 hb2'
    clear hb1 hb2'
    generalize w1.heap.size + 1 = g at *
    generalize w1.heap.size = c at *
    go_wp2_with fail
    refine (fill_arg g c n _ i j _ hm (by omega)).mono ?_
    rintro e w3 ⟨rfl, hb3⟩
    have hm := hm.after hb3
    have hb3 := bl_trans hb2 hb3
    clear hb2
    go_wp2_with fail
    refine (count_c g c n 0 _ _ hm (cnt_none fun _ _ _ => rfl)).mono ?_
    rintro e w4 ⟨rfl, rfl⟩
    go_wp2_with fail
    go_ret
    exact ⟨rfl, hb3⟩
set_option maxRecDepth 20000 in
theorem great_yes (n i j : Nat) (w : World) (hT : Tab w) (hn : n ≤ 65536) (hi : i ≤ j) (hj : j < n) :
    Calls Tryd.prog 3 #[.int .i64 n, .int .i64 i, .int .i64 j] w fun e w' => e = .returned (.bool true) ∧ Below w.heap.size w w' := by
  obtain ⟨k, hk⟩ : ∃ k, j + 1 - i = k := ⟨_, rfl⟩
  have hke : ((j : Int) - (i : Int) + 1) = (k : Int) := by omega
  have HK := Lib.hid hk
  have hst : startAt (i : Int) n = i := by unfold startAt; rw [Int.toNat_natCast, Nat.mod_eq_of_lt (by omega)]
  have HST := Lib.hid hst
  clear hk hst
  go_enter Tryd.func3, Tryd.ntmps3
  go_wp2_with fail
  refine (awake_c _ hT).mono ?_
  rintro e w1 ⟨rfl, hb1⟩
  go_wp2_with fail
  refine (new_c n _ hn).mono ?_
  rintro e w2 ⟨rfl, hm, hb2'⟩
  have hcl : w.heap.size ≤ w1.heap.size := hb1.size
  have hb2 := bl_trans hb1 hb2'
  clear hb1 hb2'
  generalize w1.heap.size + 1 = g at *
  generalize w1.heap.size = c at *
  go_wp2_with fail
  refine (fill_row g c n i j k _ hm hi hj HK.out).mono ?_
  rintro e w3 ⟨rfl, hm3, hg3⟩
  have hb3 := bl_grown hb2 hg3 hcl
  have hT3 := hT.after hT.lt hb3
  clear hb2 hm hg3
  have hcnt : cnt (rowOf i j) 0 (64 * ((n + 63) / 64)) = k := by rw [cnt_rowOf hi (by omega)]; exact HK.out
  have HC := Lib.hid hcnt
  clear hcnt
  go_wp2_with fail
  refine (count_c g c n k _ _ hm3 HC.out).mono ?_
  rintro e w4 ⟨rfl, rfl⟩
  go_wp2_with fail
  refine (has_int g c n _ i true _ hm3 (by omega) (by omega) (rowOf_in (by omega) (by omega))).mono ?_
  rintro e w4 ⟨rfl, rfl⟩
  have hm4 := hm3.drew
  have hb4 := bl_drew hb3
  have hT4 : Tab w3.drew := hT3.drewN 1
  clear hm3 hb3 hT3
  generalize w3.drew = w4 at *
  go_wp2_with fail
  refine (has_int g c n _ j true _ hm4 (by omega) (by omega) (rowOf_in (by omega) (by omega))).mono ?_
  rintro e w5 ⟨rfl, rfl⟩
  have hm5 := hm4.drew
  have hb5 := bl_drew hb4
  have hT5 : Tab w4.drew := hT4.drewN 1
  clear hm4 hb4 hT4
  generalize w4.drew = w5 at *
  by_cases h0 : 0 < i
  · by_cases h1 : j + 1 < n
    · go_wp2_with fail
      refine (has_int g c n _ ((i : Int) - 1) false _ hm5 (by omega) (by omega) (rowOf_out (by omega))).mono ?_
      rintro e w6 ⟨rfl, rfl⟩
      have hm6 := hm5.drew
      have hb6 := bl_drew hb5
      have hT6 : Tab w5.drew := hT5.drewN 1
      clear hm5 hb5 hT5
      generalize w5.drew = w6 at *
      go_wp2_with fail
      refine (has_int g c n _ ((j : Int) + 1) false _ hm6 (by omega) (by omega) (rowOf_out (by omega))).mono ?_
      rintro e w7 ⟨rfl, rfl⟩
      have hm7 := hm6.drew
      have hb7 := bl_drew hb6
      have hT7 : Tab w6.drew := hT6.drewN 1
      clear hm6 hb6 hT6
      generalize w6.drew = w7 at *
      go_wp2_with fail
      refine (next_c g c n _ i _ hm7 hT7).mono ?_
      rw [HST.out]
      rintro e w8 ⟨x, b, rfl, q1, q2, hbn⟩
      have hm8 := hm7.after hbn
      have hb8 := bl_trans hb7 hbn
      clear hm7 hb7 hT7 hbn
      cases b
      · have := (q2 rfl).2 (j + 1) (by omega)
        rw [rowOf_out (by omega)] at this
        cases this
      · have hx := next_row hi hj (q1 rfl)
        rw [if_pos (by omega)] at hx
        subst hx
        clear q1 q2
        have dk : ((k : Int) == (n : Int)) = false := by have := HK.out; simp; omega
        go_wp2_with fail
        refine (clear_row g c n i j k _ hm8 hi hj HK.out).mono ?_
        rintro e wz ⟨rfl, hmz, hgz⟩
        have hbz := bl_grown hb8 hgz hcl
        clear hm8 hb8 hgz
        go_wp2_with fail
        refine (count_c g c n 0 _ _ hmz (cnt_none fun _ _ _ => rfl)).mono ?_
        rintro e wy ⟨rfl, rfl⟩
        go_wp2_with fail
        go_ret
        exact ⟨rfl, hbz⟩
    · go_wp2_with fail
      refine (has_int g c n _ ((i : Int) - 1) false _ hm5 (by omega) (by omega) (rowOf_out (by omega))).mono ?_
      rintro e w6 ⟨rfl, rfl⟩
      have hm6 := hm5.drew
      have hb6 := bl_drew hb5
      have hT6 : Tab w5.drew := hT5.drewN 1
      clear hm5 hb5 hT5
      generalize w5.drew = w6 at *
      go_wp2_with fail
      refine (next_c g c n _ i _ hm6 hT6).mono ?_
      rw [HST.out]
      rintro e w7 ⟨x, b, rfl, q1, q2, hbn⟩
      have hm7 := hm6.after hbn
      have hb7 := bl_trans hb6 hbn
      clear hm6 hb6 hT6 hbn
      cases b
      · have := (q2 rfl).2 (0) (by omega)
        rw [rowOf_out (by omega)] at this
        cases this
      · have hx := next_row hi hj (q1 rfl)
        rw [if_neg (by omega)] at hx
        subst hx
        clear q1 q2
        have dk : ((k : Int) == (n : Int)) = false := by have := HK.out; simp; omega
        go_wp2_with fail
        refine (clear_row g c n i j k _ hm7 hi hj HK.out).mono ?_
        rintro e wz ⟨rfl, hmz, hgz⟩
        have hbz := bl_grown hb7 hgz hcl
        clear hm7 hb7 hgz
        go_wp2_with fail
        refine (count_c g c n 0 _ _ hmz (cnt_none fun _ _ _ => rfl)).mono ?_
        rintro e wy ⟨rfl, rfl⟩
        go_wp2_with fail
        go_ret
        exact ⟨rfl, hbz⟩
  · by_cases h1 : j + 1 < n
    · go_wp2_with fail
      refine (has_int g c n _ ((j : Int) + 1) false _ hm5 (by omega) (by omega) (rowOf_out (by omega))).mono ?_
      rintro e w6 ⟨rfl, rfl⟩
      have hm6 := hm5.drew
      have hb6 := bl_drew hb5
      have hT6 : Tab w5.drew := hT5.drewN 1
      clear hm5 hb5 hT5
      generalize w5.drew = w6 at *
      go_wp2_with fail
      refine (next_c g c n _ i _ hm6 hT6).mono ?_
      rw [HST.out]
      rintro e w7 ⟨x, b, rfl, q1, q2, hbn⟩
      have hm7 := hm6.after hbn
      have hb7 := bl_trans hb6 hbn
      clear hm6 hb6 hT6 hbn
      cases b
      · have := (q2 rfl).2 (j + 1) (by omega)
        rw [rowOf_out (by omega)] at this
        cases this
      · have hx := next_row hi hj (q1 rfl)
        rw [if_pos (by omega)] at hx
        subst hx
        clear q1 q2
        have dk : ((k : Int) == (n : Int)) = false := by have := HK.out; simp; omega
        go_wp2_with fail
        refine (clear_row g c n i j k _ hm7 hi hj HK.out).mono ?_
        rintro e wz ⟨rfl, hmz, hgz⟩
        have hbz := bl_grown hb7 hgz hcl
        clear hm7 hb7 hgz
        go_wp2_with fail
        refine (count_c g c n 0 _ _ hmz (cnt_none fun _ _ _ => rfl)).mono ?_
        rintro e wy ⟨rfl, rfl⟩
        go_wp2_with fail
        go_ret
        exact ⟨rfl, hbz⟩
    · go_wp2_with fail
      refine (next_c g c n _ i _ hm5 hT5).mono ?_
      rw [HST.out]
      rintro e w6 ⟨x, b, rfl, q1, q2, hbn⟩
      have hm6 := hm5.after hbn
      have hb6 := bl_trans hb5 hbn
      clear hm5 hb5 hT5 hbn
      cases b
      · obtain ⟨rfl, _⟩ := q2 rfl
        clear q1 q2
        have dk : ((k : Int) == (n : Int)) = true := by have := HK.out; simp; omega
        go_wp2_with fail
        go_ret
        exact ⟨rfl, hb6⟩
      · obtain ⟨z1, z2, _⟩ := q1 rfl
        rw [rowOf_in (by omega) (by omega)] at z2
        cases z2
theorem bitmapGreat_walk (n i j : Int) (w : World) (hT : Tab w) :
    Calls Tryd.prog 3 #[.int .i64 n, .int .i64 i, .int .i64 j] w fun e w' => e = .returned (.bool true) ∧ Below w.heap.size w w' := by
  by_cases hn : n < 0 ∨ 65536 < n
  · exact great_no n i j w hT hn
  · obtain ⟨N, rfl⟩ := Int.eq_ofNat_of_zero_le (show 0 ≤ n by omega)
    by_cases hb : i < 0 ∨ (0 ≤ i ∧ j < i) ∨ (0 ≤ i ∧ i ≤ j ∧ N ≤ j)
    · exact great_arg N i j w hT (by omega) hb
    · obtain ⟨I, rfl⟩ := Int.eq_ofNat_of_zero_le (show 0 ≤ i by omega)
      obtain ⟨J, rfl⟩ := Int.eq_ofNat_of_zero_le (show 0 ≤ j by omega)
      exact great_yes N I J w hT (by omega) (by omega) (by omega)
end Go.Proofs.YtnhaejbakgjelaaDoor
