/- The walks of the reference's maps: Set, Next. -/
import Derived.Test.YtnhaejbakgjelaaDoorBmR
namespace Go.Proofs.YtnhaejbakgjelaaDoor
open Go.RowKit

set_option maxRecDepth 20000 in
theorem rset_arg (g c n : Nat) (f : Nat → Bool) (i j : Int) (b : Bool) (w : World) (h : RefAt w g c n f) (hb : ¬ (0 ≤ i ∧ i ≤ j ∧ j < n)) :
    Calls Tryd.prog 44 #[.pointer (some ⟨g, 0, none⟩), .int .i64 i, .int .i64 j, .bool b] w fun e w' => e = .returned (.tuple #[.int .i64 0, .int .i64 1]) ∧ w = w' := by
  have h0 := h.bools
  have hs := h.small
  rcases (show i < 0 ∨ (0 ≤ i ∧ n ≤ i) ∨ (0 ≤ i ∧ i < n ∧ j < 0) ∨ (0 ≤ i ∧ i < n ∧ 0 ≤ j ∧ n ≤ j) ∨ (0 ≤ i ∧ i < n ∧ 0 ≤ j ∧ j < n ∧ j < i) by omega) with h1 | ⟨h1, h2⟩ | ⟨h1, h2, h3⟩ | ⟨h1, h2, h3, h4⟩ | ⟨h1, h2, h3, h4, h5⟩
  all_goals
    go_enter Tryd.func44, Tryd.ntmps44
    go_wp2_with fail
    go_ret2
    exact ⟨rfl, rfl⟩
/-- f, but b from i to below m -/
def upto (f : Nat → Bool) (b : Bool) (i m : Nat) : Nat → Bool := fun x => if i ≤ x ∧ x < m then b else f x
theorem upto_start (f : Nat → Bool) (b : Bool) (i : Nat) : upto f b i i = f := by
  funext x; unfold upto; rw [if_neg (by omega)]
theorem upto_step (f : Nat → Bool) (b : Bool) {i m : Nat} (h : i ≤ m) : upd (upto f b i m) m b = upto f b i (m + 1) := by
  funext x
  unfold upd upto
  by_cases e : x = m
  · subst e; rw [if_pos rfl, if_pos (by omega)]
  · rw [if_neg e]
    by_cases e2 : i ≤ x ∧ x < m
    · rw [if_pos e2, if_pos (by omega)]
    · rw [if_neg e2, if_neg (by omega)]
theorem upto_at (f : Nat → Bool) (b : Bool) (i m : Nat) : upto f b i m m = f m := by unfold upto; rw [if_neg (by omega)]
set_option maxRecDepth 20000 in
theorem rset_c (g c n i j : Nat) (f : Nat → Bool) (b : Bool) (w : World) (h : RefAt w g c n f) (hi : i ≤ j) (hj : j < n) :
    Calls Tryd.prog 44 #[.pointer (some ⟨g, 0, none⟩), .int .i64 i, .int .i64 j, .bool b] w fun e w' =>
      e = .returned (.tuple #[.int .i64 (cnt (fun x => f x != b) i (j + 1 - i) : Nat), .int .i64 0]) ∧ RefAt w' g c n (fun x => if i ≤ x ∧ x ≤ j then b else f x) ∧ w.grownBy w' (some c) := by
  have h0 := h.bools
  have hs := h.small
  have dji : decide (j < i) = false := decide_eq_false (by omega)
  go_enter Tryd.func44, Tryd.ntmps44
  go_wp2_with fail
  go_loopw [10, 11] (fun s k wr => ∃ m : Nat, i ≤ m ∧ m ≤ j + 1 ∧ k = .int .i64 m ∧ s = .int .i64 (cnt (fun x => f x != b) i (m - i) : Nat) ∧ RefAt wr g c n (upto f b i m) ∧ w.grownBy wr (some c)) (fun _ k _ => j + 1 - (intOf k).toNat)
  case atStart => exact ⟨i, by omega, by omega, rfl, by rw [Nat.sub_self]; rfl, h.same (upto_start _ _ _).symm, gb_refl _ _⟩
  case round =>
    obtain ⟨m, hm1, hm2, rfl, rfl, hr, hg⟩ := hrel
    have q0 := hr.bools
    by_cases hlt : m ≤ j
    · have q1 := hr.bit (k := m) (by omega)
      rw [upto_at] at q1
      have qz := hr.free m
      have hfin := hr.put (i := m) (by omega) b
      rw [upto_step f b hm1] at hfin
      have hb := cnt_le (fun x => f x != b) i (m - i)
      have hc : cnt (fun x => f x != b) i (m + 1 - i) = cnt (fun x => f x != b) i (m - i) + (f m != b).toNat := by
        rw [show m + 1 - i = (m - i) + 1 from by omega, cnt, show i + (m - i) = m from by omega]
      have HF := Lib.hid hfin
      have dk : (m : Int) ≤ j := by omega
      clear hfin
      generalize cnt (fun x => f x != b) i (m - i) = S at *
      cases hfm : f m
      all_goals
        rw [hfm] at q1 hc
        clear hfm
        cases b
        all_goals
          have HC := Lib.hid hc
          clear hc
          go_wp2_with fail
          go_roundw
          case rel => exact ⟨m + 1, by omega, by omega, by go_num, by rw [HC.out]; simp, HF.out, gb_set hg _⟩
          case measure => simp [intOf]; omega
    · obtain rfl : m = j + 1 := by omega
      have dk : ¬ ((j : Int) + 1) ≤ j := by omega
      go_wp2_with fail
      go_ret2
      refine ⟨rfl, hr.same ?_, hg⟩
      funext x
      unfold upto
      by_cases e : i ≤ x ∧ x < j + 1
      · rw [if_pos e, if_pos (by omega)]
      · rw [if_neg e, if_neg (by omega)]

/-- where a search stands behind k steps -/
def stepAt (a n k : Nat) : Nat := if a + k < n then a + k else a + k - n
theorem stepAt_lt {a n k : Nat} (ha : a < n) (hk : k < n) : stepAt a n k < n := by unfold stepAt; split <;> omega
/-- those that k steps have passed -/
def passed (a n k y : Nat) : Prop := (a ≤ y ∧ y < a + k ∧ y < n) ∨ y + n < a + k
theorem passed_all {a n y : Nat} (hy : y < n) : passed a n n y := by unfold passed; omega
theorem isNext_of {f : Nat → Bool} {a n k : Nat} (ha : a < n) (hk : k < n) (h : ∀ y, passed a n k y → f y = true) (hf : f (stepAt a n k) = false) : IsNext f n a (stepAt a n k) := by
  refine ⟨stepAt_lt ha hk, hf, ?_⟩
  by_cases e : a + k < n
  · have es : stepAt a n k = a + k := if_pos e
    rw [es]
    exact Or.inl ⟨by omega, fun y h1 h2 => h y (Or.inl ⟨h1, h2, by omega⟩)⟩
  · have es : stepAt a n k = a + k - n := if_neg e
    rw [es]
    exact Or.inr ⟨by omega, fun y h1 h2 => h y (Or.inl ⟨h1, by omega, h2⟩), fun y h1 => h y (Or.inr (by omega))⟩
theorem passed_step {f : Nat → Bool} {a n k : Nat} (h : ∀ y, passed a n k y → f y = true) (hf : f (stepAt a n k) = true) : ∀ y, passed a n (k + 1) y → f y = true := by
  intro y hy
  by_cases e : y = stepAt a n k
  · rw [e]; exact hf
  · refine h y ?_
    unfold passed at *
    unfold stepAt at e
    split at e <;> omega
set_option maxRecDepth 20000 in
theorem rnext_c (g c n : Nat) (f : Nat → Bool) (i : Int) (w : World) (h : RefAt w g c n f) :
    Calls Tryd.prog 25 #[.pointer (some ⟨g, 0, none⟩), .int .i64 i] w (Nexted f n (startAt i n) w) := by
  have hs := h.small
  have h0 := h.bools
  by_cases hn : n = 0
  · have d0 : ((n : Int) == 0) = true := by simp [hn]
    have HN := Lib.hid hn
    clear hn
    go_enter Tryd.func25, Tryd.ntmps25
    go_wp2_with fail
    go_ret2
    exact ⟨0, false, rfl, by simp, fun _ => ⟨rfl, fun y hy => by have := HN.out; omega⟩, Below.refl _ _⟩
  · have d0 : ((n : Int) == 0) = false := by simp [hn]
    have ha : startAt i n < n := Nat.mod_lt _ (by omega)
    have hw : ∀ k, k < n → w.cell? ⟨c, k, none⟩ = some (.bool (f k)) := fun k hk => h.bit hk
    have HW := Lib.hid hw
    clear hw
    obtain ⟨x, hx, hxm⟩ : ∃ x : Int, (if i < 0 then 0 else i) = x ∧ x % n = (startAt i n : Nat) := by
      refine ⟨_, rfl, ?_⟩
      unfold startAt
      by_cases e : i < 0
      · rw [if_pos e, show i.toNat = 0 from by omega]; simp
      · rw [if_neg e]; obtain ⟨I, rfl⟩ := Int.eq_ofNat_of_zero_le (show 0 ≤ i by omega); simp
    generalize startAt i n = a at *
    have fin : ∀ (u : Value) (x2 : Int), True := fun _ _ => trivial
    clear fin
    by_cases hi : i < 0
    · rw [if_pos hi] at hx
      subst hx
      have HX := Lib.hid hxm
      have e0 : a = 0 := by simpa using hxm.symm
      subst e0
      clear hxm
      go_enter Tryd.func25, Tryd.ntmps25
      go_wp2_with fail
      go_loop [6, 7] (fun p k => ∃ m : Nat, m ≤ n ∧ k = .int .i64 m ∧ p = .int .i64 (if m < n then stepAt 0 n m else 0 : Nat) ∧ ∀ y, passed 0 n m y → f y = true) (fun _ k => n - (intOf k).toNat)
      case atStart => exact ⟨0, by omega, rfl, by rw [if_pos (by omega)]; unfold stepAt; rw [if_pos (by omega)]; rfl, fun y hy => by unfold passed at hy; omega⟩
      case round =>
        obtain ⟨m, hm, rfl, rfl, hpass⟩ := hrel
        have HP := Lib.hid hpass
        clear hpass
        by_cases hlt : m < n
        · rw [if_pos hlt]
          have hst := stepAt_lt (a := 0) (show 0 < n by omega) hlt
          have q1 := HW.out _ hst
          have hnx : (stepAt 0 n m + 1 = n → ((if m + 1 < n then stepAt 0 n (m + 1) else 0 : Nat)) = 0) ∧ (stepAt 0 n m + 1 ≠ n → ((if m + 1 < n then stepAt 0 n (m + 1) else 0 : Nat)) = stepAt 0 n m + 1) := by
            unfold stepAt
            constructor
            · intro e; repeat' split
              all_goals (repeat' (split at e)) <;> omega
            · intro e; repeat' split
              all_goals (repeat' (split at e)) <;> omega
          have HNX := Lib.hid hnx
          clear hnx
          cases hf : f (stepAt 0 n m)
          · have hz := isNext_of (show 0 < n by omega) hlt HP.out hf
            have HZ := Lib.hid hz
            clear hz
            rw [hf] at q1
            have HF := Lib.hid hf
            clear hf
            generalize stepAt 0 n m = z at *
            go_wp2_with fail
            go_ret2
            exact ⟨z, true, rfl, fun _ => HZ.out, by simp, Below.refl _ _⟩
          · have hp2 := passed_step HP.out hf
            have HP2 := Lib.hid hp2
            clear hp2
            rw [hf] at q1
            clear hf
            generalize stepAt 0 n m = z at *
            by_cases hend : z + 1 = n
            · have e2 := HNX.out.1 hend
              have d1 : ((z : Int) + 1 == (n : Int)) = true := by simp; omega
              have E2 := Lib.hid e2
              have HE := Lib.hid hend
              clear e2 hend
              go_wp2_with fail
              go_round
              case rel => exact ⟨m + 1, by omega, by go_num, by rw [E2.out]; rfl, HP2.out⟩
              case measure => simp [intOf]; omega
            · have e2 := HNX.out.2 hend
              have d1 : ((z : Int) + 1 == (n : Int)) = false := by simp; omega
              have E2 := Lib.hid e2
              clear e2
              go_wp2_with fail
              go_round
              case rel => exact ⟨m + 1, by omega, by go_num, by rw [E2.out]; go_num, HP2.out⟩
              case measure => simp [intOf]; omega
        · obtain rfl : m = n := by omega
          go_wp2_with fail
          go_ret2
          exact ⟨0, false, rfl, by simp, fun _ => ⟨rfl, fun y hy => HP.out y (passed_all hy)⟩, Below.refl _ _⟩
    · rw [if_neg hi] at hx
      subst hx
      obtain ⟨I, rfl⟩ := Int.eq_ofNat_of_zero_le (show 0 ≤ i by omega)
      go_enter Tryd.func25, Tryd.ntmps25
      go_wp2_with fail
      go_loop [6, 7] (fun p k => ∃ m : Nat, m ≤ n ∧ k = .int .i64 m ∧ p = .int .i64 (if m < n then stepAt a n m else a : Nat) ∧ ∀ y, passed a n m y → f y = true) (fun _ k => n - (intOf k).toNat)
      case atStart => exact ⟨0, by omega, rfl, by rw [if_pos (by omega)]; unfold stepAt; rw [if_pos (by omega)]; rfl, fun y hy => by unfold passed at hy; omega⟩
      case round =>
        obtain ⟨m, hm, rfl, rfl, hpass⟩ := hrel
        have HP := Lib.hid hpass
        clear hpass
        by_cases hlt : m < n
        · rw [if_pos hlt]
          have hst := stepAt_lt (a := a) ha hlt
          have q1 := HW.out _ hst
          have hnx : (stepAt a n m + 1 = n → ((if m + 1 < n then stepAt a n (m + 1) else a : Nat)) = 0) ∧ (stepAt a n m + 1 ≠ n → ((if m + 1 < n then stepAt a n (m + 1) else a : Nat)) = stepAt a n m + 1) := by
            unfold stepAt
            constructor
            · intro e; repeat' split
              all_goals (repeat' (split at e)) <;> omega
            · intro e; repeat' split
              all_goals (repeat' (split at e)) <;> omega
          have HNX := Lib.hid hnx
          clear hnx
          cases hf : f (stepAt a n m)
          · have hz := isNext_of ha hlt HP.out hf
            have HZ := Lib.hid hz
            clear hz
            rw [hf] at q1
            have HF := Lib.hid hf
            clear hf
            generalize stepAt a n m = z at *
            go_wp2_with fail
            go_ret2
            exact ⟨z, true, rfl, fun _ => HZ.out, by simp, Below.refl _ _⟩
          · have hp2 := passed_step HP.out hf
            have HP2 := Lib.hid hp2
            clear hp2
            rw [hf] at q1
            clear hf
            generalize stepAt a n m = z at *
            by_cases hend : z + 1 = n
            · have e2 := HNX.out.1 hend
              have d1 : ((z : Int) + 1 == (n : Int)) = true := by simp; omega
              have E2 := Lib.hid e2
              have HE := Lib.hid hend
              clear e2 hend
              go_wp2_with fail
              go_round
              case rel => exact ⟨m + 1, by omega, by go_num, by rw [E2.out]; rfl, HP2.out⟩
              case measure => simp [intOf]; omega
            · have e2 := HNX.out.2 hend
              have d1 : ((z : Int) + 1 == (n : Int)) = false := by simp; omega
              have E2 := Lib.hid e2
              clear e2
              go_wp2_with fail
              go_round
              case rel => exact ⟨m + 1, by omega, by go_num, by rw [E2.out]; go_num, HP2.out⟩
              case measure => simp [intOf]; omega
        · obtain rfl : m = n := by omega
          go_wp2_with fail
          go_ret2
          exact ⟨0, false, rfl, by simp, fun _ => ⟨rfl, fun y hy => HP.out y (passed_all hy)⟩, Below.refl _ _⟩
end Go.Proofs.YtnhaejbakgjelaaDoor
