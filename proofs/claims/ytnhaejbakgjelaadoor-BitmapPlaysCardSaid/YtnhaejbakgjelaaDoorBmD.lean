/- The walks of the bitmaps' each, Fill, Clear. -/
import Derived.Test.YtnhaejbakgjelaaDoorBmC
namespace Go.Proofs.YtnhaejbakgjelaaDoor
open Go.RowKit

theorem each_nil (v : Value) (i j : Int) (w : World) :
    Calls Tryd.prog 35 #[.pointer none, .int .i64 i, .int .i64 j, v] w fun e w' => e = .returned (.int .i64 2) ∧ w = w' := by
  go_enter Tryd.func35, Tryd.ntmps35
  go_wp2
  go_ret
  exact ⟨rfl, rfl⟩
theorem each_arg (g c n : Nat) (f : Nat → Bool) (v : Value) (i j : Int) (w : World) (h : MapAt w g c n f) (hb : ¬ (0 ≤ i ∧ i ≤ j ∧ j < n)) :
    Calls Tryd.prog 35 #[.pointer (some ⟨g, 0, none⟩), .int .i64 i, .int .i64 j, v] w fun e w' => e = .returned (.int .i64 1) ∧ w = w' := by
  have h0 := h.size
  by_cases h1 : 0 ≤ i ∧ i < n
  · have d1 : decide (0 ≤ i ∧ i < n) = true := decide_eq_true h1
    by_cases h2 : 0 ≤ j ∧ j < n
    · have d2 : decide (0 ≤ j ∧ j < n) = true := decide_eq_true h2
      have d3 : decide (j < i) = true := decide_eq_true (by omega)
      go_enter Tryd.func35, Tryd.ntmps35
      go_wp2_with fail
      refine (is_c g n i _ h0).mono ?_
      rw [d1]
      rintro e w' ⟨rfl, rfl⟩
      go_wp2_with fail
      refine (is_c g n j _ h0).mono ?_
      rw [d2]
      rintro e w' ⟨rfl, rfl⟩
      go_wp2_with fail
      go_ret
      exact ⟨rfl, rfl⟩
    · have d2 : decide (0 ≤ j ∧ j < n) = false := decide_eq_false h2
      go_enter Tryd.func35, Tryd.ntmps35
      go_wp2_with fail
      refine (is_c g n i _ h0).mono ?_
      rw [d1]
      rintro e w' ⟨rfl, rfl⟩
      go_wp2_with fail
      refine (is_c g n j _ h0).mono ?_
      rw [d2]
      rintro e w' ⟨rfl, rfl⟩
      go_wp2_with fail
      go_ret
      exact ⟨rfl, rfl⟩
  · have d1 : decide (0 ≤ i ∧ i < n) = false := decide_eq_false h1
    go_enter Tryd.func35, Tryd.ntmps35
    go_wp2_with fail
    refine (is_c g n i _ h0).mono ?_
    rw [d1]
    rintro e w' ⟨rfl, rfl⟩
    go_wp2_with fail
    go_ret
    exact ⟨rfl, rfl⟩

/-- from i to j -/
def inr (i j : Nat) : Nat → Bool := fun x => decide (i ≤ x) && decide (x ≤ j)
set_option maxRecDepth 20000 in
theorem fill_each (B : Bool) (f h : Nat → Bool) (a b g c n i j : Nat) (w0 w : World)
    (hstep : ∀ k w, k < (n + 63) / 64 → Going B f (inr i j) h a b g c n w0 k w →
      Calls Tryd.prog 36 #[.int .i64 k, .int .u64 (W (inr i j) k : Nat), .pointer (some ⟨a, 0, none⟩), .pointer (some ⟨b, 0, none⟩)] w fun e w' => e = .returned (.tuple #[]) ∧ Going B f (inr i j) h a b g c n w0 (k + 1) w')
    (hi : i ≤ j) (hj : j < n) (hx : Going B f (inr i j) h a b g c n w0 (i / 64) w) :
    Calls Tryd.prog 35 #[.pointer (some ⟨g, 0, none⟩), .int .i64 i, .int .i64 j, .func (.func 36) #[] #[.pointer (some ⟨a, 0, none⟩), .pointer (some ⟨b, 0, none⟩)]] w
      fun e w' => e = .returned (.int .i64 0) ∧ Going B f (inr i j) h a b g c n w0 (j / 64 + 1) w' := by
  have h0 := hx.map.size
  have hs := hx.map.small
  have d1 : decide ((0 : Int) ≤ (i : Int) ∧ (i : Int) < (n : Int)) = true := decide_eq_true (by omega)
  have d2 : decide ((0 : Int) ≤ (j : Int) ∧ (j : Int) < (n : Int)) = true := decide_eq_true (by omega)
  have d3 : decide (j < i) = false := decide_eq_false (by omega)
  have HS := Lib.hid hstep
  clear hstep
  go_enter Tryd.func35, Tryd.ntmps35
  go_wp2_with fail
  refine (is_c g n i _ h0).mono ?_
  rw [d1]
  rintro e w' ⟨rfl, rfl⟩
  go_wp2_with fail
  refine (is_c g n j _ h0).mono ?_
  rw [d2]
  rintro e w' ⟨rfl, rfl⟩
  go_wp2_with fail
  clear h0 d1 d2 d3
  go_loopw [9] (fun k wr => ∃ m : Nat, i / 64 ≤ m ∧ m ≤ j / 64 + 1 ∧ k = .int .i64 m ∧ Going B f (inr i j) h a b g c n w0 m wr) (fun k _ => j / 64 + 1 - (intOf k).toNat)
  case atStart => exact ⟨i / 64, by omega, by omega, by go_num, hx⟩
  case round =>
    obtain ⟨m, hm1, hm2, rfl, hg⟩ := hrel
    by_cases hlt : m ≤ j / 64
    · have dk : decide ((m : Int) ≤ (j : Int) / 64) = true := decide_eq_true (by omega)
      go_wp2_with fail
      refine (mask_c m i j _ (by omega) (by omega) hi (by omega)).mono ?_
      rintro e w' ⟨rfl, rfl⟩
      go_wp2_with fail
      refine (HS.out m _ (by omega) hg.drew).mono ?_
      rintro e w' ⟨rfl, hg'⟩
      go_wp2_with fail
      go_roundw
      case rel => exact ⟨m + 1, by omega, by omega, by go_num, hg'⟩
      case measure => simp [intOf]; omega
    · have dk : decide ((m : Int) ≤ (j : Int) / 64) = false := decide_eq_false (by omega)
      obtain rfl : m = j / 64 + 1 := by omega
      go_wp2_with fail
      go_ret
      exact ⟨rfl, hg⟩
set_option maxRecDepth 20000 in
theorem clear_each (B : Bool) (f h : Nat → Bool) (a b g c n i j : Nat) (w0 w : World)
    (hstep : ∀ k w, k < (n + 63) / 64 → Going B f (inr i j) h a b g c n w0 k w →
      Calls Tryd.prog 41 #[.int .i64 k, .int .u64 (W (inr i j) k : Nat), .pointer (some ⟨a, 0, none⟩), .pointer (some ⟨b, 0, none⟩)] w fun e w' => e = .returned (.tuple #[]) ∧ Going B f (inr i j) h a b g c n w0 (k + 1) w')
    (hi : i ≤ j) (hj : j < n) (hx : Going B f (inr i j) h a b g c n w0 (i / 64) w) :
    Calls Tryd.prog 35 #[.pointer (some ⟨g, 0, none⟩), .int .i64 i, .int .i64 j, .func (.func 41) #[] #[.pointer (some ⟨a, 0, none⟩), .pointer (some ⟨b, 0, none⟩)]] w
      fun e w' => e = .returned (.int .i64 0) ∧ Going B f (inr i j) h a b g c n w0 (j / 64 + 1) w' := by
  have h0 := hx.map.size
  have hs := hx.map.small
  have d1 : decide ((0 : Int) ≤ (i : Int) ∧ (i : Int) < (n : Int)) = true := decide_eq_true (by omega)
  have d2 : decide ((0 : Int) ≤ (j : Int) ∧ (j : Int) < (n : Int)) = true := decide_eq_true (by omega)
  have d3 : decide (j < i) = false := decide_eq_false (by omega)
  have HS := Lib.hid hstep
  clear hstep
  go_enter Tryd.func35, Tryd.ntmps35
  go_wp2_with fail
  refine (is_c g n i _ h0).mono ?_
  rw [d1]
  rintro e w' ⟨rfl, rfl⟩
  go_wp2_with fail
  refine (is_c g n j _ h0).mono ?_
  rw [d2]
  rintro e w' ⟨rfl, rfl⟩
  go_wp2_with fail
  clear h0 d1 d2 d3
  go_loopw [9] (fun k wr => ∃ m : Nat, i / 64 ≤ m ∧ m ≤ j / 64 + 1 ∧ k = .int .i64 m ∧ Going B f (inr i j) h a b g c n w0 m wr) (fun k _ => j / 64 + 1 - (intOf k).toNat)
  case atStart => exact ⟨i / 64, by omega, by omega, by go_num, hx⟩
  case round =>
    obtain ⟨m, hm1, hm2, rfl, hg⟩ := hrel
    by_cases hlt : m ≤ j / 64
    · have dk : decide ((m : Int) ≤ (j : Int) / 64) = true := decide_eq_true (by omega)
      go_wp2_with fail
      refine (mask_c m i j _ (by omega) (by omega) hi (by omega)).mono ?_
      rintro e w' ⟨rfl, rfl⟩
      go_wp2_with fail
      refine (HS.out m _ (by omega) hg.drew).mono ?_
      rintro e w' ⟨rfl, hg'⟩
      go_wp2_with fail
      go_roundw
      case rel => exact ⟨m + 1, by omega, by omega, by go_num, hg'⟩
      case measure => simp [intOf]; omega
    · have dk : decide ((m : Int) ≤ (j : Int) / 64) = false := decide_eq_false (by omega)
      obtain rfl : m = j / 64 + 1 := by omega
      go_wp2_with fail
      go_ret
      exact ⟨rfl, hg⟩
theorem sofar_end (b : Bool) (f : Nat → Bool) (i j : Nat) : sofar b f (inr i j) (j / 64 + 1) = fun x => if i ≤ x ∧ x ≤ j then b else f x := by
  funext x
  unfold sofar inr
  by_cases e : i ≤ x ∧ x ≤ j
  · rw [if_pos e, if_pos ⟨by simp [e], by omega⟩]
  · rw [if_neg e, if_neg (by simp only [Bool.and_eq_true, decide_eq_true_eq]; omega)]
theorem sofar_start (b : Bool) (f : Nat → Bool) (i j : Nat) : sofar b f (inr i j) (i / 64) = f := by
  funext x
  unfold sofar inr
  rw [if_neg (by simp only [Bool.and_eq_true, decide_eq_true_eq]; omega)]
theorem MapAt.same {w : World} {g c n : Nat} {f f' : Nat → Bool} (h : MapAt w g c n f) (e : f = f') : MapAt w g c n f' := e ▸ h

theorem fill_nil (i j : Int) (w : World) :
    Calls Tryd.prog 11 #[.pointer none, .int .i64 i, .int .i64 j] w fun e w' => e = .returned (.tuple #[.int .i64 0, .int .i64 2]) ∧ Below w.heap.size w w' := by
  go_enter Tryd.func11, Tryd.ntmps11
  go_wp2_with fail
  refine (each_nil _ i j _).mono ?_
  rintro e w' ⟨rfl, rfl⟩
  go_wp2_with fail
  go_ret2
  exact ⟨rfl, bl_alloc (bl_alloc (Below.refl _ _) _) _⟩
theorem fill_arg (g c n : Nat) (f : Nat → Bool) (i j : Int) (w : World) (h : MapAt w g c n f) (hb : ¬ (0 ≤ i ∧ i ≤ j ∧ j < n)) :
    Calls Tryd.prog 11 #[.pointer (some ⟨g, 0, none⟩), .int .i64 i, .int .i64 j] w fun e w' => e = .returned (.tuple #[.int .i64 0, .int .i64 1]) ∧ Below w.heap.size w w' := by
  go_enter Tryd.func11, Tryd.ntmps11
  go_wp2_with fail
  refine (each_arg g c n f _ i j _ ((h.alloc _).alloc _) hb).mono ?_
  rintro e w' ⟨rfl, rfl⟩
  go_wp2_with fail
  go_ret2
  exact ⟨rfl, bl_alloc (bl_alloc (Below.refl _ _) _) _⟩
theorem fill_c (g c n i j : Nat) (f : Nat → Bool) (w : World) (h : MapAt w g c n f) (hi : i ≤ j) (hj : j < n) :
    Calls Tryd.prog 11 #[.pointer (some ⟨g, 0, none⟩), .int .i64 i, .int .i64 j] w fun e w' =>
      e = .returned (.tuple #[.int .i64 (cnt (fun x => !f x) i (j + 1 - i) : Nat), .int .i64 0]) ∧ MapAt w' g c n (fun x => if i ≤ x ∧ x ≤ j then true else f x) ∧ w.grownBy w' (some c) := by
  have hcnt : cnt (fun x => inr i j x && !f x) 0 (64 * (j / 64 + 1)) = cnt (fun x => !f x) i (j + 1 - i) := by
    have e : 64 * (j / 64 + 1) = i + ((j + 1 - i) + (64 * (j / 64 + 1) - (j + 1))) := by omega
    rw [e, cnt_join, cnt_join, Nat.zero_add, cnt_none (n := i) (fun x _ hx => by unfold inr; simp; omega), Nat.zero_add,
      cnt_none (a := i + (j + 1 - i)) (fun x hx _ => by unfold inr; simp; omega), Nat.add_zero]
    exact cnt_congr fun x h1 h2 => by unfold inr; rw [show decide (i ≤ x) = true from decide_eq_true h1, show decide (x ≤ j) = true from decide_eq_true (by omega)]; simp
  have hq : ∀ x, n ≤ x → inr i j x = false := fun x hx => by unfold inr; rw [show decide (x ≤ j) = false from decide_eq_false (by omega)]; simp
  have hstart : Going true f (inr i j) (fun x => inr i j x && !f x) (w.heap.size + 1) w.heap.size g c n ((w.alloc (.cells #[.pointer (some ⟨g, 0, none⟩)] 23)).alloc (.cells #[.int .i64 0] 3)) (i / 64)
      ((w.alloc (.cells #[.pointer (some ⟨g, 0, none⟩)] 23)).alloc (.cells #[.int .i64 0] 3)) := by
    refine ⟨?_, (Blk.new _ _ _).alloc _, ((h.alloc _).alloc _).same (sofar_start _ _ _ _).symm, Fr2.refl _ _ _⟩
    rw [cnt_none fun x _ hx => by unfold inr; simp; omega]
    exact Blk.new' _ _ _ _ (by simp)
  have HC := Lib.hid hcnt
  clear hcnt
  go_enter Tryd.func11, Tryd.ntmps11
  go_wp2_with fail
  refine (fill_each true f (fun x => inr i j x && !f x) (w.heap.size + 1) w.heap.size g c n i j _ _ (fun k w1 hk hg => fill1_c _ _ g c n k f (inr i j) _ w1 hg hk hq) hi hj hstart).mono ?_
  rintro e w' ⟨rfl, hg⟩
  have k0 := (hg.box.cell 0).trans rfl
  simp only [List.getElem?_toArray, List.getElem?_cons_zero] at k0
  have hmap := hg.map.same (sofar_end _ _ _ _)
  have hfr := hg.frame.grown (bl_alloc (bl_alloc (Below.refl _ _) _) _) (by omega)
  rw [HC.out] at k0
  clear hstart hq hg
  go_wp2_with fail
  go_ret2
  exact ⟨rfl, hmap, hfr⟩
theorem clear_nil (i j : Int) (w : World) :
    Calls Tryd.prog 15 #[.pointer none, .int .i64 i, .int .i64 j] w fun e w' => e = .returned (.tuple #[.int .i64 0, .int .i64 2]) ∧ Below w.heap.size w w' := by
  go_enter Tryd.func15, Tryd.ntmps15
  go_wp2_with fail
  refine (each_nil _ i j _).mono ?_
  rintro e w' ⟨rfl, rfl⟩
  go_wp2_with fail
  go_ret2
  exact ⟨rfl, bl_alloc (bl_alloc (Below.refl _ _) _) _⟩
theorem clear_arg (g c n : Nat) (f : Nat → Bool) (i j : Int) (w : World) (h : MapAt w g c n f) (hb : ¬ (0 ≤ i ∧ i ≤ j ∧ j < n)) :
    Calls Tryd.prog 15 #[.pointer (some ⟨g, 0, none⟩), .int .i64 i, .int .i64 j] w fun e w' => e = .returned (.tuple #[.int .i64 0, .int .i64 1]) ∧ Below w.heap.size w w' := by
  go_enter Tryd.func15, Tryd.ntmps15
  go_wp2_with fail
  refine (each_arg g c n f _ i j _ ((h.alloc _).alloc _) hb).mono ?_
  rintro e w' ⟨rfl, rfl⟩
  go_wp2_with fail
  go_ret2
  exact ⟨rfl, bl_alloc (bl_alloc (Below.refl _ _) _) _⟩
theorem clear_c (g c n i j : Nat) (f : Nat → Bool) (w : World) (h : MapAt w g c n f) (hi : i ≤ j) (hj : j < n) :
    Calls Tryd.prog 15 #[.pointer (some ⟨g, 0, none⟩), .int .i64 i, .int .i64 j] w fun e w' =>
      e = .returned (.tuple #[.int .i64 (cnt (fun x => f x) i (j + 1 - i) : Nat), .int .i64 0]) ∧ MapAt w' g c n (fun x => if i ≤ x ∧ x ≤ j then false else f x) ∧ w.grownBy w' (some c) := by
  have hcnt : cnt (fun x => inr i j x && f x) 0 (64 * (j / 64 + 1)) = cnt (fun x => f x) i (j + 1 - i) := by
    have e : 64 * (j / 64 + 1) = i + ((j + 1 - i) + (64 * (j / 64 + 1) - (j + 1))) := by omega
    rw [e, cnt_join, cnt_join, Nat.zero_add, cnt_none (n := i) (fun x _ hx => by unfold inr; simp; omega), Nat.zero_add,
      cnt_none (a := i + (j + 1 - i)) (fun x hx _ => by unfold inr; simp; omega), Nat.add_zero]
    exact cnt_congr fun x h1 h2 => by unfold inr; rw [show decide (i ≤ x) = true from decide_eq_true h1, show decide (x ≤ j) = true from decide_eq_true (by omega)]; simp
  have hq : ∀ x, n ≤ x → inr i j x = false := fun x hx => by unfold inr; rw [show decide (x ≤ j) = false from decide_eq_false (by omega)]; simp
  have hstart : Going false f (inr i j) (fun x => inr i j x && f x) (w.heap.size + 1) w.heap.size g c n ((w.alloc (.cells #[.pointer (some ⟨g, 0, none⟩)] 23)).alloc (.cells #[.int .i64 0] 3)) (i / 64)
      ((w.alloc (.cells #[.pointer (some ⟨g, 0, none⟩)] 23)).alloc (.cells #[.int .i64 0] 3)) := by
    refine ⟨?_, (Blk.new _ _ _).alloc _, ((h.alloc _).alloc _).same (sofar_start _ _ _ _).symm, Fr2.refl _ _ _⟩
    rw [cnt_none fun x _ hx => by unfold inr; simp; omega]
    exact Blk.new' _ _ _ _ (by simp)
  have HC := Lib.hid hcnt
  clear hcnt
  go_enter Tryd.func15, Tryd.ntmps15
  go_wp2_with fail
  refine (clear_each false f (fun x => inr i j x && f x) (w.heap.size + 1) w.heap.size g c n i j _ _ (fun k w1 hk hg => clear1_c _ _ g c n k f (inr i j) _ w1 hg hk hq) hi hj hstart).mono ?_
  rintro e w' ⟨rfl, hg⟩
  have k0 := (hg.box.cell 0).trans rfl
  simp only [List.getElem?_toArray, List.getElem?_cons_zero] at k0
  have hmap := hg.map.same (sofar_end _ _ _ _)
  have hfr := hg.frame.grown (bl_alloc (bl_alloc (Below.refl _ _) _) _) (by omega)
  rw [HC.out] at k0
  clear hstart hq hg
  go_wp2_with fail
  go_ret2
  exact ⟨rfl, hmap, hfr⟩
end Go.Proofs.YtnhaejbakgjelaaDoor
