/-
A part of the proof of carveSpans_card: its lemmas and walks, part 4. No condition.
-/
import Derived.Test.YtgdgklibilddgaaGreatDoorSpaM3
set_option linter.unusedVariables false
set_option linter.unusedSimpArgs false
namespace Go.Proofs.YtgdgklibilddgaaGreatDoor.PPr
open Go.RowKit Go.Proofs.YtgdgklibilddgaaGreatDoorW.PrintWords Go.Proofs.YtgdgklibilddgaaGreatDoorW.PrintLast Go.Proofs.YtgdgklibilddgaaGreatDoorW.PrintMore
attribute [local go_sem] max2_int min2_int max_two min_two max_three min_three max_four min_four   -- for this text's walks alone

attribute [local go_sem high] eqA26
mutual
def carve_Spread.j0 : Nat → Bool → Bool → Int → Int → Bool → Int → Int → Option ((List (S38)) × Int)
 | 0, _, _, _, _, _, _, _ => none
 | k + 1, x29, x488000, x488001, x488002, x489000, x489001, x489002 => if x29 = true then (some (([] : List (S38)), 1)) else (carve_Spread.l0 k ([] : List (S38)) x488000 x488001 x488002 x489000 x489001 x489002)
def carve_Spread.l0 : Nat → List (S38) → Bool → Int → Int → Bool → Int → Int → Option ((List (S38)) × Int)
 | 0, _, _, _, _, _, _, _ => none
 | k + 1, x6, x488000, x488001, x488002, x489000, x489001, x489002 => (carve_widest.f k x488000 x488001 x488002 x489000 x489001 x489002).bind fun bt492 => (if x6.length < 4398046511104 then ((some (x6 ++ [(⟨(⟨bt492.1, (⟨bt492.2.1, bt492.2.2.1⟩ : S24)⟩ : S26), bt492.2.2.2⟩ : S38)] : List (S38))).bind fun y497 => ((prefix_Last.f bt492.1 bt492.2.1 bt492.2.2.1 bt492.2.2.2).bind fun bt500 => (if (bt500.1 == x489000 && ((bt500.2.1 == x489001 && (bt500.2.2 == x489002)))) = true then (some (y497, 0)) else ((num_Of.f 1).bind fun bt504 => ((addr_Plus.f bt500.1 bt500.2.1 bt500.2.2 bt504.1 bt504.2).bind fun bt506 => (carve_Spread.l0 k y497 bt506.1 bt506.2.1 bt506.2.2.1 x489000 x489001 x489002)))))) else (none))
end
def carve_Spread.f (k : Nat) (a0_0 : Bool) (a0_1 : Int) (a0_2 : Int) (a1_0 : Bool) (a1_1 : Int) (a1_2 : Int) : Option ((List (S38)) × Int) := (addr_Right.f a0_0 a0_1 a0_2).bind fun t489 => (if t489 = true then ((addr_Right.f a1_0 a1_1 a1_2).bind fun t490 => (if t490 = true then (if (a0_0 != a1_0) = true then (carve_Spread.j0 k true a0_0 a0_1 a0_2 a1_0 a1_1 a1_2) else ((addr_Cmp.f a0_0 a0_1 a0_2 a1_0 a1_1 a1_2).bind fun t491 => (carve_Spread.j0 k (decide (t491 > 0)) a0_0 a0_1 a0_2 a1_0 a1_1 a1_2))) else (carve_Spread.j0 k true a0_0 a0_1 a0_2 a1_0 a1_1 a1_2))) else (carve_Spread.j0 k true a0_0 a0_1 a0_2 a1_0 a1_1 a1_2))
set_option maxHeartbeats 8000000 in
set_option maxRecDepth 100000 in
theorem carve_Spread.calls (k : Nat) (a0_0 : Bool) (a0_1 : Int) (a0_2 : Int) (a1_0 : Bool) (a1_1 : Int) (a1_2 : Int) (r1 : List (S38)) (r2 : Int) (w : World) (h : carve_Spread.f k a0_0 a0_1 a0_2 a1_0 a1_1 a1_2 = some (r1, r2)) :
  Calls Tryz.prog 58 #[.agg #[.bool a0_0, .int .u64 a0_1, .int .u64 a0_2], .agg #[.bool a1_0, .int .u64 a1_1, .int .u64 a1_2]] w fun e w' => ∃ v0_ : Value, e = .returned (.tuple #[v0_, .int .i64 r2]) ∧ Kd.R k38 38 w' w.heap.size (fun _ => True) v0_ r1 ∧ Below w.heap.size w w' := by
 have hu26 := Tryz.underlying26
 have hu38 := Tryz.underlying38
 have HB := Aside0.mk (Below.refl w.heap.size w)
 have H : ((addr_Right.f a0_0 a0_1 a0_2).bind fun t489 => (if t489 = true then ((addr_Right.f a1_0 a1_1 a1_2).bind fun t490 => (if t490 = true then (if (a0_0 != a1_0) = true then (carve_Spread.j0 k true a0_0 a0_1 a0_2 a1_0 a1_1 a1_2) else ((addr_Cmp.f a0_0 a0_1 a0_2 a1_0 a1_1 a1_2).bind fun t491 => (carve_Spread.j0 k (decide (t491 > 0)) a0_0 a0_1 a0_2 a1_0 a1_1 a1_2))) else (carve_Spread.j0 k true a0_0 a0_1 a0_2 a1_0 a1_1 a1_2))) else (carve_Spread.j0 k true a0_0 a0_1 a0_2 a1_0 a1_1 a1_2))) = some (r1, r2) := h
 clear h
 have HC3 := Aside0.mk H
 clear H
 go_enter Tryz.func58, Tryz.ntmps58
 go_upto_region 1 with (first | ((with_reducible refine gate_dst (N := 2) rfl ?_); refine bx_ 2 #[.bool a0_0, .int .u64 a0_1, .int .u64 a0_2] 26 ?_; intro gb487 hg w4 hbox hb; have BK487 := Aside0.mk (hbox); have GW487 := gw_ HB hg; have GE487 := gw_ HB hg; replace HB := bs_ HB hb; clear hb hbox hg) | ((with_reducible refine gate_dst (N := 3) rfl ?_); refine bx_ 3 #[.bool a1_0, .int .u64 a1_1, .int .u64 a1_2] 26 ?_; intro gb488 hg w5 hbox hb; have BK488 := Aside0.mk (hbox); have GW488 := gw_ HB hg; have GE488 := gw_ HB hg; have NB487_488 := nl_ BK487 hg; have NB488_487 := ng_ BK487 hg; replace BK487 := bb_ BK487 hb; replace HB := bs_ HB hb; clear hb hbox hg))
 (try simp only [Act.put, List.setIfInBounds_toArray, List.set_cons_zero, List.set_cons_succ])
 go_cut [29] (fun v29 wc => ∃ (kq : Nat) (x29_2 : Bool), v29 = .bool x29_2 ∧ Aside0 (carve_Spread.j0 kq x29_2 a0_0 a0_1 a0_2 a1_0 a1_1 a1_2 = some (r1, r2)) ∧ Aside0 (kq ≤ k) ∧ Aside0 (wc.heap[gb487]? = some (.cells #[.bool a0_0, .int .u64 a0_1, .int .u64 a0_2] 26 (0, 0))) ∧ Aside0 (wc.heap[gb488]? = some (.cells #[.bool a1_0, .int .u64 a1_1, .int .u64 a1_2] 26 (0, 0))) ∧ Aside0 (Below w.heap.size w wc))
 case first =>
  have H := HC3.out
  clear HC3
  replace H := Option.bind_eq_some_iff.mp H
  obtain ⟨t489, A60, H⟩ := H
  replace H : (if t489 = true then ((addr_Right.f a1_0 a1_1 a1_2).bind fun t490 => (if t490 = true then (if (a0_0 != a1_0) = true then (carve_Spread.j0 k true a0_0 a0_1 a0_2 a1_0 a1_1 a1_2) else ((addr_Cmp.f a0_0 a0_1 a0_2 a1_0 a1_1 a1_2).bind fun t491 => (carve_Spread.j0 k (decide (t491 > 0)) a0_0 a0_1 a0_2 a1_0 a1_1 a1_2))) else (carve_Spread.j0 k true a0_0 a0_1 a0_2 a1_0 a1_1 a1_2))) else (carve_Spread.j0 k true a0_0 a0_1 a0_2 a1_0 a1_1 a1_2)) = some (r1, r2) := H
  have A6 := Aside0.mk A60
  clear A60
  by_cases c7 : t489 = true
  ·
   subst c7
   rw [if_pos rfl] at H
   replace H := Option.bind_eq_some_iff.mp H
   obtain ⟨t490, A80, H⟩ := H
   replace H : (if t490 = true then (if (a0_0 != a1_0) = true then (carve_Spread.j0 k true a0_0 a0_1 a0_2 a1_0 a1_1 a1_2) else ((addr_Cmp.f a0_0 a0_1 a0_2 a1_0 a1_1 a1_2).bind fun t491 => (carve_Spread.j0 k (decide (t491 > 0)) a0_0 a0_1 a0_2 a1_0 a1_1 a1_2))) else (carve_Spread.j0 k true a0_0 a0_1 a0_2 a1_0 a1_1 a1_2)) = some (r1, r2) := H
   have A8 := Aside0.mk A80
   clear A80
   by_cases c9 : t490 = true
   ·
    subst c9
    rw [if_pos rfl] at H
    by_cases c10 : (a0_0 != a1_0) = true
    ·
     rw [if_pos c10] at H
     have c10b0 : (a0_0 != a1_0) = true := c10
     (try (have c10b1 : decide (a0_0 = a1_0) = false := by simpa using c10))
     (try (have c10b2 : (a0_0 == a1_0) = false := by simpa using c10))
     (try (have c10b3 : ¬ (a0_0 = a1_0) := by simpa using c10))
     clear c10
     (first | rw [c10b0] | (simp only [i64_w, i32_w]; rw [c10b0]) | skip)
     have H' := Aside0.mk H
     clear H
     have hnb11 := NB487_488.out
     have hnc11 := NB488_487.out
     obtain ⟨hcz12_0, hcz12_1, hcz12_2, hfz12_0, hfz12_1, hfz12_2⟩ := c3_ BK487
     go_wp2_with (first | ((with_reducible refine gate_callee (f := 18) rfl ?_); refine gl_ (some 10) Tryz.func18 #[.agg #[.bool a0_0, .int .u64 a0_1, .int .u64 a0_2]] ?_; (with_reducible refine (addr_Right.calls a0_0 a0_1 a0_2 true _ A6.out).mono ?_); rintro e w13 ⟨rfl, hb⟩; refine ⟨_, rfl, ?_⟩; replace BK487 := bb_ BK487 hb; replace BK488 := bb_ BK488 hb; replace HB := bs_ HB hb; (try clear hb); (try clear hb2); (try clear hk); (try clear hi); obtain ⟨hcz14_0, hcz14_1, hcz14_2, hfz14_0, hfz14_1, hfz14_2⟩ := c3_ BK488) | (go_at_call 18; (with_reducible refine (addr_Right.calls a1_0 a1_1 a1_2 true _ A8.out).mono ?_); rintro e w15 ⟨rfl, hb⟩; replace BK487 := bb_ BK487 hb; replace BK488 := bb_ BK488 hb; replace HB := bs_ HB hb; (try clear hb); (try clear hb2); (try clear hk); (try clear hi); obtain ⟨hcz16_0, hcz16_1, hcz16_2, hfz16_0, hfz16_1, hfz16_2⟩ := c3_ BK487; obtain ⟨hcz17_0, hcz17_1, hcz17_2, hfz17_0, hfz17_1, hfz17_2⟩ := c3_ BK488))
     go_meet
     case rel => exact ⟨_, (true), (by first | rfl | (simp; done) | (simp [*]; done)), H', ⟨by first | omega | exact Nat.le_refl _⟩, ⟨by refine pw_ ?_; exact BK487.out⟩, ⟨by refine pw_ ?_; exact BK488.out⟩, ⟨pb_ HB⟩⟩
    ·
     rw [if_neg c10] at H
     have c10b0 : (a0_0 != a1_0) = false := by simpa using c10
     (try (have c10b1 : decide (a0_0 = a1_0) = true := by simpa using c10))
     (try (have c10b2 : (a0_0 == a1_0) = true := by simpa using c10))
     clear c10
     (first | rw [c10b0] | (simp only [i64_w, i32_w]; rw [c10b0]) | skip)
     replace H := Option.bind_eq_some_iff.mp H
     obtain ⟨t491, A180, H⟩ := H
     replace H : (carve_Spread.j0 k (decide (t491 > 0)) a0_0 a0_1 a0_2 a1_0 a1_1 a1_2) = some (r1, r2) := H
     have A18 := Aside0.mk A180
     clear A180
     have H' := Aside0.mk H
     clear H
     have hnb19 := NB487_488.out
     have hnc19 := NB488_487.out
     obtain ⟨hcz20_0, hcz20_1, hcz20_2, hfz20_0, hfz20_1, hfz20_2⟩ := c3_ BK487
     go_wp2_with (first | ((with_reducible refine gate_callee (f := 18) rfl ?_); refine gl_ (some 10) Tryz.func18 #[.agg #[.bool a0_0, .int .u64 a0_1, .int .u64 a0_2]] ?_; (with_reducible refine (addr_Right.calls a0_0 a0_1 a0_2 true _ A6.out).mono ?_); rintro e w21 ⟨rfl, hb⟩; refine ⟨_, rfl, ?_⟩; replace BK487 := bb_ BK487 hb; replace BK488 := bb_ BK488 hb; replace HB := bs_ HB hb; (try clear hb); (try clear hb2); (try clear hk); (try clear hi); obtain ⟨hcz22_0, hcz22_1, hcz22_2, hfz22_0, hfz22_1, hfz22_2⟩ := c3_ BK488) | (go_at_call 18; (with_reducible refine (addr_Right.calls a1_0 a1_1 a1_2 true _ A8.out).mono ?_); rintro e w23 ⟨rfl, hb⟩; replace BK487 := bb_ BK487 hb; replace BK488 := bb_ BK488 hb; replace HB := bs_ HB hb; (try clear hb); (try clear hb2); (try clear hk); (try clear hi); obtain ⟨hcz24_0, hcz24_1, hcz24_2, hfz24_0, hfz24_1, hfz24_2⟩ := c3_ BK487; obtain ⟨hcz25_0, hcz25_1, hcz25_2, hfz25_0, hfz25_1, hfz25_2⟩ := c3_ BK488) | (go_at_call 20; (with_reducible refine (addr_Cmp.calls a0_0 a0_1 a0_2 a1_0 a1_1 a1_2 t491 _ A18.out).mono ?_); rintro e w26 ⟨rfl, hb⟩; replace BK487 := bb_ BK487 hb; replace BK488 := bb_ BK488 hb; replace HB := bs_ HB hb; (try clear hb); (try clear hb2); (try clear hk); (try clear hi)))
     go_meet
     case rel => exact ⟨_, (decide (t491 > 0)), (by first | rfl | (simp; done) | (simp [*]; done)), H', ⟨by first | omega | exact Nat.le_refl _⟩, ⟨by refine pw_ ?_; exact BK487.out⟩, ⟨by refine pw_ ?_; exact BK488.out⟩, ⟨pb_ HB⟩⟩
   ·
    replace c9 := Bool.eq_false_iff.mpr c9
    subst c9
    have H1 : (carve_Spread.j0 k true a0_0 a0_1 a0_2 a1_0 a1_1 a1_2) = some (r1, r2) := by rw [if_neg (show ¬ (false = true) by decide)] at H; exact H
    clear H
    have H := H1
    clear H1
    have H' := Aside0.mk H
    clear H
    have hnb27 := NB487_488.out
    have hnc27 := NB488_487.out
    obtain ⟨hcz28_0, hcz28_1, hcz28_2, hfz28_0, hfz28_1, hfz28_2⟩ := c3_ BK487
    go_wp2_with (first | ((with_reducible refine gate_callee (f := 18) rfl ?_); refine gl_ (some 10) Tryz.func18 #[.agg #[.bool a0_0, .int .u64 a0_1, .int .u64 a0_2]] ?_; (with_reducible refine (addr_Right.calls a0_0 a0_1 a0_2 true _ A6.out).mono ?_); rintro e w29 ⟨rfl, hb⟩; refine ⟨_, rfl, ?_⟩; replace BK487 := bb_ BK487 hb; replace BK488 := bb_ BK488 hb; replace HB := bs_ HB hb; (try clear hb); (try clear hb2); (try clear hk); (try clear hi); obtain ⟨hcz30_0, hcz30_1, hcz30_2, hfz30_0, hfz30_1, hfz30_2⟩ := c3_ BK488) | (go_at_call 18; (with_reducible refine (addr_Right.calls a1_0 a1_1 a1_2 false _ A8.out).mono ?_); rintro e w31 ⟨rfl, hb⟩; replace BK487 := bb_ BK487 hb; replace BK488 := bb_ BK488 hb; replace HB := bs_ HB hb; (try clear hb); (try clear hb2); (try clear hk); (try clear hi)))
    go_meet
    case rel => exact ⟨_, (true), (by first | rfl | (simp; done) | (simp [*]; done)), H', ⟨by first | omega | exact Nat.le_refl _⟩, ⟨by refine pw_ ?_; exact BK487.out⟩, ⟨by refine pw_ ?_; exact BK488.out⟩, ⟨pb_ HB⟩⟩
  ·
   replace c7 := Bool.eq_false_iff.mpr c7
   subst c7
   have H1 : (carve_Spread.j0 k true a0_0 a0_1 a0_2 a1_0 a1_1 a1_2) = some (r1, r2) := by rw [if_neg (show ¬ (false = true) by decide)] at H; exact H
   clear H
   have H := H1
   clear H1
   have H' := Aside0.mk H
   clear H
   have hnb32 := NB487_488.out
   have hnc32 := NB488_487.out
   obtain ⟨hcz33_0, hcz33_1, hcz33_2, hfz33_0, hfz33_1, hfz33_2⟩ := c3_ BK487
   go_wp2_with (first | ((with_reducible refine gate_callee (f := 18) rfl ?_); refine gl_ (some 10) Tryz.func18 #[.agg #[.bool a0_0, .int .u64 a0_1, .int .u64 a0_2]] ?_; (with_reducible refine (addr_Right.calls a0_0 a0_1 a0_2 false _ A6.out).mono ?_); rintro e w34 ⟨rfl, hb⟩; refine ⟨_, rfl, ?_⟩; replace BK487 := bb_ BK487 hb; replace BK488 := bb_ BK488 hb; replace HB := bs_ HB hb; (try clear hb); (try clear hb2); (try clear hk); (try clear hi)))
   go_meet
   case rel => exact ⟨_, (true), (by first | rfl | (simp; done) | (simp [*]; done)), H', ⟨by first | omega | exact Nat.le_refl _⟩, ⟨by refine pw_ ?_; exact BK487.out⟩, ⟨by refine pw_ ?_; exact BK488.out⟩, ⟨pb_ HB⟩⟩
 case rest =>
  clear HC3
  try clear c1
  try clear c2
  try clear p2
  try clear c3
  try clear c5
  try clear c7
  try clear c9
  try clear c10
  try clear c10b0
  try clear c10b1
  try clear c10b2
  try clear c11
  try clear c18
  try clear c19
  try clear c27
  try clear c32
  try clear hcz12_0
  try clear hcz12_1
  try clear hcz12_2
  try clear hcz14_0
  try clear hcz14_1
  try clear hcz14_2
  try clear hcz16_0
  try clear hcz16_1
  try clear hcz16_2
  try clear hcz17_0
  try clear hcz17_1
  try clear hcz17_2
  try clear hcz20_0
  try clear hcz20_1
  try clear hcz20_2
  try clear hcz22_0
  try clear hcz22_1
  try clear hcz22_2
  try clear hcz24_0
  try clear hcz24_1
  try clear hcz24_2
  try clear hcz25_0
  try clear hcz25_1
  try clear hcz25_2
  try clear hcz28_0
  try clear hcz28_1
  try clear hcz28_2
  try clear hcz30_0
  try clear hcz30_1
  try clear hcz30_2
  try clear hcz33_0
  try clear hcz33_1
  try clear hcz33_2
  try clear hfz12_0
  try clear hfz12_1
  try clear hfz12_2
  try clear hfz14_0
  try clear hfz14_1
  try clear hfz14_2
  try clear hfz16_0
  try clear hfz16_1
  try clear hfz16_2
  try clear hfz17_0
  try clear hfz17_1
  try clear hfz17_2
  try clear hfz20_0
  try clear hfz20_1
  try clear hfz20_2
  try clear hfz22_0
  try clear hfz22_1
  try clear hfz22_2
  try clear hfz24_0
  try clear hfz24_1
  try clear hfz24_2
  try clear hfz25_0
  try clear hfz25_1
  try clear hfz25_2
  try clear hfz28_0
  try clear hfz28_1
  try clear hfz28_2
  try clear hfz30_0
  try clear hfz30_1
  try clear hfz30_2
  try clear hfz33_0
  try clear hfz33_1
  try clear hfz33_2
  obtain ⟨kq, x29_2, rfl, HA, HJ2, BK487, BK488, HB⟩ := hcut
  cases kq with
  | zero => exact absurd HA.out (by simp [carve_Spread.j0])
  | succ kj2 =>
   have H := HA.out
   clear HA
   simp only [carve_Spread.j0] at H
   by_cases c35 : x29_2 = true
   ·
    subst c35
    rw [if_pos rfl] at H
    simp only [Option.some.injEq, Prod.mk.injEq] at H
    obtain ⟨rfl, rfl⟩ := H
    go_wp2
    go_ret2
    exact ⟨_, by first | rfl | (simp [errW_none, errW_some] <;> rfl) | (simp [*, errW_none, errW_some] <;> rfl), by first | exact Kd.R_nil _ _ _ _ _ | exact Kd.N_nil _ _ _ _ _ | exact Kd.V_nil _ _ _ _ _ | exact Kd.Q_nil _ _ _ _ _ | exact Kd.S_nil _ _ _ _ _, pb_ HB⟩
   ·
    replace c35 := Bool.eq_false_iff.mpr c35
    subst c35
    have H1 : (carve_Spread.l0 kj2 ([] : List (S38)) a0_0 a0_1 a0_2 a1_0 a1_1 a1_2) = some (r1, r2) := by rw [if_neg (show ¬ (false = true) by decide)] at H; exact H
    clear H
    have H := H1
    clear H1
    have H' := Aside0.mk H
    clear H
    go_wp2
    go_loopg [6] kj2 (fun kq v6 w' => ∃ (x6_2 : List (S38)) (x488000_2 : Bool) (x488001_2 : Int) (x488002_2 : Int), Aside0 (carve_Spread.l0 kq x6_2 x488000_2 x488001_2 x488002_2 a1_0 a1_1 a1_2 = some (r1, r2)) ∧ Aside0 (kq ≤ kj2) ∧ Aside0 (Kd.R k38 38 w' w.heap.size (fun _ => True) v6 x6_2) ∧ Aside0 (w'.heap[gb487]? = some (.cells #[.bool x488000_2, .int .u64 x488001_2, .int .u64 x488002_2] 26 (0, 0))) ∧ Aside0 (w'.heap[gb488]? = some (.cells #[.bool a1_0, .int .u64 a1_1, .int .u64 a1_2] 26 (0, 0))) ∧ Aside0 (Below w.heap.size w w'))
    case atStart => exact ⟨(([] : List (S38))), (a0_0), (a0_1), (a0_2), H', ⟨Nat.le_refl _⟩, ⟨by first | exact Kd.R_nil _ _ _ _ _ | exact Kd.N_nil _ _ _ _ _ | exact Kd.V_nil _ _ _ _ _ | exact Kd.Q_nil _ _ _ _ _ | exact Kd.S_nil _ _ _ _ _⟩, ⟨by refine pw_ ?_; exact BK487.out⟩, ⟨by refine pw_ ?_; exact BK488.out⟩, ⟨pb_ HB⟩⟩
    case round =>
     clear H'
     try clear c1
     try clear c2
     try clear p2
     try clear c3
     try clear c5
     try clear c7
     try clear c9
     try clear c10
     try clear c10b0
     try clear c10b1
     try clear c10b2
     try clear c11
     try clear c18
     try clear c19
     try clear c27
     try clear c32
     try clear c35
     try clear hcz12_0
     try clear hcz12_1
     try clear hcz12_2
     try clear hcz14_0
     try clear hcz14_1
     try clear hcz14_2
     try clear hcz16_0
     try clear hcz16_1
     try clear hcz16_2
     try clear hcz17_0
     try clear hcz17_1
     try clear hcz17_2
     try clear hcz20_0
     try clear hcz20_1
     try clear hcz20_2
     try clear hcz22_0
     try clear hcz22_1
     try clear hcz22_2
     try clear hcz24_0
     try clear hcz24_1
     try clear hcz24_2
     try clear hcz25_0
     try clear hcz25_1
     try clear hcz25_2
     try clear hcz28_0
     try clear hcz28_1
     try clear hcz28_2
     try clear hcz30_0
     try clear hcz30_1
     try clear hcz30_2
     try clear hcz33_0
     try clear hcz33_1
     try clear hcz33_2
     try clear hfz12_0
     try clear hfz12_1
     try clear hfz12_2
     try clear hfz14_0
     try clear hfz14_1
     try clear hfz14_2
     try clear hfz16_0
     try clear hfz16_1
     try clear hfz16_2
     try clear hfz17_0
     try clear hfz17_1
     try clear hfz17_2
     try clear hfz20_0
     try clear hfz20_1
     try clear hfz20_2
     try clear hfz22_0
     try clear hfz22_1
     try clear hfz22_2
     try clear hfz24_0
     try clear hfz24_1
     try clear hfz24_2
     try clear hfz25_0
     try clear hfz25_1
     try clear hfz25_2
     try clear hfz28_0
     try clear hfz28_1
     try clear hfz28_2
     try clear hfz30_0
     try clear hfz30_1
     try clear hfz30_2
     try clear hfz33_0
     try clear hfz33_1
     try clear hfz33_2
     try clear p2
     obtain ⟨x6_2, x488000_2, x488001_2, x488002_2, HA, HK2, HO_6, BK487, BK488, HB⟩ := hrel
     cases gk with
     | zero => exact absurd HA.out (by simp [carve_Spread.l0])
     | succ k2 =>
      have H := HA.out
      clear HA
      simp only [carve_Spread.l0] at H
      replace H := Option.bind_eq_some_iff.mp H
      obtain ⟨⟨t492, t493, t494, t495⟩, A360, H⟩ := H
      replace H : (if x6_2.length < 4398046511104 then ((some (x6_2 ++ [(⟨(⟨t492, (⟨t493, t494⟩ : S24)⟩ : S26), t495⟩ : S38)] : List (S38))).bind fun y497 => ((prefix_Last.f t492 t493 t494 t495).bind fun bt500 => (if (bt500.1 == a1_0 && ((bt500.2.1 == a1_1 && (bt500.2.2 == a1_2)))) = true then (some (y497, 0)) else ((num_Of.f 1).bind fun bt504 => ((addr_Plus.f bt500.1 bt500.2.1 bt500.2.2 bt504.1 bt504.2).bind fun bt506 => (carve_Spread.l0 k2 y497 bt506.1 bt506.2.1 bt506.2.2.1 a1_0 a1_1 a1_2)))))) else (none)) = some (r1, r2) := H
      have A36 := Aside0.mk A360
      clear A360
      by_cases c37 : x6_2.length < 4398046511104
      ·
       rw [if_pos c37] at H
       have LMc37 := Aside0.mk c37
       clear c37
       obtain ⟨y497, hy497⟩ : ∃ y_ : List (S38), y_ = (x6_2 ++ [(⟨(⟨t492, (⟨t493, t494⟩ : S24)⟩ : S26), t495⟩ : S38)]) := ⟨_, rfl⟩
       replace H : ((prefix_Last.f t492 t493 t494 t495).bind fun bt500 => (if (bt500.1 == a1_0 && ((bt500.2.1 == a1_1 && (bt500.2.2 == a1_2)))) = true then (some (y497, 0)) else ((num_Of.f 1).bind fun bt504 => ((addr_Plus.f bt500.1 bt500.2.1 bt500.2.2 bt504.1 bt504.2).bind fun bt506 => (carve_Spread.l0 k2 y497 bt506.1 bt506.2.1 bt506.2.2.1 a1_0 a1_1 a1_2))))) = some (r1, r2) := by first | (rw [hy497]; with_reducible exact H) | (have H2_ := (Option.bind_some _ _).symm.trans H; rw [hy497]; with_reducible exact H2_) | (have H2_ := (Option.bind_some _ _).symm.trans H; with_reducible exact H2_) | with_reducible exact H | (rw [hy497]; exact H) | exact H
       have Ny497 := Aside0.mk hy497
       clear hy497
       replace H := Option.bind_eq_some_iff.mp H
       obtain ⟨⟨t500, t501, t502⟩, A380, H⟩ := H
       replace H : (if (t500 == a1_0 && ((t501 == a1_1 && (t502 == a1_2)))) = true then (some (y497, 0)) else ((num_Of.f 1).bind fun bt504 => ((addr_Plus.f t500 t501 t502 bt504.1 bt504.2).bind fun bt506 => (carve_Spread.l0 k2 y497 bt506.1 bt506.2.1 bt506.2.2.1 a1_0 a1_1 a1_2)))) = some (r1, r2) := H
       have A38 := Aside0.mk A380
       clear A380
       by_cases c39 : (t500 == a1_0 && ((t501 == a1_1 && (t502 == a1_2)))) = true
       ·
        rw [if_pos c39] at H
        have c39b0 : (t500 == a1_0 && ((t501 == a1_1 && (t502 == a1_2)))) = true := c39
        (try (have c39b1 : decide (t500 = a1_0 && ((t501 == a1_1 && (t502 == a1_2)))) = true := by simpa using c39))
        (try (have c39b2 : (t500 == a1_0 && ((t501 == a1_1 && (t502 == a1_2)))) = true := by simpa using c39))
        clear c39
        simp only [Option.some.injEq, Prod.mk.injEq] at H
        obtain ⟨rfl, rfl⟩ := H
        have hnb40 := NB487_488.out
        have hnc40 := NB488_487.out
        obtain ⟨hcz41_0, hcz41_1, hcz41_2, hfz41_0, hfz41_1, hfz41_2⟩ := c3_ BK487
        obtain ⟨hcz42_0, hcz42_1, hcz42_2, hfz42_0, hfz42_1, hfz42_2⟩ := c3_ BK488
        go_wp2_with (first | ((with_reducible refine gate_callee (f := 96) rfl ?_); refine gl_ (some 32) Tryz.func96 #[.agg #[.bool x488000_2, .int .u64 x488001_2, .int .u64 x488002_2], .agg #[.bool a1_0, .int .u64 a1_1, .int .u64 a1_2]] ?_; (with_reducible refine (carve_widest.calls k2 x488000_2 x488001_2 x488002_2 a1_0 a1_1 a1_2 t492 t493 t494 t495 _ A36.out).mono ?_); rintro e w43 ⟨rfl, hb⟩; refine ⟨_, rfl, ?_⟩; replace HO_6 := Aside0.mk (Kd.R_below (by (with_reducible repeat (first | apply Kd.R_alloc | apply Kd.R_drewN | apply Kd.R_drew)); exact HO_6.out) hb); replace BK487 := bb_ BK487 hb; replace BK488 := bb_ BK488 hb; replace HB := bs_ HB hb; (try clear hb); (try clear hb2); (try clear hk); (try clear hi)) | ((with_reducible refine gate_dst (N := 7) rfl ?_); refine bx_ 7 #[.bool false, .int .u64 0, .int .u64 0, .int .i64 0] 38 ?_; intro gb496 hg w44 hbox hb; have BK496 := Aside0.mk (hbox); have GW496 := gw_ HB hg; have GE496 := gw_ HB hg; have NB487_496 := nl_ BK487 hg; have NB496_487 := ng_ BK487 hg; have NB488_496 := nl_ BK488 hg; have NB496_488 := ng_ BK488 hg; replace HO_6 := Aside0.mk (Kd.R_below (Kd.R_elderB (by (with_reducible repeat (first | apply Kd.R_alloc | apply Kd.R_drewN | apply Kd.R_drew)); exact HO_6.out) gb496 (Nat.le_of_eq hg.symm)) hb); replace BK487 := bb_ BK487 hb; replace BK488 := bb_ BK488 hb; replace HB := bs_ HB hb; clear hb hbox hg; have hnb45 := NB496_487.out; have hnc45 := NB487_496.out; have hnb46 := NB496_488.out; have hnc46 := NB488_496.out; obtain ⟨hcz47_0, hcz47_1, hcz47_2, hcz47_3, hfz47_0, hfz47_1, hfz47_2, hfz47_3⟩ := c4_ BK496) | ((with_reducible refine gate_builtin (b := .append) (xs := #[.tmp 33, .tmp 35]) rfl ?_); at_builtin; refine Kd.R_append k38 (w0 := w) w.heap.size rfl (.tmp 33) (.tmp 35) 67 38 (.agg #[(.bool false), (.int .u64 0), (.int .u64 0), (.int .i64 0)]) 32 rfl Tryz.underlying67 info38 rfl (by decide) (by omega) u6 x6_2 (⟨(⟨t492, (⟨t493, t494⟩ : S24)⟩ : S26), t495⟩ : S38) [.bool t492, .int .u64 t493, .int .u64 t494, .int .i64 t495] (fun k_ => k_ ≠ gb496) (fun _ => False) rfl (by first | (go_simp; done) | (go_simp; rfl)) ?aP (fun _ hk => hk.elim) ?aF ?aO ?aB ?aS ?aL ?_; (case aP => exact k38_mkM _ _ _ (⟨(⟨t492, (⟨t493, t494⟩ : S24)⟩ : S26), t495⟩ : S38)); (case aB => exact (pb_ HB)); (case aF => exact (fun k_ hk => Kd.freshB (g := gb496) (o := .cells #[.bool t492, .int .u64 t493, .int .u64 t494, .int .i64 t495] 38 (0, 0)) (by refine pw_ ?_; refine blk_put (cs := #[.bool t492, .int .u64 t493, .int .u64 t494, .int .i64 0]) ?_ 3 _ rfl; refine pw_ ?_; refine blk_put (cs := #[.bool t492, .int .u64 t493, .int .u64 0, .int .i64 0]) ?_ 2 _ rfl; refine pw_ ?_; refine blk_put (cs := #[.bool t492, .int .u64 0, .int .u64 0, .int .i64 0]) ?_ 1 _ rfl; refine pw_ ?_; refine blk_put (cs := #[.bool false, .int .u64 0, .int .u64 0, .int .i64 0]) ?_ 0 _ rfl; refine pw_ ?_; exact BK496.out) k_ hk)); (case aO => exact (by (with_reducible repeat (first | apply Kd.R_alloc | apply Kd.R_drewN | apply Kd.R_drew)); exact Kd.R_mono (Kd.R_far (p := ⟨gb496, 3, none⟩) (Kd.R_far (p := ⟨gb496, 2, none⟩) (Kd.R_far (p := ⟨gb496, 1, none⟩) (Kd.R_far (p := ⟨gb496, 0, none⟩) (Kd.R_mono HO_6.out (fun k_ hk => (⟨hk, hk.2⟩ : _ ∧ k_ ≠ gb496))) (fun _ hk => hk.2) (.bool t492)) (fun _ hk => hk.2) (.int .u64 t493)) (fun _ hk => hk.2) (.int .u64 t494)) (fun _ hk => hk.2) (.int .i64 t495)) (fun _ hk => hk.1.2))); (case aS => exact (below_size (pb_ HB))); (case aL => have := LMc37.out; omega); intro v498 w48 ho hb hg hat; rw [← Ny497.out] at ho; have HO499 := Aside0.mk (ho); replace BK487 := Aside0.mk (blk_grown (g := gb487) (o := .cells #[.bool x488000_2, .int .u64 x488001_2, .int .u64 x488002_2] 26 (0, 0)) (by refine pw_ ?_; refine blk_far ?_ NB487_496.out _; refine pw_ ?_; refine blk_far ?_ NB487_496.out _; refine pw_ ?_; refine blk_far ?_ NB487_496.out _; refine pw_ ?_; refine blk_far ?_ NB487_496.out _; refine pw_ ?_; exact BK487.out) hg (Kd.R_ne HO_6.out BK487.out (by decide))); replace BK488 := Aside0.mk (blk_grown (g := gb488) (o := .cells #[.bool a1_0, .int .u64 a1_1, .int .u64 a1_2] 26 (0, 0)) (by refine pw_ ?_; refine blk_far ?_ NB488_496.out _; refine pw_ ?_; refine blk_far ?_ NB488_496.out _; refine pw_ ?_; refine blk_far ?_ NB488_496.out _; refine pw_ ?_; refine blk_far ?_ NB488_496.out _; refine pw_ ?_; exact BK488.out) hg (Kd.R_ne HO_6.out BK488.out (by decide))); replace BK496 := Aside0.mk (blk_grown (g := gb496) (o := .cells #[.bool t492, .int .u64 t493, .int .u64 t494, .int .i64 t495] 38 (0, 0)) (by refine pw_ ?_; refine blk_put (cs := #[.bool t492, .int .u64 t493, .int .u64 t494, .int .i64 0]) ?_ 3 _ rfl; refine pw_ ?_; refine blk_put (cs := #[.bool t492, .int .u64 t493, .int .u64 0, .int .i64 0]) ?_ 2 _ rfl; refine pw_ ?_; refine blk_put (cs := #[.bool t492, .int .u64 0, .int .u64 0, .int .i64 0]) ?_ 1 _ rfl; refine pw_ ?_; refine blk_put (cs := #[.bool false, .int .u64 0, .int .u64 0, .int .i64 0]) ?_ 0 _ rfl; refine pw_ ?_; exact BK496.out) hg (Kd.R_away HO_6.out (fun _ hk => hk.2))); replace HB := Aside0.mk (hb); clear HO_6; clear ho hb hg hat; obtain ⟨hcz49_0, hcz49_1, hcz49_2, hcz49_3, hfz49_0, hfz49_1, hfz49_2, hfz49_3⟩ := c4_ BK496) | ((with_reducible refine gate_callee (f := 38) rfl ?_); refine gl_ (some 38) Tryz.func38 #[.agg #[.bool t492, .int .u64 t493, .int .u64 t494, .int .i64 t495]] ?_; (with_reducible refine (prefix_Last.calls t492 t493 t494 t495 t500 t501 t502 _ A38.out).mono ?_); rintro e w50 ⟨rfl, hb⟩; refine ⟨_, rfl, ?_⟩; replace HO499 := Aside0.mk (Kd.R_below (by (with_reducible repeat (first | apply Kd.R_alloc | apply Kd.R_drewN | apply Kd.R_drew)); exact HO499.out) hb); replace BK487 := bb_ BK487 hb; replace BK488 := bb_ BK488 hb; replace BK496 := bb_ BK496 hb; replace HB := bs_ HB hb; (try clear hb); (try clear hb2); (try clear hk); (try clear hi)) | ((with_reducible refine gate_dst (N := 8) rfl ?_); refine bx_ 8 #[.bool false, .int .u64 0, .int .u64 0] 26 ?_; intro gb503 hg w51 hbox hb; have BK503 := Aside0.mk (hbox); have GW503 := gw_ HB hg; have GE503 := gw_ HB hg; have NB487_503 := nl_ BK487 hg; have NB503_487 := ng_ BK487 hg; have NB488_503 := nl_ BK488 hg; have NB503_488 := ng_ BK488 hg; have NB496_503 := nl_ BK496 hg; have NB503_496 := ng_ BK496 hg; replace HO499 := Aside0.mk (Kd.R_below (by (with_reducible repeat (first | apply Kd.R_alloc | apply Kd.R_drewN | apply Kd.R_drew)); exact HO499.out) hb); replace BK487 := bb_ BK487 hb; replace BK488 := bb_ BK488 hb; replace BK496 := bb_ BK496 hb; replace HB := bs_ HB hb; clear hb hbox hg; have hnb52 := NB503_487.out; have hnc52 := NB487_503.out; have hnb53 := NB503_488.out; have hnc53 := NB488_503.out; have hnb54 := NB503_496.out; have hnc54 := NB496_503.out; obtain ⟨hcz55_0, hcz55_1, hcz55_2, hfz55_0, hfz55_1, hfz55_2⟩ := c3_ BK503; obtain ⟨hcz56_0, hcz56_1, hcz56_2, hfz56_0, hfz56_1, hfz56_2⟩ := c3_ BK488))
        go_ret2
        exact ⟨_, by first | rfl | (simp [errW_none, errW_some] <;> rfl) | (simp [*, errW_none, errW_some] <;> rfl), by (with_reducible repeat (first | apply Kd.R_alloc | apply Kd.R_drewN | apply Kd.R_drew)); exact Kd.R_mono (Kd.R_far (p := ⟨gb503, 2, none⟩) (Kd.R_far (p := ⟨gb503, 1, none⟩) (Kd.R_far (p := ⟨gb503, 0, none⟩) (Kd.R_types HO499.out BK503.out (by decide)) (fun _ hk => hk.2) (.bool t500)) (fun _ hk => hk.2) (.int .u64 t501)) (fun _ hk => hk.2) (.int .u64 t502)) (fun _ hk => trivial), pb_ HB⟩
       ·
        rw [if_neg c39] at H
        have c39b0 : (t500 == a1_0 && ((t501 == a1_1 && (t502 == a1_2)))) = false := by simpa using c39
        (try (have c39b1 : decide (t500 = a1_0 && ((t501 == a1_1 && (t502 == a1_2)))) = false := by simpa using c39))
        (try (have c39b2 : (t500 == a1_0 && ((t501 == a1_1 && (t502 == a1_2)))) = false := by simpa using c39))
        (try (have c39b3 : ¬ (t500 = a1_0 && ((t501 == a1_1 && (t502 == a1_2)))) := by simpa using c39))
        clear c39
        replace H := Option.bind_eq_some_iff.mp H
        obtain ⟨⟨t504, t505⟩, A570, H⟩ := H
        replace H : ((addr_Plus.f t500 t501 t502 t504 t505).bind fun bt506 => (carve_Spread.l0 k2 y497 bt506.1 bt506.2.1 bt506.2.2.1 a1_0 a1_1 a1_2)) = some (r1, r2) := H
        have A57 := Aside0.mk A570
        clear A570
        replace H := Option.bind_eq_some_iff.mp H
        obtain ⟨⟨t506, t507, t508, t509⟩, A580, H⟩ := H
        replace H : (carve_Spread.l0 k2 y497 t506 t507 t508 a1_0 a1_1 a1_2) = some (r1, r2) := H
        have A58 := Aside0.mk A580
        clear A580
        have H' := Aside0.mk H
        clear H
        have hnb59 := NB487_488.out
        have hnc59 := NB488_487.out
        obtain ⟨hcz60_0, hcz60_1, hcz60_2, hfz60_0, hfz60_1, hfz60_2⟩ := c3_ BK487
        obtain ⟨hcz61_0, hcz61_1, hcz61_2, hfz61_0, hfz61_1, hfz61_2⟩ := c3_ BK488
        try go_wp2_with (first | ((with_reducible refine gate_callee (f := 96) rfl ?_); refine gl_ (some 32) Tryz.func96 #[.agg #[.bool x488000_2, .int .u64 x488001_2, .int .u64 x488002_2], .agg #[.bool a1_0, .int .u64 a1_1, .int .u64 a1_2]] ?_; (with_reducible refine (carve_widest.calls k2 x488000_2 x488001_2 x488002_2 a1_0 a1_1 a1_2 t492 t493 t494 t495 _ A36.out).mono ?_); rintro e w62 ⟨rfl, hb⟩; refine ⟨_, rfl, ?_⟩; replace HO_6 := Aside0.mk (Kd.R_below (by (with_reducible repeat (first | apply Kd.R_alloc | apply Kd.R_drewN | apply Kd.R_drew)); exact HO_6.out) hb); replace BK487 := bb_ BK487 hb; replace BK488 := bb_ BK488 hb; replace HB := bs_ HB hb; (try clear hb); (try clear hb2); (try clear hk); (try clear hi)) | ((with_reducible refine gate_dst (N := 7) rfl ?_); refine bx_ 7 #[.bool false, .int .u64 0, .int .u64 0, .int .i64 0] 38 ?_; intro gb496 hg w63 hbox hb; have BK496 := Aside0.mk (hbox); have GW496 := gw_ HB hg; have GE496 := gw_ HB hg; have NB487_496 := nl_ BK487 hg; have NB496_487 := ng_ BK487 hg; have NB488_496 := nl_ BK488 hg; have NB496_488 := ng_ BK488 hg; replace HO_6 := Aside0.mk (Kd.R_below (Kd.R_elderB (by (with_reducible repeat (first | apply Kd.R_alloc | apply Kd.R_drewN | apply Kd.R_drew)); exact HO_6.out) gb496 (Nat.le_of_eq hg.symm)) hb); replace BK487 := bb_ BK487 hb; replace BK488 := bb_ BK488 hb; replace HB := bs_ HB hb; clear hb hbox hg; have hnb64 := NB496_487.out; have hnc64 := NB487_496.out; have hnb65 := NB496_488.out; have hnc65 := NB488_496.out; obtain ⟨hcz66_0, hcz66_1, hcz66_2, hcz66_3, hfz66_0, hfz66_1, hfz66_2, hfz66_3⟩ := c4_ BK496) | ((with_reducible refine gate_builtin (b := .append) (xs := #[.tmp 33, .tmp 35]) rfl ?_); at_builtin; refine Kd.R_append k38 (w0 := w) w.heap.size rfl (.tmp 33) (.tmp 35) 67 38 (.agg #[(.bool false), (.int .u64 0), (.int .u64 0), (.int .i64 0)]) 32 rfl Tryz.underlying67 info38 rfl (by decide) (by omega) u6 x6_2 (⟨(⟨t492, (⟨t493, t494⟩ : S24)⟩ : S26), t495⟩ : S38) [.bool t492, .int .u64 t493, .int .u64 t494, .int .i64 t495] (fun k_ => k_ ≠ gb496) (fun _ => False) rfl (by first | (go_simp; done) | (go_simp; rfl)) ?aP (fun _ hk => hk.elim) ?aF ?aO ?aB ?aS ?aL ?_; (case aP => exact k38_mkM _ _ _ (⟨(⟨t492, (⟨t493, t494⟩ : S24)⟩ : S26), t495⟩ : S38)); (case aB => exact (pb_ HB)); (case aF => exact (fun k_ hk => Kd.freshB (g := gb496) (o := .cells #[.bool t492, .int .u64 t493, .int .u64 t494, .int .i64 t495] 38 (0, 0)) (by refine pw_ ?_; refine blk_put (cs := #[.bool t492, .int .u64 t493, .int .u64 t494, .int .i64 0]) ?_ 3 _ rfl; refine pw_ ?_; refine blk_put (cs := #[.bool t492, .int .u64 t493, .int .u64 0, .int .i64 0]) ?_ 2 _ rfl; refine pw_ ?_; refine blk_put (cs := #[.bool t492, .int .u64 0, .int .u64 0, .int .i64 0]) ?_ 1 _ rfl; refine pw_ ?_; refine blk_put (cs := #[.bool false, .int .u64 0, .int .u64 0, .int .i64 0]) ?_ 0 _ rfl; refine pw_ ?_; exact BK496.out) k_ hk)); (case aO => exact (by (with_reducible repeat (first | apply Kd.R_alloc | apply Kd.R_drewN | apply Kd.R_drew)); exact Kd.R_mono (Kd.R_far (p := ⟨gb496, 3, none⟩) (Kd.R_far (p := ⟨gb496, 2, none⟩) (Kd.R_far (p := ⟨gb496, 1, none⟩) (Kd.R_far (p := ⟨gb496, 0, none⟩) (Kd.R_mono HO_6.out (fun k_ hk => (⟨hk, hk.2⟩ : _ ∧ k_ ≠ gb496))) (fun _ hk => hk.2) (.bool t492)) (fun _ hk => hk.2) (.int .u64 t493)) (fun _ hk => hk.2) (.int .u64 t494)) (fun _ hk => hk.2) (.int .i64 t495)) (fun _ hk => hk.1.2))); (case aS => exact (below_size (pb_ HB))); (case aL => have := LMc37.out; omega); intro v498 w67 ho hb hg hat; rw [← Ny497.out] at ho; have HO499 := Aside0.mk (ho); replace BK487 := Aside0.mk (blk_grown (g := gb487) (o := .cells #[.bool x488000_2, .int .u64 x488001_2, .int .u64 x488002_2] 26 (0, 0)) (by refine pw_ ?_; refine blk_far ?_ NB487_496.out _; refine pw_ ?_; refine blk_far ?_ NB487_496.out _; refine pw_ ?_; refine blk_far ?_ NB487_496.out _; refine pw_ ?_; refine blk_far ?_ NB487_496.out _; refine pw_ ?_; exact BK487.out) hg (Kd.R_ne HO_6.out BK487.out (by decide))); replace BK488 := Aside0.mk (blk_grown (g := gb488) (o := .cells #[.bool a1_0, .int .u64 a1_1, .int .u64 a1_2] 26 (0, 0)) (by refine pw_ ?_; refine blk_far ?_ NB488_496.out _; refine pw_ ?_; refine blk_far ?_ NB488_496.out _; refine pw_ ?_; refine blk_far ?_ NB488_496.out _; refine pw_ ?_; refine blk_far ?_ NB488_496.out _; refine pw_ ?_; exact BK488.out) hg (Kd.R_ne HO_6.out BK488.out (by decide))); replace BK496 := Aside0.mk (blk_grown (g := gb496) (o := .cells #[.bool t492, .int .u64 t493, .int .u64 t494, .int .i64 t495] 38 (0, 0)) (by refine pw_ ?_; refine blk_put (cs := #[.bool t492, .int .u64 t493, .int .u64 t494, .int .i64 0]) ?_ 3 _ rfl; refine pw_ ?_; refine blk_put (cs := #[.bool t492, .int .u64 t493, .int .u64 0, .int .i64 0]) ?_ 2 _ rfl; refine pw_ ?_; refine blk_put (cs := #[.bool t492, .int .u64 0, .int .u64 0, .int .i64 0]) ?_ 1 _ rfl; refine pw_ ?_; refine blk_put (cs := #[.bool false, .int .u64 0, .int .u64 0, .int .i64 0]) ?_ 0 _ rfl; refine pw_ ?_; exact BK496.out) hg (Kd.R_away HO_6.out (fun _ hk => hk.2))); replace HB := Aside0.mk (hb); clear HO_6; clear ho hb hg hat; obtain ⟨hcz68_0, hcz68_1, hcz68_2, hcz68_3, hfz68_0, hfz68_1, hfz68_2, hfz68_3⟩ := c4_ BK496) | ((with_reducible refine gate_callee (f := 38) rfl ?_); refine gl_ (some 38) Tryz.func38 #[.agg #[.bool t492, .int .u64 t493, .int .u64 t494, .int .i64 t495]] ?_; (with_reducible refine (prefix_Last.calls t492 t493 t494 t495 t500 t501 t502 _ A38.out).mono ?_); rintro e w69 ⟨rfl, hb⟩; refine ⟨_, rfl, ?_⟩; replace HO499 := Aside0.mk (Kd.R_below (by (with_reducible repeat (first | apply Kd.R_alloc | apply Kd.R_drewN | apply Kd.R_drew)); exact HO499.out) hb); replace BK487 := bb_ BK487 hb; replace BK488 := bb_ BK488 hb; replace BK496 := bb_ BK496 hb; replace HB := bs_ HB hb; (try clear hb); (try clear hb2); (try clear hk); (try clear hi)) | ((with_reducible refine gate_dst (N := 8) rfl ?_); refine bx_ 8 #[.bool false, .int .u64 0, .int .u64 0] 26 ?_; intro gb503 hg w70 hbox hb; have BK503 := Aside0.mk (hbox); have GW503 := gw_ HB hg; have GE503 := gw_ HB hg; have NB487_503 := nl_ BK487 hg; have NB503_487 := ng_ BK487 hg; have NB488_503 := nl_ BK488 hg; have NB503_488 := ng_ BK488 hg; have NB496_503 := nl_ BK496 hg; have NB503_496 := ng_ BK496 hg; replace HO499 := Aside0.mk (Kd.R_below (by (with_reducible repeat (first | apply Kd.R_alloc | apply Kd.R_drewN | apply Kd.R_drew)); exact HO499.out) hb); replace BK487 := bb_ BK487 hb; replace BK488 := bb_ BK488 hb; replace BK496 := bb_ BK496 hb; replace HB := bs_ HB hb; clear hb hbox hg; have hnb71 := NB503_487.out; have hnc71 := NB487_503.out; have hnb72 := NB503_488.out; have hnc72 := NB488_503.out; have hnb73 := NB503_496.out; have hnc73 := NB496_503.out; obtain ⟨hcz74_0, hcz74_1, hcz74_2, hfz74_0, hfz74_1, hfz74_2⟩ := c3_ BK503; obtain ⟨hcz75_0, hcz75_1, hcz75_2, hfz75_0, hfz75_1, hfz75_2⟩ := c3_ BK488))
        have n0_ : Aside0 (Kd.R k38 38 (((w70.setCell ⟨gb503, 0, none⟩ (.bool t500)).setCell ⟨gb503, 1, none⟩ (.int .u64 t501)).setCell ⟨gb503, 2, none⟩ (.int .u64 t502)) w.heap.size (fun k_ => k_ ≠ gb496) v498 y497) := ⟨by (with_reducible repeat (first | apply Kd.R_alloc | apply Kd.R_drewN | apply Kd.R_drew)); exact Kd.R_mono (Kd.R_far (p := ⟨gb503, 2, none⟩) (Kd.R_far (p := ⟨gb503, 1, none⟩) (Kd.R_far (p := ⟨gb503, 0, none⟩) (Kd.R_types HO499.out BK503.out (by decide)) (fun _ hk => hk.2) (.bool t500)) (fun _ hk => hk.2) (.int .u64 t501)) (fun _ hk => hk.2) (.int .u64 t502)) (fun _ hk => hk.1)⟩
        have n1_ : Aside0 ((((w70.setCell ⟨gb503, 0, none⟩ (.bool t500)).setCell ⟨gb503, 1, none⟩ (.int .u64 t501)).setCell ⟨gb503, 2, none⟩ (.int .u64 t502)).heap[gb487]? = some (.cells #[.bool x488000_2, .int .u64 x488001_2, .int .u64 x488002_2] 26 (0, 0))) := ⟨by refine pw_ ?_; refine blk_far ?_ NB487_503.out _; refine pw_ ?_; refine blk_far ?_ NB487_503.out _; refine pw_ ?_; refine blk_far ?_ NB487_503.out _; refine pw_ ?_; exact BK487.out⟩
        have n2_ : Aside0 ((((w70.setCell ⟨gb503, 0, none⟩ (.bool t500)).setCell ⟨gb503, 1, none⟩ (.int .u64 t501)).setCell ⟨gb503, 2, none⟩ (.int .u64 t502)).heap[gb488]? = some (.cells #[.bool a1_0, .int .u64 a1_1, .int .u64 a1_2] 26 (0, 0))) := ⟨by refine pw_ ?_; refine blk_far ?_ NB488_503.out _; refine pw_ ?_; refine blk_far ?_ NB488_503.out _; refine pw_ ?_; refine blk_far ?_ NB488_503.out _; refine pw_ ?_; exact BK488.out⟩
        have n3_ : Aside0 ((((w70.setCell ⟨gb503, 0, none⟩ (.bool t500)).setCell ⟨gb503, 1, none⟩ (.int .u64 t501)).setCell ⟨gb503, 2, none⟩ (.int .u64 t502)).heap[gb496]? = some (.cells #[.bool t492, .int .u64 t493, .int .u64 t494, .int .i64 t495] 38 (0, 0))) := ⟨by refine pw_ ?_; refine blk_far ?_ NB496_503.out _; refine pw_ ?_; refine blk_far ?_ NB496_503.out _; refine pw_ ?_; refine blk_far ?_ NB496_503.out _; refine pw_ ?_; exact BK496.out⟩
        have n4_ : Aside0 ((((w70.setCell ⟨gb503, 0, none⟩ (.bool t500)).setCell ⟨gb503, 1, none⟩ (.int .u64 t501)).setCell ⟨gb503, 2, none⟩ (.int .u64 t502)).heap[gb503]? = some (.cells #[.bool t500, .int .u64 t501, .int .u64 t502] 26 (0, 0))) := ⟨by refine pw_ ?_; refine blk_put (cs := #[.bool t500, .int .u64 t501, .int .u64 0]) ?_ 2 _ rfl; refine pw_ ?_; refine blk_put (cs := #[.bool t500, .int .u64 0, .int .u64 0]) ?_ 1 _ rfl; refine pw_ ?_; refine blk_put (cs := #[.bool false, .int .u64 0, .int .u64 0]) ?_ 0 _ rfl; refine pw_ ?_; exact BK503.out⟩
        have n5_ : Aside0 (Below w.heap.size w (((w70.setCell ⟨gb503, 0, none⟩ (.bool t500)).setCell ⟨gb503, 1, none⟩ (.int .u64 t501)).setCell ⟨gb503, 2, none⟩ (.int .u64 t502))) := ⟨pb_ HB⟩
        (try clear HO499)
        (try clear BK487)
        (try clear BK488)
        (try clear BK496)
        (try clear BK503)
        (try clear HB)
        generalize (((w70.setCell ⟨gb503, 0, none⟩ (.bool t500)).setCell ⟨gb503, 1, none⟩ (.int .u64 t501)).setCell ⟨gb503, 2, none⟩ (.int .u64 t502)) = w76 at n0_ n1_ n2_ n3_ n4_ n5_ ⊢
        have HO499 := n0_
        have BK487 := n1_
        have BK488 := n2_
        have BK496 := n3_
        have BK503 := n4_
        have HB := n5_
        clear n0_ n1_ n2_ n3_ n4_ n5_
        replace HO499 := Aside0.mk (Kd.R_drew HO499.out)
        replace BK487 := Aside0.mk (blk_drew BK487.out)
        replace BK488 := Aside0.mk (blk_drew BK488.out)
        replace BK496 := Aside0.mk (blk_drew BK496.out)
        replace BK503 := Aside0.mk (blk_drew BK503.out)
        replace HB := Aside0.mk (below_drew1 HB.out)
        refine start_ (n := 7) (S := fun w' => w'.cell? ⟨gb503, 0, none⟩ = some (.bool t500) ∧ w'.cell? ⟨gb503, 1, none⟩ = some (.int .u64 t501) ∧ w'.cell? ⟨gb503, 2, none⟩ = some (.int .u64 t502)) (ds := []) (bm_ 7 0) (by kernel_rfl) rfl rfl ⟨kc_ BK503 0, kc_ BK503 1, kc_ BK503 2⟩ (fun hHeld => ?_)
        generalize w76.drew = w77 at HO499 BK487 BK488 BK496 BK503 HB HO499 hHeld ⊢
        refine take_ (i := 0) (N := some 44) (v := ?_) (a' := ?_) (bm_ 7 1) rfl rfl (by kernel_rfl) (fun _ _ _ h => h) (Or.inl ⟨by rfl, ?_⟩) hHeld ?_ ?_
        rotate_left
        ·
         rintro w' ⟨s0, s1, s2⟩
         go_simp
         with_reducible rfl
        rotate_left
        ·
         simp only [Act.put, List.setIfInBounds_toArray, List.set_cons_zero, List.set_cons_succ, i64_w, i32_w]
         rfl
        refine one_ (i := 1) (N := some 45) (bm_ 7 3) rfl rfl (by kernel_rfl) (by decide) (fun K hK => ?_)
        refine gr_ Tryz.func59 #[.int .u64 1] ?_
        with_reducible refine (num_Of.calls 1 t504 t505 _ A57.out).mono ?_
        rintro e w78 ⟨rfl, hb⟩
        refine ⟨_, rfl, ?_⟩
        replace HO499 := Aside0.mk (Kd.R_below (by (with_reducible repeat (first | apply Kd.R_alloc | apply Kd.R_drewN | apply Kd.R_drew)); exact HO499.out) hb)
        replace BK487 := bb_ BK487 hb
        replace BK488 := bb_ BK488 hb
        replace BK496 := bb_ BK496 hb
        replace BK503 := bb_ BK503 hb
        replace HB := bs_ HB hb
        (try clear hb)
        (try clear hb2)
        (try clear hk)
        (try clear hi)
        refine hK.out _ _ ⟨kc_ BK503 0, kc_ BK503 1, kc_ BK503 2⟩ (fun hHeld => ?_)
        clear hK K
        refine norm_ (a' := ?_) ?_ ?_
        rotate_left
        ·
         show Act.put _ (some 45) _ = _
         simp only [Act.put, List.setIfInBounds_toArray, List.set_cons_zero, List.set_cons_succ, i64_w, i32_w]
         rfl
        refine one_ (i := 2) (N := some 46) (bm_ 7 7) rfl rfl (by kernel_rfl) (by decide) (fun K hK => ?_)
        refine gr_ Tryz.func14 #[.agg #[.bool t500, .int .u64 t501, .int .u64 t502], .agg #[.int .u64 t504, .int .u64 t505]] ?_
        with_reducible refine (addr_Plus.calls t500 t501 t502 t504 t505 t506 t507 t508 t509 _ A58.out).mono ?_
        rintro e w79 ⟨rfl, hb⟩
        refine ⟨_, rfl, ?_⟩
        replace HO499 := Aside0.mk (Kd.R_below (by (with_reducible repeat (first | apply Kd.R_alloc | apply Kd.R_drewN | apply Kd.R_drew)); exact HO499.out) hb)
        replace BK487 := bb_ BK487 hb
        replace BK488 := bb_ BK488 hb
        replace BK496 := bb_ BK496 hb
        replace BK503 := bb_ BK503 hb
        replace HB := bs_ HB hb
        (try clear hb)
        (try clear hb2)
        (try clear hk)
        (try clear hi)
        refine hK.out _ _ ⟨kc_ BK503 0, kc_ BK503 1, kc_ BK503 2⟩ (fun hHeld => ?_)
        clear hK K
        refine norm_ (a' := ?_) ?_ ?_
        rotate_left
        ·
         show Act.put _ (some 46) _ = _
         simp only [Act.put, List.setIfInBounds_toArray, List.set_cons_zero, List.set_cons_succ, i64_w, i32_w]
         rfl
        refine pure_ (i := 3) (N := some 43) (v := ?_) (a' := ?_) (bm_ 7 15) rfl rfl (by kernel_rfl) (fun _ _ _ h => h) (Or.inl ⟨by rfl, ?_⟩) ?_ ?_
        rotate_left
        ·
         intro w'
         go_simp
         with_reducible rfl
        rotate_left
        ·
         simp only [Act.put, List.setIfInBounds_toArray, List.set_cons_zero, List.set_cons_succ, i64_w, i32_w]
         rfl
        refine pure_ (i := 4) (N := some 47) (v := ?_) (a' := ?_) (bm_ 7 31) rfl rfl (by kernel_rfl) (fun _ _ _ h => h) (Or.inl ⟨by rfl, ?_⟩) ?_ ?_
        rotate_left
        ·
         intro w'
         go_simp
         with_reducible rfl
        rotate_left
        ·
         simp only [Act.put, List.setIfInBounds_toArray, List.set_cons_zero, List.set_cons_succ, i64_w, i32_w]
         rfl
        refine pure_ (i := 5) (N := some 48) (v := ?_) (a' := ?_) (bm_ 7 63) rfl rfl (by kernel_rfl) (fun _ _ _ h => h) (Or.inl ⟨by rfl, ?_⟩) ?_ ?_
        rotate_left
        ·
         intro w'
         go_simp
         with_reducible rfl
        rotate_left
        ·
         simp only [Act.put, List.setIfInBounds_toArray, List.set_cons_zero, List.set_cons_succ, i64_w, i32_w]
         rfl
        refine one_ (i := 6) (N := none) (bm_ 7 127) rfl rfl (by kernel_rfl) (by decide) (fun K hK => ?_)
        have hs80 : w79.cell? ⟨gb487, 0, none⟩ = some (.bool x488000_2) := kc_ BK487 0
        have hfs80 := blk_frozen BK487.out 0
        have hns80_1 := NB488_487.out
        have hns80_2 := NB496_487.out
        have hns80_3 := NB503_487.out
        have hms80_1 := NB487_488.out
        have hms80_2 := NB487_496.out
        have hms80_3 := NB487_503.out
        have hs81 : w79.cell? ⟨gb487, 1, none⟩ = some (.int .u64 x488001_2) := kc_ BK487 1
        have hfs81 := blk_frozen BK487.out 1
        have hns81_1 := NB488_487.out
        have hns81_2 := NB496_487.out
        have hns81_3 := NB503_487.out
        have hms81_1 := NB487_488.out
        have hms81_2 := NB487_496.out
        have hms81_3 := NB487_503.out
        have hs82 : w79.cell? ⟨gb487, 2, none⟩ = some (.int .u64 x488002_2) := kc_ BK487 2
        have hfs82 := blk_frozen BK487.out 2
        have hns82_1 := NB488_487.out
        have hns82_2 := NB496_487.out
        have hns82_3 := NB503_487.out
        have hms82_1 := NB487_488.out
        have hms82_2 := NB487_496.out
        have hms82_3 := NB487_503.out
        refine skip_ (w1 := ?_) (by rfl) rfl ?_ ?_
        rotate_left
        ·
         go_simp
         rfl
        refine hK.out _ _ ⟨((cell_far (p := ⟨gb487, _, none⟩) NB503_487.out _).trans (((cell_far (p := ⟨gb487, _, none⟩) NB503_487.out _).trans (((cell_far (p := ⟨gb487, _, none⟩) NB503_487.out _).trans (hHeld.1)))))), ((cell_far (p := ⟨gb487, _, none⟩) NB503_487.out _).trans (((cell_far (p := ⟨gb487, _, none⟩) NB503_487.out _).trans (((cell_far (p := ⟨gb487, _, none⟩) NB503_487.out _).trans (hHeld.2.1)))))), ((cell_far (p := ⟨gb487, _, none⟩) NB503_487.out _).trans (((cell_far (p := ⟨gb487, _, none⟩) NB503_487.out _).trans (((cell_far (p := ⟨gb487, _, none⟩) NB503_487.out _).trans (hHeld.2.2))))))⟩ (fun hHeld => ?_)
        clear hK K
        refine done_ (by kernel_rfl) ?_
        try go_wp2
        go_roundg k2
        case measure => have := HJ2.out; have := HK2.out; omega
        case rel => exact ⟨(y497), (t506), (t507), (t508), H', ⟨by have := HJ2.out; have := HK2.out; omega⟩, ⟨by (with_reducible repeat (first | apply Kd.R_alloc | apply Kd.R_drewN | apply Kd.R_drew)); exact Kd.R_mono (Kd.R_far (p := ⟨gb487, 2, none⟩) (Kd.R_far (p := ⟨gb487, 1, none⟩) (Kd.R_far (p := ⟨gb487, 0, none⟩) (Kd.R_types HO499.out BK487.out (by decide)) (fun _ hk => hk.2) (.bool t506)) (fun _ hk => hk.2) (.int .u64 t507)) (fun _ hk => hk.2) (.int .u64 t508)) (fun _ hk => trivial)⟩, ⟨by refine pw_ ?_; refine blk_put (cs := #[.bool t506, .int .u64 t507, .int .u64 x488002_2]) ?_ 2 _ rfl; refine pw_ ?_; refine blk_put (cs := #[.bool t506, .int .u64 x488001_2, .int .u64 x488002_2]) ?_ 1 _ rfl; refine pw_ ?_; refine blk_put (cs := #[.bool x488000_2, .int .u64 x488001_2, .int .u64 x488002_2]) ?_ 0 _ rfl; refine pw_ ?_; exact BK487.out⟩, ⟨by refine pw_ ?_; refine blk_far ?_ NB488_487.out _; refine pw_ ?_; refine blk_far ?_ NB488_487.out _; refine pw_ ?_; refine blk_far ?_ NB488_487.out _; refine pw_ ?_; exact BK488.out⟩, ⟨pb_ HB⟩⟩
      ·
       rw [if_neg c37] at H
       exact absurd H (by simp)

def addr_V4.f (a0 : Int) : Option (Bool × Int × Int) := (num_Of.f (IntKind.u64.wrap (a0))).bind fun bt511 => (some (false, bt511.1, bt511.2))
set_option maxHeartbeats 8000000 in
set_option maxRecDepth 100000 in
theorem addr_V4.calls (a0 : Int) (r1 : Bool) (r2 : Int) (r3 : Int) (w : World) (h : addr_V4.f a0 = some (r1, r2, r3)) :
  Calls Tryz.prog 88 #[.int .u32 a0] w fun e w' => e = .returned (.agg #[.bool r1, .int .u64 r2, .int .u64 r3]) ∧ Below w.heap.size w w' := by
 have hu26 := Tryz.underlying26
 have HB := Aside0.mk (Below.refl w.heap.size w)
 have H : ((num_Of.f (IntKind.u64.wrap (a0))).bind fun bt511 => (some (false, bt511.1, bt511.2))) = some (r1, r2, r3) := h
 clear h
 replace H := Option.bind_eq_some_iff.mp H
 obtain ⟨⟨t511, t512⟩, A20, H⟩ := H
 replace H : (some (false, t511, t512)) = some (r1, r2, r3) := H
 have A2 := Aside0.mk A20
 clear A20
 simp only [Option.some.injEq, Prod.mk.injEq] at H
 obtain ⟨rfl, rfl, rfl⟩ := H
 go_enter Tryz.func88, Tryz.ntmps88
 go_wp2_with (first | ((with_reducible refine gate_dst (N := 2) rfl ?_); refine bx_ 2 #[.bool false, .int .u64 0, .int .u64 0] 26 ?_; intro gb510 hg w3 hbox hb; have BK510 := Aside0.mk (hbox); have GW510 := gw_ HB hg; have GE510 := gw_ HB hg; replace HB := bs_ HB hb; clear hb hbox hg) | ((with_reducible refine gate_callee (f := 59) rfl ?_); refine gl_ (some 5) Tryz.func59 #[.int .u64 (IntKind.u64.wrap (a0))] ?_; (with_reducible refine (num_Of.calls (IntKind.u64.wrap (a0)) t511 t512 _ A2.out).mono ?_); rintro e w4 ⟨rfl, hb⟩; refine ⟨_, rfl, ?_⟩; replace BK510 := bb_ BK510 hb; replace HB := bs_ HB hb; (try clear hb); (try clear hb2); (try clear hk); (try clear hi); obtain ⟨hcz5_0, hcz5_1, hcz5_2, hfz5_0, hfz5_1, hfz5_2⟩ := c3_ BK510))
 refine bodyPost_ret (results_cell_row rfl _ _ gb510 26 #[.bool false, .int .u64 t511, .int .u64 t512] (0, 0) _ rfl (by refine pw_ ?_; refine blk_put (cs := #[.bool false, .int .u64 t511, .int .u64 0]) ?_ 2 _ rfl; refine pw_ ?_; refine blk_put (cs := #[.bool false, .int .u64 0, .int .u64 0]) ?_ 1 _ rfl; refine pw_ ?_; refine blk_put (cs := #[.bool false, .int .u64 0, .int .u64 0]) ?_ 0 _ rfl; refine pw_ ?_; exact BK510.out) Tryz.underlying26 rfl (by kernel_rfl)) rfl ?_
 exact ⟨by first | rfl | (simp [errW_none, errW_some] <;> rfl) | (simp [*, errW_none, errW_some] <;> rfl), pb_ HB⟩

end Go.Proofs.YtgdgklibilddgaaGreatDoor.PPr

namespace Go.Proofs.YtgdgklibilddgaaGreatDoor.PPr
open Go.RowKit Go.Proofs.YtgdgklibilddgaaGreatDoorW.PrintWords Go.Proofs.YtgdgklibilddgaaGreatDoorW.PrintLast Go.Proofs.YtgdgklibilddgaaGreatDoorW.PrintMore
attribute [local go_sem] max2_int min2_int max_two min_two max_three min_three max_four min_four   -- for this text's walks alone

def platbooklaw04_awake.f (k : Nat)  : Option (Bool) := (prefix_Parse.f (⟨#[49, 48, 46, 48, 46, 48, 46, 48, 47, 56]⟩ : ByteArray)).bind fun bt513 => ((num_Of.f 257).bind fun bt519 => ((carve_Block.f bt513.1 bt513.2.1 bt513.2.2.1 bt513.2.2.2.1 24 bt519.1 bt519.2).bind fun bt521 => ((addr_V4.f 167772161).bind fun bt527 => ((addr_V4.f 167772164).bind fun bt530 => ((carve_Spread.f k bt527.1 bt527.2.1 bt527.2.2 bt530.1 bt530.2.1 bt530.2.2).bind fun bt533 => (if bt521.2.2.2.2 = 0 then ((prefix_Print.f bt521.1 bt521.2.1 bt521.2.2.1 bt521.2.2.2.1).bind fun t537 => (if t537.toList = ([49, 48, 46, 49, 46, 49, 46, 48, 47, 50, 52] : List UInt8) then (if bt533.2 = 0 then (if (bt533.1.length : Int) = 3 then (if 1 < (bt533.1.length : Int) then ((prefix_Print.f ((rd_T38 bt533.1 1).f0.f0) ((rd_T38 bt533.1 1).f0.f1.f0) ((rd_T38 bt533.1 1).f0.f1.f1) ((rd_T38 bt533.1 1).f1)).bind fun t539 => (some (t539.toList == ([49, 48, 46, 48, 46, 48, 46, 50, 47, 51, 49] : List UInt8)))) else (none)) else (some false)) else (some false)) else (some false))) else (some false)))))))
def platbooklaw04_awake.T2 : Bool × List (List Nat × List Nat) := (true, [([], []), ([], []), ([0, 1, 1], [0, 1]), ([2], [2]), ([3], [3]), ([3], [3]), ([], []), ([6, 4, 2, 0, 1, 2, 3, 4, 6], [4, 6]), ([5, 7, 0, 1, 2, 3, 4, 5, 6, 7], [5])])
def platbooklaw04_awake.B2 : List Nat := [0, 0, 3, 7, 15, 15, 0, 95, 255]
theorem platbooklaw04_awake.tab2 : rtab .any (opsOf Tryz.f46 2) = platbooklaw04_awake.T2 := by kernel_rfl
theorem platbooklaw04_awake.bits2 : waitsOk platbooklaw04_awake.T2.2 platbooklaw04_awake.B2 = true := by kernel_rfl
set_option maxHeartbeats 8000000 in
set_option maxRecDepth 100000 in
theorem platbooklaw04_awake.calls (k : Nat)  (r : Bool) (w : World) (hG : Glob w) (hrt : r = true) (h : platbooklaw04_awake.f k  = some r) :
  Calls Tryz.prog 46 #[] w fun e w' => e = .returned (.bool r) ∧ Below w.heap.size w w' := by
 have hu38 := Tryz.underlying38
 have HGLB := Aside0.mk hG
 clear hG
 have HRT := Aside0.mk hrt
 clear hrt
 have HB := Aside0.mk (Below.refl w.heap.size w)
 have H : ((prefix_Parse.f (⟨#[49, 48, 46, 48, 46, 48, 46, 48, 47, 56]⟩ : ByteArray)).bind fun bt513 => ((num_Of.f 257).bind fun bt519 => ((carve_Block.f bt513.1 bt513.2.1 bt513.2.2.1 bt513.2.2.2.1 24 bt519.1 bt519.2).bind fun bt521 => ((addr_V4.f 167772161).bind fun bt527 => ((addr_V4.f 167772164).bind fun bt530 => ((carve_Spread.f k bt527.1 bt527.2.1 bt527.2.2 bt530.1 bt530.2.1 bt530.2.2).bind fun bt533 => (if bt521.2.2.2.2 = 0 then ((prefix_Print.f bt521.1 bt521.2.1 bt521.2.2.1 bt521.2.2.2.1).bind fun t537 => (if t537.toList = ([49, 48, 46, 49, 46, 49, 46, 48, 47, 50, 52] : List UInt8) then (if bt533.2 = 0 then (if (bt533.1.length : Int) = 3 then (if 1 < (bt533.1.length : Int) then ((prefix_Print.f ((rd_T38 bt533.1 1).f0.f0) ((rd_T38 bt533.1 1).f0.f1.f0) ((rd_T38 bt533.1 1).f0.f1.f1) ((rd_T38 bt533.1 1).f1)).bind fun t539 => (some (t539.toList == ([49, 48, 46, 48, 46, 48, 46, 50, 47, 51, 49] : List UInt8)))) else (none)) else (some false)) else (some false)) else (some false))) else (some false)))))))) = some r := h
 clear h
 replace H := Option.bind_eq_some_iff.mp H
 obtain ⟨⟨t513, t514, t515, t516, t517⟩, A10, H⟩ := H
 replace H : ((num_Of.f 257).bind fun bt519 => ((carve_Block.f t513 t514 t515 t516 24 bt519.1 bt519.2).bind fun bt521 => ((addr_V4.f 167772161).bind fun bt527 => ((addr_V4.f 167772164).bind fun bt530 => ((carve_Spread.f k bt527.1 bt527.2.1 bt527.2.2 bt530.1 bt530.2.1 bt530.2.2).bind fun bt533 => (if bt521.2.2.2.2 = 0 then ((prefix_Print.f bt521.1 bt521.2.1 bt521.2.2.1 bt521.2.2.2.1).bind fun t537 => (if t537.toList = ([49, 48, 46, 49, 46, 49, 46, 48, 47, 50, 52] : List UInt8) then (if bt533.2 = 0 then (if (bt533.1.length : Int) = 3 then (if 1 < (bt533.1.length : Int) then ((prefix_Print.f ((rd_T38 bt533.1 1).f0.f0) ((rd_T38 bt533.1 1).f0.f1.f0) ((rd_T38 bt533.1 1).f0.f1.f1) ((rd_T38 bt533.1 1).f1)).bind fun t539 => (some (t539.toList == ([49, 48, 46, 48, 46, 48, 46, 50, 47, 51, 49] : List UInt8)))) else (none)) else (some false)) else (some false)) else (some false))) else (some false))))))) = some r := H
 have A1 := Aside0.mk A10
 clear A10
 replace H := Option.bind_eq_some_iff.mp H
 obtain ⟨⟨t519, t520⟩, A20, H⟩ := H
 replace H : ((carve_Block.f t513 t514 t515 t516 24 t519 t520).bind fun bt521 => ((addr_V4.f 167772161).bind fun bt527 => ((addr_V4.f 167772164).bind fun bt530 => ((carve_Spread.f k bt527.1 bt527.2.1 bt527.2.2 bt530.1 bt530.2.1 bt530.2.2).bind fun bt533 => (if bt521.2.2.2.2 = 0 then ((prefix_Print.f bt521.1 bt521.2.1 bt521.2.2.1 bt521.2.2.2.1).bind fun t537 => (if t537.toList = ([49, 48, 46, 49, 46, 49, 46, 48, 47, 50, 52] : List UInt8) then (if bt533.2 = 0 then (if (bt533.1.length : Int) = 3 then (if 1 < (bt533.1.length : Int) then ((prefix_Print.f ((rd_T38 bt533.1 1).f0.f0) ((rd_T38 bt533.1 1).f0.f1.f0) ((rd_T38 bt533.1 1).f0.f1.f1) ((rd_T38 bt533.1 1).f1)).bind fun t539 => (some (t539.toList == ([49, 48, 46, 48, 46, 48, 46, 50, 47, 51, 49] : List UInt8)))) else (none)) else (some false)) else (some false)) else (some false))) else (some false)))))) = some r := H
 have A2 := Aside0.mk A20
 clear A20
 replace H := Option.bind_eq_some_iff.mp H
 obtain ⟨⟨t521, t522, t523, t524, t525⟩, A30, H⟩ := H
 replace H : ((addr_V4.f 167772161).bind fun bt527 => ((addr_V4.f 167772164).bind fun bt530 => ((carve_Spread.f k bt527.1 bt527.2.1 bt527.2.2 bt530.1 bt530.2.1 bt530.2.2).bind fun bt533 => (if t525 = 0 then ((prefix_Print.f t521 t522 t523 t524).bind fun t537 => (if t537.toList = ([49, 48, 46, 49, 46, 49, 46, 48, 47, 50, 52] : List UInt8) then (if bt533.2 = 0 then (if (bt533.1.length : Int) = 3 then (if 1 < (bt533.1.length : Int) then ((prefix_Print.f ((rd_T38 bt533.1 1).f0.f0) ((rd_T38 bt533.1 1).f0.f1.f0) ((rd_T38 bt533.1 1).f0.f1.f1) ((rd_T38 bt533.1 1).f1)).bind fun t539 => (some (t539.toList == ([49, 48, 46, 48, 46, 48, 46, 50, 47, 51, 49] : List UInt8)))) else (none)) else (some false)) else (some false)) else (some false))) else (some false))))) = some r := H
 have A3 := Aside0.mk A30
 clear A30
 replace H := Option.bind_eq_some_iff.mp H
 obtain ⟨⟨t527, t528, t529⟩, A40, H⟩ := H
 replace H : ((addr_V4.f 167772164).bind fun bt530 => ((carve_Spread.f k t527 t528 t529 bt530.1 bt530.2.1 bt530.2.2).bind fun bt533 => (if t525 = 0 then ((prefix_Print.f t521 t522 t523 t524).bind fun t537 => (if t537.toList = ([49, 48, 46, 49, 46, 49, 46, 48, 47, 50, 52] : List UInt8) then (if bt533.2 = 0 then (if (bt533.1.length : Int) = 3 then (if 1 < (bt533.1.length : Int) then ((prefix_Print.f ((rd_T38 bt533.1 1).f0.f0) ((rd_T38 bt533.1 1).f0.f1.f0) ((rd_T38 bt533.1 1).f0.f1.f1) ((rd_T38 bt533.1 1).f1)).bind fun t539 => (some (t539.toList == ([49, 48, 46, 48, 46, 48, 46, 50, 47, 51, 49] : List UInt8)))) else (none)) else (some false)) else (some false)) else (some false))) else (some false)))) = some r := H
 have A4 := Aside0.mk A40
 clear A40
 replace H := Option.bind_eq_some_iff.mp H
 obtain ⟨⟨t530, t531, t532⟩, A50, H⟩ := H
 replace H : ((carve_Spread.f k t527 t528 t529 t530 t531 t532).bind fun bt533 => (if t525 = 0 then ((prefix_Print.f t521 t522 t523 t524).bind fun t537 => (if t537.toList = ([49, 48, 46, 49, 46, 49, 46, 48, 47, 50, 52] : List UInt8) then (if bt533.2 = 0 then (if (bt533.1.length : Int) = 3 then (if 1 < (bt533.1.length : Int) then ((prefix_Print.f ((rd_T38 bt533.1 1).f0.f0) ((rd_T38 bt533.1 1).f0.f1.f0) ((rd_T38 bt533.1 1).f0.f1.f1) ((rd_T38 bt533.1 1).f1)).bind fun t539 => (some (t539.toList == ([49, 48, 46, 48, 46, 48, 46, 50, 47, 51, 49] : List UInt8)))) else (none)) else (some false)) else (some false)) else (some false))) else (some false))) = some r := H
 have A5 := Aside0.mk A50
 clear A50
 replace H := Option.bind_eq_some_iff.mp H
 obtain ⟨⟨t533, t536⟩, A60, H⟩ := H
 replace H : (if t525 = 0 then ((prefix_Print.f t521 t522 t523 t524).bind fun t537 => (if t537.toList = ([49, 48, 46, 49, 46, 49, 46, 48, 47, 50, 52] : List UInt8) then (if t536 = 0 then (if (t533.length : Int) = 3 then (if 1 < (t533.length : Int) then ((prefix_Print.f ((rd_T38 t533 1).f0.f0) ((rd_T38 t533 1).f0.f1.f0) ((rd_T38 t533 1).f0.f1.f1) ((rd_T38 t533 1).f1)).bind fun t539 => (some (t539.toList == ([49, 48, 46, 48, 46, 48, 46, 50, 47, 51, 49] : List UInt8)))) else (none)) else (some false)) else (some false)) else (some false))) else (some false)) = some r := H
 have A6 := Aside0.mk A60
 clear A60
 by_cases c7 : t525 = 0
 ·
  rw [if_pos c7] at H
  have c7b0 : (t525 == 0) = true := beq_iff_eq.mpr c7
  have c7b1 : (t525 != 0) = false := bne_eq_false_iff_eq.mpr c7
  clear c7
  replace H := Option.bind_eq_some_iff.mp H
  obtain ⟨t537, A80, H⟩ := H
  replace H : (if t537.toList = ([49, 48, 46, 49, 46, 49, 46, 48, 47, 50, 52] : List UInt8) then (if t536 = 0 then (if (t533.length : Int) = 3 then (if 1 < (t533.length : Int) then ((prefix_Print.f ((rd_T38 t533 1).f0.f0) ((rd_T38 t533 1).f0.f1.f0) ((rd_T38 t533 1).f0.f1.f1) ((rd_T38 t533 1).f1)).bind fun t539 => (some (t539.toList == ([49, 48, 46, 48, 46, 48, 46, 50, 47, 51, 49] : List UInt8)))) else (none)) else (some false)) else (some false)) else (some false)) = some r := H
  have A8 := Aside0.mk A80
  clear A80
  by_cases c9 : t537.toList = ([49, 48, 46, 49, 46, 49, 46, 48, 47, 50, 52] : List UInt8)
  ·
   rw [if_pos c9] at H
   have c9b0 : (t537.toList == ([49, 48, 46, 49, 46, 49, 46, 48, 47, 50, 52] : List UInt8)) = true := beq_iff_eq.mpr c9
   have c9b1 : (t537.toList != ([49, 48, 46, 49, 46, 49, 46, 48, 47, 50, 52] : List UInt8)) = false := bne_eq_false_iff_eq.mpr c9
   clear c9
   by_cases c10 : t536 = 0
   ·
    rw [if_pos c10] at H
    have c10b0 : (t536 == 0) = true := beq_iff_eq.mpr c10
    have c10b1 : (t536 != 0) = false := bne_eq_false_iff_eq.mpr c10
    clear c10
    by_cases c11 : (t533.length : Int) = 3
    ·
     rw [if_pos c11] at H
     have c11b0 : ((t533.length : Int) == 3) = true := beq_iff_eq.mpr c11
     have c11b1 : ((t533.length : Int) != 3) = false := bne_eq_false_iff_eq.mpr c11
     clear c11
     by_cases c12 : 1 < (t533.length : Int)
     ·
      rw [if_pos c12] at H
      have c12b0 : decide (1 < (t533.length : Int)) = true := decide_eq_true c12
      have c12b1 : decide (1 < t533.length) = true := decide_eq_true (by omega)
      clear c12
      replace H := Option.bind_eq_some_iff.mp H
      obtain ⟨t539, A130, H⟩ := H
      replace H : (some (t539.toList == ([49, 48, 46, 48, 46, 48, 46, 50, 47, 51, 49] : List UInt8))) = some r := H
      have A13 := Aside0.mk A130
      clear A130
      obtain rfl := Option.some.inj H
      go_enter Tryz.func46, Tryz.ntmps46
      try go_wp2_with (first | ((with_reducible refine gate_callee (f := 25) rfl ?_); refine gl_ (some 8) Tryz.func25 #[.string (⟨#[49, 48, 46, 48, 46, 48, 46, 48, 47, 56]⟩ : ByteArray)] ?_; (with_reducible refine (prefix_Parse.calls (⟨#[49, 48, 46, 48, 46, 48, 46, 48, 47, 56]⟩ : ByteArray) t513 t514 t515 t516 t517 _ ?side1 A1.out).mono ?_); (case side1 => exact glob_keep HGLB.out (pb_ HB)); rintro e w14 ⟨rfl, hb⟩; refine ⟨_, rfl, ?_⟩; replace HB := bs_ HB hb; (try clear hb); (try clear hb2); (try clear hk); (try clear hi)) | ((with_reducible refine gate_dst (N := 1) rfl ?_); (try (refine gate_guard (by rfl) ?_; dsimp only)); refine bx_ 1 #[.bool false, .int .u64 0, .int .u64 0, .int .i64 0] 38 ?_; intro gb518 hg w15 hbox hb; have BK518 := Aside0.mk (hbox); have GW518 := gw_ HB hg; have GE518 := gw_ HB hg; replace HB := bs_ HB hb; clear hb hbox hg; obtain ⟨hcz16_0, hcz16_1, hcz16_2, hcz16_3, hfz16_0, hfz16_1, hfz16_2, hfz16_3⟩ := c4_ BK518))
      have n0_ : Aside0 (((((w15.setCell ⟨gb518, 0, none⟩ (.bool t513)).setCell ⟨gb518, 1, none⟩ (.int .u64 t514)).setCell ⟨gb518, 2, none⟩ (.int .u64 t515)).setCell ⟨gb518, 3, none⟩ (.int .i64 t516)).heap[gb518]? = some (.cells #[.bool t513, .int .u64 t514, .int .u64 t515, .int .i64 t516] 38 (0, 0))) := ⟨by refine pw_ ?_; refine blk_put (cs := #[.bool t513, .int .u64 t514, .int .u64 t515, .int .i64 0]) ?_ 3 _ rfl; refine pw_ ?_; refine blk_put (cs := #[.bool t513, .int .u64 t514, .int .u64 0, .int .i64 0]) ?_ 2 _ rfl; refine pw_ ?_; refine blk_put (cs := #[.bool t513, .int .u64 0, .int .u64 0, .int .i64 0]) ?_ 1 _ rfl; refine pw_ ?_; refine blk_put (cs := #[.bool false, .int .u64 0, .int .u64 0, .int .i64 0]) ?_ 0 _ rfl; refine pw_ ?_; exact BK518.out⟩
      have n1_ : Aside0 (Below w.heap.size w ((((w15.setCell ⟨gb518, 0, none⟩ (.bool t513)).setCell ⟨gb518, 1, none⟩ (.int .u64 t514)).setCell ⟨gb518, 2, none⟩ (.int .u64 t515)).setCell ⟨gb518, 3, none⟩ (.int .i64 t516))) := ⟨pb_ HB⟩
      (try clear BK518)
      (try clear HB)
      generalize ((((w15.setCell ⟨gb518, 0, none⟩ (.bool t513)).setCell ⟨gb518, 1, none⟩ (.int .u64 t514)).setCell ⟨gb518, 2, none⟩ (.int .u64 t515)).setCell ⟨gb518, 3, none⟩ (.int .i64 t516)) = w17 at n0_ n1_ ⊢
      have BK518 := n0_
      have HB := n1_
      clear n0_ n1_
      replace BK518 := Aside0.mk (blk_drew BK518.out)
      replace HB := Aside0.mk (below_drew1 HB.out)
      refine start_ (n := 9) (S := fun w' => w'.cell? ⟨gb518, 0, none⟩ = some (.bool t513) ∧ w'.cell? ⟨gb518, 1, none⟩ = some (.int .u64 t514) ∧ w'.cell? ⟨gb518, 2, none⟩ = some (.int .u64 t515) ∧ w'.cell? ⟨gb518, 3, none⟩ = some (.int .i64 t516)) (ds := []) (bm_ 9 0) (by kernel_rfl) rfl rfl ⟨kc_ BK518 0, kc_ BK518 1, kc_ BK518 2, kc_ BK518 3⟩ (fun hHeld => ?_); refine with_tabW platbooklaw04_awake.tab2 platbooklaw04_awake.bits2 (fun HT_ HW_ => ?_)
      generalize w17.drew = w18 at BK518 HB hHeld ⊢
      refine ta_ 0 (some 12) (bm_ 9 1) rfl HT_ HW_ ⟨by rfl, by rintro w' ⟨s0, s1, s2, s3⟩; go_simp; with_reducible rfl⟩ hHeld ?_
      refine join_ (σ := Nat) 2 (bm_ 9 127) (fun s_ => [(13, .agg #[.int .u64 t519, .int .u64 t520]), (14, .tuple #[.agg #[.bool t521, .int .u64 t522, .int .u64 t523, .int .i64 t524], .int .i64 t525]), (3, .pointer (some ⟨s_, 0, none⟩)), (11, .tuple #[.agg #[.bool t521, .int .u64 t522, .int .u64 t523, .int .i64 t524], .int .i64 t525]), (15, .agg #[.bool t521, .int .u64 t522, .int .u64 t523, .int .i64 t524]), (16, .int .i64 t525)]) (fun s_ w' => (w'.cell? ⟨gb518, 0, none⟩ = some (.bool t513) ∧ w'.cell? ⟨gb518, 1, none⟩ = some (.int .u64 t514) ∧ w'.cell? ⟨gb518, 2, none⟩ = some (.int .u64 t515) ∧ w'.cell? ⟨gb518, 3, none⟩ = some (.int .i64 t516)) ∧ (w'.heap[gb518]? = some (.cells #[.bool t513, .int .u64 t514, .int .u64 t515, .int .i64 t516] 38 (0, 0))) ∧ (w'.heap[s_]? = some (.cells #[.bool false, .int .u64 0, .int .u64 0, .int .i64 0] 38 (0, 0))) ∧ (w.heap.size ≤ s_) ∧ (w.heap.size ≤ s_) ∧ (gb518 ≠ s_) ∧ (s_ ≠ gb518) ∧ (Below w.heap.size w w')) ?_ ?_
      rotate_left
      ·
       intro hCont
       refine two_ (i := 1) (j := 6) (Ni := some 13) (Nj := some 3) (bm_ 9 3) (bm_ 9 65) rfl rfl rfl rfl (two_of HT_.out (by kernel_rfl)) (by decide) (by decide) (fun K hK => ?_) (fun K hK => ?_)
       ·
        skip
        refine gr_ Tryz.func59 #[.int .u64 257] ?_
        with_reducible refine (num_Of.calls 257 t519 t520 _ A2.out).mono ?_
        rintro e w19 ⟨rfl, hb⟩
        refine ⟨_, rfl, ?_⟩
        replace BK518 := bb_ BK518 hb
        replace HB := bs_ HB hb
        (try clear hb)
        (try clear hb2)
        (try clear hk)
        (try clear hi)
        refine hK.out _ _ ⟨kc_ BK518 0, kc_ BK518 1, kc_ BK518 2, kc_ BK518 3⟩ (fun hHeld => ?_)
        clear hK K
        refine norm_ (a' := ?_) ?_ ?_
        rotate_left
        ·
         show Act.put _ (some 13) _ = _
         simp only [Act.put, List.setIfInBounds_toArray, List.set_cons_zero, List.set_cons_succ, i64_w, i32_w]
         rfl
        refine two_ (i := 2) (j := 6) (Ni := some 14) (Nj := some 3) (bm_ 9 7) (bm_ 9 67) rfl rfl rfl rfl (two_of HT_.out (by kernel_rfl)) (by decide) (by decide) (fun K hK => ?_) (fun K hK => ?_)
        ·
         skip
         refine gr_ Tryz.func49 #[.agg #[.bool t513, .int .u64 t514, .int .u64 t515, .int .i64 t516], .int .i64 24, .agg #[.int .u64 t519, .int .u64 t520]] ?_
         with_reducible refine (carve_Block.calls t513 t514 t515 t516 24 t519 t520 t521 t522 t523 t524 t525 _ A3.out).mono ?_
         rintro e w20 ⟨rfl, hb⟩
         refine ⟨_, rfl, ?_⟩
         replace BK518 := bb_ BK518 hb
         replace HB := bs_ HB hb
         (try clear hb)
         (try clear hb2)
         (try clear hk)
         (try clear hi)
         refine hK.out _ _ ⟨kc_ BK518 0, kc_ BK518 1, kc_ BK518 2, kc_ BK518 3⟩ (fun hHeld => ?_)
         clear hK K
         refine norm_ (a' := ?_) ?_ ?_
         rotate_left
         ·
          show Act.put _ (some 14) _ = _
          simp only [Act.put, List.setIfInBounds_toArray, List.set_cons_zero, List.set_cons_succ, i64_w, i32_w]
          rfl
         refine pu_ 3 (some 11) (bm_ 9 15) rfl HT_ ⟨by rfl, by intro w'; go_simp; with_reducible rfl⟩ ?_
         refine pu_ 4 (some 15) (bm_ 9 31) rfl HT_ ⟨by rfl, by intro w'; go_simp; with_reducible rfl⟩ ?_
         refine pu_ 5 (some 16) (bm_ 9 63) rfl HT_ ⟨by rfl, by intro w'; go_simp; with_reducible rfl⟩ ?_
         refine one_ (i := 6) (N := some 3) (bm_ 9 127) rfl rfl (one_of HT_.out (by kernel_rfl)) (by decide) (fun K hK => ?_)
         refine box_step ?hg (N := 3) ?hd (cs := #[.bool false, .int .u64 0, .int .u64 0, .int .i64 0]) (t := 38) ?hr ?_; (case hd => rfl); (case hg => rfl); (case hr => first | (go_simp; done) | (go_simp; rfl))
         intro gb526 hg w21 hbox hb
         have BK526 := Aside0.mk (hbox)
         have GW526 := gw_ HB hg
         have GE526 := gw_ HB hg
         have NB518_526 := nl_ BK518 hg
         have NB526_518 := ng_ BK518 hg
         replace BK518 := bb_ BK518 hb
         replace HB := bs_ HB hb
         clear hb hbox hg
         refine hK.out _ _ ⟨kc_ BK518 0, kc_ BK518 1, kc_ BK518 2, kc_ BK518 3⟩ (fun hHeld => ?_)
         clear hK K
         refine norm_ (a' := ?_) ?_ ?_
         rotate_left
         ·
          show Act.put _ (some 3) _ = _
          simp only [Act.put, List.setIfInBounds_toArray, List.set_cons_zero, List.set_cons_succ, i64_w, i32_w]
          rfl
         exact norm_ (by simp only [putAll, Act.put, List.setIfInBounds_toArray, List.set_cons_zero, List.set_cons_succ]) (hCont (gb526) _ ⟨hHeld, (pk_ BK518), (pk_ BK526), GW526.out, GE526.out, NB518_526.out, NB526_518.out, (pb_ HB)⟩)
        ·
         skip
         refine box_step ?hg (N := 3) ?hd (cs := #[.bool false, .int .u64 0, .int .u64 0, .int .i64 0]) (t := 38) ?hr ?_; (case hd => rfl); (case hg => rfl); (case hr => first | (go_simp; done) | (go_simp; rfl))
         intro gb526 hg w20 hbox hb
         have BK526 := Aside0.mk (hbox)
         have GW526 := gw_ HB hg
         have GE526 := gw_ HB hg
         have NB518_526 := nl_ BK518 hg
         have NB526_518 := ng_ BK518 hg
         replace BK518 := bb_ BK518 hb
         replace HB := bs_ HB hb
         clear hb hbox hg
         refine hK.out _ _ ⟨kc_ BK518 0, kc_ BK518 1, kc_ BK518 2, kc_ BK518 3⟩ (fun hHeld => ?_)
         clear hK K
         refine norm_ (a' := ?_) ?_ ?_
         rotate_left
         ·
          show Act.put _ (some 3) _ = _
          simp only [Act.put, List.setIfInBounds_toArray, List.set_cons_zero, List.set_cons_succ, i64_w, i32_w]
          rfl
         refine one_ (i := 2) (N := some 14) (bm_ 9 71) rfl rfl (one_of HT_.out (by kernel_rfl)) (by decide) (fun K hK => ?_)
         refine gr_ Tryz.func49 #[.agg #[.bool t513, .int .u64 t514, .int .u64 t515, .int .i64 t516], .int .i64 24, .agg #[.int .u64 t519, .int .u64 t520]] ?_
         with_reducible refine (carve_Block.calls t513 t514 t515 t516 24 t519 t520 t521 t522 t523 t524 t525 _ A3.out).mono ?_
         rintro e w21 ⟨rfl, hb⟩
         refine ⟨_, rfl, ?_⟩
         replace BK518 := bb_ BK518 hb
         replace BK526 := bb_ BK526 hb
         replace HB := bs_ HB hb
         (try clear hb)
         (try clear hb2)
         (try clear hk)
         (try clear hi)
         refine hK.out _ _ ⟨kc_ BK518 0, kc_ BK518 1, kc_ BK518 2, kc_ BK518 3⟩ (fun hHeld => ?_)
         clear hK K
         refine norm_ (a' := ?_) ?_ ?_
         rotate_left
         ·
          show Act.put _ (some 14) _ = _
          simp only [Act.put, List.setIfInBounds_toArray, List.set_cons_zero, List.set_cons_succ, i64_w, i32_w]
          rfl
         refine pu_ 3 (some 11) (bm_ 9 79) rfl HT_ ⟨by rfl, by intro w'; go_simp; with_reducible rfl⟩ ?_
         refine pu_ 4 (some 15) (bm_ 9 95) rfl HT_ ⟨by rfl, by intro w'; go_simp; with_reducible rfl⟩ ?_
         refine pu_ 5 (some 16) (bm_ 9 127) rfl HT_ ⟨by rfl, by intro w'; go_simp; with_reducible rfl⟩ ?_
         exact norm_ (by simp only [putAll, Act.put, List.setIfInBounds_toArray, List.set_cons_zero, List.set_cons_succ]) (hCont (gb526) _ ⟨hHeld, (pk_ BK518), (pk_ BK526), GW526.out, GE526.out, NB518_526.out, NB526_518.out, (pb_ HB)⟩)
       ·
        skip
        refine box_step ?hg (N := 3) ?hd (cs := #[.bool false, .int .u64 0, .int .u64 0, .int .i64 0]) (t := 38) ?hr ?_; (case hd => rfl); (case hg => rfl); (case hr => first | (go_simp; done) | (go_simp; rfl))
        intro gb526 hg w19 hbox hb
        have BK526 := Aside0.mk (hbox)
        have GW526 := gw_ HB hg
        have GE526 := gw_ HB hg
        have NB518_526 := nl_ BK518 hg
        have NB526_518 := ng_ BK518 hg
        replace BK518 := bb_ BK518 hb
        replace HB := bs_ HB hb
        clear hb hbox hg
        refine hK.out _ _ ⟨kc_ BK518 0, kc_ BK518 1, kc_ BK518 2, kc_ BK518 3⟩ (fun hHeld => ?_)
        clear hK K
        refine norm_ (a' := ?_) ?_ ?_
        rotate_left
        ·
         show Act.put _ (some 3) _ = _
         simp only [Act.put, List.setIfInBounds_toArray, List.set_cons_zero, List.set_cons_succ, i64_w, i32_w]
         rfl
        refine one_ (i := 1) (N := some 13) (bm_ 9 67) rfl rfl (one_of HT_.out (by kernel_rfl)) (by decide) (fun K hK => ?_)
        refine gr_ Tryz.func59 #[.int .u64 257] ?_
        with_reducible refine (num_Of.calls 257 t519 t520 _ A2.out).mono ?_
        rintro e w20 ⟨rfl, hb⟩
        refine ⟨_, rfl, ?_⟩
        replace BK518 := bb_ BK518 hb
        replace BK526 := bb_ BK526 hb
        replace HB := bs_ HB hb
        (try clear hb)
        (try clear hb2)
        (try clear hk)
        (try clear hi)
        refine hK.out _ _ ⟨kc_ BK518 0, kc_ BK518 1, kc_ BK518 2, kc_ BK518 3⟩ (fun hHeld => ?_)
        clear hK K
        refine norm_ (a' := ?_) ?_ ?_
        rotate_left
        ·
         show Act.put _ (some 13) _ = _
         simp only [Act.put, List.setIfInBounds_toArray, List.set_cons_zero, List.set_cons_succ, i64_w, i32_w]
         rfl
        refine one_ (i := 2) (N := some 14) (bm_ 9 71) rfl rfl (one_of HT_.out (by kernel_rfl)) (by decide) (fun K hK => ?_)
        refine gr_ Tryz.func49 #[.agg #[.bool t513, .int .u64 t514, .int .u64 t515, .int .i64 t516], .int .i64 24, .agg #[.int .u64 t519, .int .u64 t520]] ?_
        with_reducible refine (carve_Block.calls t513 t514 t515 t516 24 t519 t520 t521 t522 t523 t524 t525 _ A3.out).mono ?_
        rintro e w21 ⟨rfl, hb⟩
        refine ⟨_, rfl, ?_⟩
        replace BK518 := bb_ BK518 hb
        replace BK526 := bb_ BK526 hb
        replace HB := bs_ HB hb
        (try clear hb)
        (try clear hb2)
        (try clear hk)
        (try clear hi)
        refine hK.out _ _ ⟨kc_ BK518 0, kc_ BK518 1, kc_ BK518 2, kc_ BK518 3⟩ (fun hHeld => ?_)
        clear hK K
        refine norm_ (a' := ?_) ?_ ?_
        rotate_left
        ·
         show Act.put _ (some 14) _ = _
         simp only [Act.put, List.setIfInBounds_toArray, List.set_cons_zero, List.set_cons_succ, i64_w, i32_w]
         rfl
        refine pu_ 3 (some 11) (bm_ 9 79) rfl HT_ ⟨by rfl, by intro w'; go_simp; with_reducible rfl⟩ ?_
        refine pu_ 4 (some 15) (bm_ 9 95) rfl HT_ ⟨by rfl, by intro w'; go_simp; with_reducible rfl⟩ ?_
        refine pu_ 5 (some 16) (bm_ 9 127) rfl HT_ ⟨by rfl, by intro w'; go_simp; with_reducible rfl⟩ ?_
        exact norm_ (by simp only [putAll, Act.put, List.setIfInBounds_toArray, List.set_cons_zero, List.set_cons_succ]) (hCont (gb526) _ ⟨hHeld, (pk_ BK518), (pk_ BK526), GW526.out, GE526.out, NB518_526.out, NB526_518.out, (pb_ HB)⟩)
      rintro gb526 w22 ⟨hS_, h0_, h1_, h2_, h3_, h4_, h5_, h6_⟩
      have n0_ : Aside0 (w22.heap[gb518]? = some (.cells #[.bool t513, .int .u64 t514, .int .u64 t515, .int .i64 t516] 38 (0, 0))) := ⟨h0_⟩
      have n1_ : Aside0 (w22.heap[gb526]? = some (.cells #[.bool false, .int .u64 0, .int .u64 0, .int .i64 0] 38 (0, 0))) := ⟨h1_⟩
      have n2_ : Aside0 (w.heap.size ≤ gb526) := ⟨h2_⟩
      have n3_ : Aside0 (w.heap.size ≤ gb526) := ⟨h3_⟩
      have n4_ : Aside0 (gb518 ≠ gb526) := ⟨h4_⟩
      have n5_ : Aside0 (gb526 ≠ gb518) := ⟨h5_⟩
      have n6_ : Aside0 (Below w.heap.size w w22) := ⟨h6_⟩
      clear BK518
      clear HB
      clear h0_ h1_ h2_ h3_ h4_ h5_ h6_
      have BK518 := n0_
      have BK526 := n1_
      have GW526 := n2_
      have GE526 := n3_
      have NB518_526 := n4_
      have NB526_518 := n5_
      have HB := n6_
      clear n0_ n1_ n2_ n3_ n4_ n5_ n6_
      have hHeld : w22.cell? ⟨gb518, 0, none⟩ = some (.bool t513) ∧ w22.cell? ⟨gb518, 1, none⟩ = some (.int .u64 t514) ∧ w22.cell? ⟨gb518, 2, none⟩ = some (.int .u64 t515) ∧ w22.cell? ⟨gb518, 3, none⟩ = some (.int .i64 t516) := hS_
      refine norm_ (a' := ?_) ?_ ?_
      rotate_left
      ·
       simp only [putAll, Act.put, List.setIfInBounds_toArray, List.set_cons_zero, List.set_cons_succ]
       rfl
      refine one_ (i := 7) (N := none) (bm_ 9 255) rfl rfl (one_of HT_.out (by kernel_rfl)) (by decide) (fun K hK => ?_)
      have hs23 : w22.cell? ⟨gb526, 0, none⟩ = some (.bool false) := kc_ BK526 0
      have hfs23 := blk_frozen BK526.out 0
      have hns23_0 := NB518_526.out
      have hms23_0 := NB526_518.out
      have hs24 : w22.cell? ⟨gb526, 1, none⟩ = some (.int .u64 0) := kc_ BK526 1
      have hfs24 := blk_frozen BK526.out 1
      have hns24_0 := NB518_526.out
      have hms24_0 := NB526_518.out
      have hs25 : w22.cell? ⟨gb526, 2, none⟩ = some (.int .u64 0) := kc_ BK526 2
      have hfs25 := blk_frozen BK526.out 2
      have hns25_0 := NB518_526.out
      have hms25_0 := NB526_518.out
      have hs26 : w22.cell? ⟨gb526, 3, none⟩ = some (.int .i64 0) := kc_ BK526 3
      have hfs26 := blk_frozen BK526.out 3
      have hns26_0 := NB518_526.out
      have hms26_0 := NB526_518.out
      refine skip_ (w1 := ?_) (by rfl) rfl ?_ ?_
      rotate_left
      ·
       go_simp
       rfl
      refine hK.out _ _ ⟨((cell_far (p := ⟨gb526, _, none⟩) NB518_526.out _).trans (((cell_far (p := ⟨gb526, _, none⟩) NB518_526.out _).trans (((cell_far (p := ⟨gb526, _, none⟩) NB518_526.out _).trans (((cell_far (p := ⟨gb526, _, none⟩) NB518_526.out _).trans (hHeld.1)))))))), ((cell_far (p := ⟨gb526, _, none⟩) NB518_526.out _).trans (((cell_far (p := ⟨gb526, _, none⟩) NB518_526.out _).trans (((cell_far (p := ⟨gb526, _, none⟩) NB518_526.out _).trans (((cell_far (p := ⟨gb526, _, none⟩) NB518_526.out _).trans (hHeld.2.1)))))))), ((cell_far (p := ⟨gb526, _, none⟩) NB518_526.out _).trans (((cell_far (p := ⟨gb526, _, none⟩) NB518_526.out _).trans (((cell_far (p := ⟨gb526, _, none⟩) NB518_526.out _).trans (((cell_far (p := ⟨gb526, _, none⟩) NB518_526.out _).trans (hHeld.2.2.1)))))))), ((cell_far (p := ⟨gb526, _, none⟩) NB518_526.out _).trans (((cell_far (p := ⟨gb526, _, none⟩) NB518_526.out _).trans (((cell_far (p := ⟨gb526, _, none⟩) NB518_526.out _).trans (((cell_far (p := ⟨gb526, _, none⟩) NB518_526.out _).trans (hHeld.2.2.2))))))))⟩ (fun hHeld => ?_)
      clear hK K
      refine pu_ 8 (some 4) (bm_ 9 511) rfl HT_ ⟨by rfl, by intro w'; go_simp; with_reducible rfl⟩ ?_
      refine done_ (done_of HT_.out (by kernel_rfl)) ?_
      try go_wp2_with (first | ((with_reducible refine gate_callee (f := 88) rfl ?_); refine gl_ (some 18) Tryz.func88 #[.int .u32 167772161] ?_; (with_reducible refine (addr_V4.calls 167772161 t527 t528 t529 _ A4.out).mono ?_); rintro e w27 ⟨rfl, hb⟩; refine ⟨_, rfl, ?_⟩; replace BK518 := Aside0.mk (blk_below (g := gb518) (o := .cells #[.bool t513, .int .u64 t514, .int .u64 t515, .int .i64 t516] 38 (0, 0)) (by refine pw_ ?_; refine blk_far ?_ NB518_526.out _; refine pw_ ?_; refine blk_far ?_ NB518_526.out _; refine pw_ ?_; refine blk_far ?_ NB518_526.out _; refine pw_ ?_; refine blk_far ?_ NB518_526.out _; refine pw_ ?_; exact BK518.out) hb); replace BK526 := Aside0.mk (blk_below (g := gb526) (o := .cells #[.bool t521, .int .u64 t522, .int .u64 t523, .int .i64 t524] 38 (0, 0)) (by refine pw_ ?_; refine blk_put (cs := #[.bool t521, .int .u64 t522, .int .u64 t523, .int .i64 0]) ?_ 3 _ rfl; refine pw_ ?_; refine blk_put (cs := #[.bool t521, .int .u64 t522, .int .u64 0, .int .i64 0]) ?_ 2 _ rfl; refine pw_ ?_; refine blk_put (cs := #[.bool t521, .int .u64 0, .int .u64 0, .int .i64 0]) ?_ 1 _ rfl; refine pw_ ?_; refine blk_put (cs := #[.bool false, .int .u64 0, .int .u64 0, .int .i64 0]) ?_ 0 _ rfl; refine pw_ ?_; exact BK526.out) hb); replace HB := bs_ HB hb; (try clear hb); (try clear hb2); (try clear hk); (try clear hi)) | ((with_reducible refine gate_callee (f := 88) rfl ?_); refine gl_ (some 19) Tryz.func88 #[.int .u32 167772164] ?_; (with_reducible refine (addr_V4.calls 167772164 t530 t531 t532 _ A5.out).mono ?_); rintro e w28 ⟨rfl, hb⟩; refine ⟨_, rfl, ?_⟩; replace BK518 := bb_ BK518 hb; replace BK526 := bb_ BK526 hb; replace HB := bs_ HB hb; (try clear hb); (try clear hb2); (try clear hk); (try clear hi)) | ((with_reducible refine gate_callee (f := 58) rfl ?_); refine gl_ (some 20) Tryz.func58 #[.agg #[.bool t527, .int .u64 t528, .int .u64 t529], .agg #[.bool t530, .int .u64 t531, .int .u64 t532]] ?_; (with_reducible refine (carve_Spread.calls k t527 t528 t529 t530 t531 t532 t533 t536 _ A6.out).mono ?_); rintro e w29 ⟨v534, rfl, ho0, hb⟩; refine ⟨_, rfl, ?_⟩; have HO535 := Aside0.mk (Kd.R_lower (Kd.R_newB (Kd.R_newB ho0 (g := gb518) (o := .cells #[.bool t513, .int .u64 t514, .int .u64 t515, .int .i64 t516] 38 (0, 0)) (pk_ BK518)) (g := gb526) (o := .cells #[.bool t521, .int .u64 t522, .int .u64 t523, .int .i64 t524] 38 (0, 0)) (pk_ BK526)) (below_size (pb_ HB))); replace BK518 := bb_ BK518 hb; replace BK526 := bb_ BK526 hb; replace HB := bs_ HB hb; (try clear hb); (try clear hb2); (try clear hk); (try clear hi); (try clear ho0); have hnb30 := NB526_518.out; have hnc30 := NB518_526.out; obtain ⟨hcz31_0, hcz31_1, hcz31_2, hcz31_3, hfz31_0, hfz31_1, hfz31_2, hfz31_3⟩ := c4_ BK526) | (go_at_call 27; (with_reducible refine (prefix_Print.calls t521 t522 t523 t524 t537 _ ?side1 A8.out).mono ?_); (case side1 => exact glob_keep HGLB.out (pb_ HB)); rintro e w32 ⟨rfl, hb⟩; replace HO535 := Aside0.mk (Kd.R_below (by (with_reducible repeat (first | apply Kd.R_alloc | apply Kd.R_drewN | apply Kd.R_drew)); exact HO535.out) hb); replace BK518 := bb_ BK518 hb; replace BK526 := bb_ BK526 hb; replace HB := bs_ HB hb; (try clear hb); (try clear hb2); (try clear hk); (try clear hi); obtain ⟨Ao33, co33, eo33⟩ := Kd.R_slice HO535.out; subst eo33; have p538 : 0 ≤ (1 : Int) := (by omega); have q538 : 1 < (t533.length : Int) := of_decide_eq_true (by first | (with_reducible assumption) | assumption); obtain ⟨ad538, e538, hx538_0, hx538_1, hx538_2, hx538_3⟩ := at_T38 (Kd.R_reads' HO535.out).2.2 1 p538 q538; cases e538; (try simp only [show (1 : Int).toNat = 1 from rfl, Nat.reduceMul, Nat.reduceEqDiff, Go.Addr.add, ↓reduceIte] at hx538_0); (try simp only [show (1 : Int).toNat = 1 from rfl, Nat.reduceMul, Nat.reduceEqDiff, Go.Addr.add, ↓reduceIte] at hx538_1); (try simp only [show (1 : Int).toNat = 1 from rfl, Nat.reduceMul, Nat.reduceEqDiff, Go.Addr.add, ↓reduceIte] at hx538_2); (try simp only [show (1 : Int).toNat = 1 from rfl, Nat.reduceMul, Nat.reduceEqDiff, Go.Addr.add, ↓reduceIte] at hx538_3); have qi538 : (1 < t533.length) = True := eq_true (by omega); (try rw [show ((1 : Int)).toNat = 1 from rfl] at hx538_0); (try rw [show 1 * 4 = 4 from rfl] at hx538_0); (try rw [show ((1 : Int)).toNat = 1 from rfl] at hx538_1); (try rw [show 1 * 4 = 4 from rfl] at hx538_1); (try rw [show ((1 : Int)).toNat = 1 from rfl] at hx538_2); (try rw [show 1 * 4 = 4 from rfl] at hx538_2); (try rw [show ((1 : Int)).toNat = 1 from rfl] at hx538_3); (try rw [show 1 * 4 = 4 from rfl] at hx538_3); replace p538 := eq_true p538; replace q538 := eq_true q538) | (go_at_call 27; (with_reducible refine (prefix_Print.calls ((rd_T38 t533 1).f0.f0) ((rd_T38 t533 1).f0.f1.f0) ((rd_T38 t533 1).f0.f1.f1) ((rd_T38 t533 1).f1) t539 _ ?side1 A13.out).mono ?_); (case side1 => exact glob_keep HGLB.out (pb_ HB)); rintro e w34 ⟨rfl, hb⟩; replace HO535 := Aside0.mk (Kd.R_below (by (with_reducible repeat (first | apply Kd.R_alloc | apply Kd.R_drewN | apply Kd.R_drew)); exact HO535.out) hb); replace BK518 := bb_ BK518 hb; replace BK526 := bb_ BK526 hb; replace HB := bs_ HB hb; (try clear hb); (try clear hb2); (try clear hk); (try clear hi)))
      go_ret
      exact ⟨by first | rfl | (simp [errW_none, errW_some] <;> rfl) | (simp [*, errW_none, errW_some] <;> rfl), pb_ HB⟩
     ·
      rw [if_neg c12] at H
      exact absurd H (by simp)
    ·
     rw [if_neg c11] at H
     have c11b0 : ((t533.length : Int) == 3) = false := beq_eq_false_iff_ne.mpr c11
     have c11b1 : ((t533.length : Int) != 3) = true := bne_iff_ne.mpr c11
     obtain rfl := Option.some.inj H
     exact absurd HRT.out (by decide)
   ·
    rw [if_neg c10] at H
    have c10b0 : (t536 == 0) = false := beq_eq_false_iff_ne.mpr c10
    have c10b1 : (t536 != 0) = true := bne_iff_ne.mpr c10
    obtain rfl := Option.some.inj H
    exact absurd HRT.out (by decide)
  ·
   rw [if_neg c9] at H
   have c9b0 : (t537.toList == ([49, 48, 46, 49, 46, 49, 46, 48, 47, 50, 52] : List UInt8)) = false := beq_eq_false_iff_ne.mpr c9
   have c9b1 : (t537.toList != ([49, 48, 46, 49, 46, 49, 46, 48, 47, 50, 52] : List UInt8)) = true := bne_iff_ne.mpr c9
   obtain rfl := Option.some.inj H
   exact absurd HRT.out (by decide)
 ·
  rw [if_neg c7] at H
  have c7b0 : (t525 == 0) = false := beq_eq_false_iff_ne.mpr c7
  have c7b1 : (t525 != 0) = true := bne_iff_ne.mpr c7
  obtain rfl := Option.some.inj H
  exact absurd HRT.out (by decide)

def platbookref04_Cuts.f (k : Nat) (a0_0 : Bool) (a0_1 : Int) (a0_2 : Int) (a0_3 : Int) (a1 : Int) : Option (Bool) := (platbookref03_Right.f k a0_0 a0_1 a0_2 a0_3).bind fun t553 => (if t553 = true then (if a1 ≥ a0_3 then ((platbookref02_Width.f a0_0 a0_1 a0_2).bind fun t554 => (some (decide (a1 ≤ t554)))) else (some false)) else (some false))
set_option maxHeartbeats 8000000 in
set_option maxRecDepth 100000 in
theorem platbookref04_Cuts.calls (k : Nat) (a0_0 : Bool) (a0_1 : Int) (a0_2 : Int) (a0_3 : Int) (a1 : Int) (r : Bool) (w : World) (h : platbookref04_Cuts.f k a0_0 a0_1 a0_2 a0_3 a1 = some r) :
  Calls Tryz.prog 55 #[.agg #[.bool a0_0, .int .u64 a0_1, .int .u64 a0_2, .int .i64 a0_3], .int .i64 a1] w fun e w' => e = .returned (.bool r) ∧ Below w.heap.size w w' := by
 have hu38 := Tryz.underlying38
 have hu26 := Tryz.underlying26
 have HB := Aside0.mk (Below.refl w.heap.size w)
 have H : ((platbookref03_Right.f k a0_0 a0_1 a0_2 a0_3).bind fun t553 => (if t553 = true then (if a1 ≥ a0_3 then ((platbookref02_Width.f a0_0 a0_1 a0_2).bind fun t554 => (some (decide (a1 ≤ t554)))) else (some false)) else (some false))) = some r := h
 clear h
 replace H := Option.bind_eq_some_iff.mp H
 obtain ⟨t553, A30, H⟩ := H
 replace H : (if t553 = true then (if a1 ≥ a0_3 then ((platbookref02_Width.f a0_0 a0_1 a0_2).bind fun t554 => (some (decide (a1 ≤ t554)))) else (some false)) else (some false)) = some r := H
 have A3 := Aside0.mk A30
 clear A30
 by_cases c4 : t553 = true
 ·
  subst c4
  rw [if_pos rfl] at H
  by_cases c5 : a1 ≥ a0_3
  ·
   rw [if_pos c5] at H
   have c5b0 : decide (a0_3 ≤ a1) = true := decide_eq_true c5
   clear c5
   replace H := Option.bind_eq_some_iff.mp H
   obtain ⟨t554, A60, H⟩ := H
   replace H : (some (decide (a1 ≤ t554))) = some r := H
   have A6 := Aside0.mk A60
   clear A60
   obtain rfl := Option.some.inj H
   go_enter Tryz.func55, Tryz.ntmps55
   go_wp2_with (first | ((with_reducible refine gate_dst (N := 2) rfl ?_); refine bx_ 2 #[.bool a0_0, .int .u64 a0_1, .int .u64 a0_2, .int .i64 a0_3] 38 ?_; intro gb552 hg w7 hbox hb; have BK552 := Aside0.mk (hbox); have GW552 := gw_ HB hg; have GE552 := gw_ HB hg; replace HB := bs_ HB hb; clear hb hbox hg; obtain ⟨hcz8_0, hcz8_1, hcz8_2, hcz8_3, hfz8_0, hfz8_1, hfz8_2, hfz8_3⟩ := c4_ BK552) | ((with_reducible refine gate_callee (f := 29) rfl ?_); refine gl_ (some 6) Tryz.func29 #[.agg #[.bool a0_0, .int .u64 a0_1, .int .u64 a0_2, .int .i64 a0_3]] ?_; (with_reducible refine (platbookref03_Right.calls k a0_0 a0_1 a0_2 a0_3 true _ A3.out).mono ?_); rintro e w9 ⟨rfl, hb⟩; refine ⟨_, rfl, ?_⟩; replace BK552 := bb_ BK552 hb; replace HB := bs_ HB hb; (try clear hb); (try clear hb2); (try clear hk); (try clear hi); obtain ⟨hcz10_0, hcz10_1, hcz10_2, hcz10_3, hfz10_0, hfz10_1, hfz10_2, hfz10_3⟩ := c4_ BK552) | (go_at_call 23; (with_reducible refine (platbookref02_Width.calls a0_0 a0_1 a0_2 t554 _ A6.out).mono ?_); rintro e w11 ⟨rfl, hb⟩; replace BK552 := bb_ BK552 hb; replace HB := bs_ HB hb; (try clear hb); (try clear hb2); (try clear hk); (try clear hi)))
   go_ret
   exact ⟨by first | rfl | (simp [errW_none, errW_some] <;> rfl) | (simp [*, errW_none, errW_some] <;> rfl), pb_ HB⟩
  ·
   rw [if_neg c5] at H
   have c5b0 : decide (a0_3 ≤ a1) = false := decide_eq_false c5
   clear c5
   obtain rfl := Option.some.inj H
   go_enter Tryz.func55, Tryz.ntmps55
   go_wp2_with (first | ((with_reducible refine gate_dst (N := 2) rfl ?_); refine bx_ 2 #[.bool a0_0, .int .u64 a0_1, .int .u64 a0_2, .int .i64 a0_3] 38 ?_; intro gb552 hg w12 hbox hb; have BK552 := Aside0.mk (hbox); have GW552 := gw_ HB hg; have GE552 := gw_ HB hg; replace HB := bs_ HB hb; clear hb hbox hg; obtain ⟨hcz13_0, hcz13_1, hcz13_2, hcz13_3, hfz13_0, hfz13_1, hfz13_2, hfz13_3⟩ := c4_ BK552) | ((with_reducible refine gate_callee (f := 29) rfl ?_); refine gl_ (some 6) Tryz.func29 #[.agg #[.bool a0_0, .int .u64 a0_1, .int .u64 a0_2, .int .i64 a0_3]] ?_; (with_reducible refine (platbookref03_Right.calls k a0_0 a0_1 a0_2 a0_3 true _ A3.out).mono ?_); rintro e w14 ⟨rfl, hb⟩; refine ⟨_, rfl, ?_⟩; replace BK552 := bb_ BK552 hb; replace HB := bs_ HB hb; (try clear hb); (try clear hb2); (try clear hk); (try clear hi); obtain ⟨hcz15_0, hcz15_1, hcz15_2, hcz15_3, hfz15_0, hfz15_1, hfz15_2, hfz15_3⟩ := c4_ BK552))
   go_ret
   exact ⟨by first | rfl | (simp [errW_none, errW_some] <;> rfl) | (simp [*, errW_none, errW_some] <;> rfl), pb_ HB⟩
 ·
  replace c4 := Bool.eq_false_iff.mpr c4
  subst c4
  have H1 : (some false) = some r := by rw [if_neg (show ¬ (false = true) by decide)] at H; exact H
  clear H
  have H := H1
  clear H1
  obtain rfl := Option.some.inj H
  go_enter Tryz.func55, Tryz.ntmps55
  go_wp2_with (first | ((with_reducible refine gate_dst (N := 2) rfl ?_); refine bx_ 2 #[.bool a0_0, .int .u64 a0_1, .int .u64 a0_2, .int .i64 a0_3] 38 ?_; intro gb552 hg w16 hbox hb; have BK552 := Aside0.mk (hbox); have GW552 := gw_ HB hg; have GE552 := gw_ HB hg; replace HB := bs_ HB hb; clear hb hbox hg; obtain ⟨hcz17_0, hcz17_1, hcz17_2, hcz17_3, hfz17_0, hfz17_1, hfz17_2, hfz17_3⟩ := c4_ BK552) | ((with_reducible refine gate_callee (f := 29) rfl ?_); refine gl_ (some 6) Tryz.func29 #[.agg #[.bool a0_0, .int .u64 a0_1, .int .u64 a0_2, .int .i64 a0_3]] ?_; (with_reducible refine (platbookref03_Right.calls k a0_0 a0_1 a0_2 a0_3 false _ A3.out).mono ?_); rintro e w18 ⟨rfl, hb⟩; refine ⟨_, rfl, ?_⟩; replace BK552 := bb_ BK552 hb; replace HB := bs_ HB hb; (try clear hb); (try clear hb2); (try clear hk); (try clear hi)))
  go_ret
  exact ⟨by first | rfl | (simp [errW_none, errW_some] <;> rfl) | (simp [*, errW_none, errW_some] <;> rfl), pb_ HB⟩

end Go.Proofs.YtgdgklibilddgaaGreatDoor.PPr

namespace Go.Proofs.YtgdgklibilddgaaGreatDoor.PPr
open Go.RowKit Go.Proofs.YtgdgklibilddgaaGreatDoorW.PrintWords Go.Proofs.YtgdgklibilddgaaGreatDoorW.PrintLast Go.Proofs.YtgdgklibilddgaaGreatDoorW.PrintMore
attribute [local go_sem] max2_int min2_int max_two min_two max_three min_three max_four min_four   -- for this text's walks alone

end Go.Proofs.YtgdgklibilddgaaGreatDoor.PPr

namespace Go.Proofs.YtgdgklibilddgaaGreatDoor.PPr
open Go.RowKit Go.Proofs.YtgdgklibilddgaaGreatDoorW.PrintWords Go.Proofs.YtgdgklibilddgaaGreatDoorW.PrintLast Go.Proofs.YtgdgklibilddgaaGreatDoorW.PrintMore
attribute [local go_sem] max2_int min2_int max_two min_two max_three min_three max_four min_four   -- for this text's walks alone

end Go.Proofs.YtgdgklibilddgaaGreatDoor.PPr

namespace Go.Proofs.YtgdgklibilddgaaGreatDoor.PPr
open Go.RowKit Go.Proofs.YtgdgklibilddgaaGreatDoorW.PrintWords Go.Proofs.YtgdgklibilddgaaGreatDoorW.PrintLast Go.Proofs.YtgdgklibilddgaaGreatDoorW.PrintMore
attribute [local go_sem] max2_int min2_int max_two min_two max_three min_three max_four min_four   -- for this text's walks alone

attribute [local go_sem high] eqA24 eqA26 eqA38
def carve_below.f (a0_0 : Bool) (a0_1 : Int) (a0_2 : Int) (a0_3 : Int) (a1_0 : Bool) (a1_1 : Int) (a1_2 : Int) (a2 : Int) : Option (Int × Int) := (addr_Width.f a1_0 a1_1 a1_2).bind fun t654 => ((num_Ones.f (wrap64 (t654 - a0_3))).bind fun bt655 => ((num_And.f a1_1 a1_2 bt655.1 bt655.2).bind fun bt657 => ((num_Shr.f bt657.1 bt657.2 a2).bind fun bt659 => (some (bt659.1, bt659.2)))))
def carve_below.T1 : Bool × List (List Nat × List Nat) := (true, [([], []), ([0], [0]), ([], []), ([2], [2]), ([], []), ([4], [4]), ([3, 5], [3, 5]), ([6, 3], [6]), ([1, 7, 7], [1, 7]), ([], []), ([8, 9, 8], [8, 9]), ([10, 10, 0, 1, 2, 3, 4, 5, 6, 7, 8, 9, 10], [10])])
def carve_below.B1 : List Nat := [0, 1, 0, 4, 0, 16, 60, 124, 255, 0, 1023, 2047]
theorem carve_below.tab1 : rtab .any (opsOf Tryz.f95 1) = carve_below.T1 := by kernel_rfl
theorem carve_below.bits1 : waitsOk carve_below.T1.2 carve_below.B1 = true := by kernel_rfl
set_option maxHeartbeats 8000000 in
set_option maxRecDepth 100000 in
theorem carve_below.calls (a0_0 : Bool) (a0_1 : Int) (a0_2 : Int) (a0_3 : Int) (a1_0 : Bool) (a1_1 : Int) (a1_2 : Int) (a2 : Int) (r1 : Int) (r2 : Int) (w : World) (h : carve_below.f a0_0 a0_1 a0_2 a0_3 a1_0 a1_1 a1_2 a2 = some (r1, r2)) :
  Calls Tryz.prog 95 #[.agg #[.bool a0_0, .int .u64 a0_1, .int .u64 a0_2, .int .i64 a0_3], .agg #[.bool a1_0, .int .u64 a1_1, .int .u64 a1_2], .int .i64 a2] w fun e w' => e = .returned (.agg #[.int .u64 r1, .int .u64 r2]) ∧ Below w.heap.size w w' := by
 have hu38 := Tryz.underlying38
 have hu26 := Tryz.underlying26
 have hu24 := Tryz.underlying24
 have HB := Aside0.mk (Below.refl w.heap.size w)
 have H : ((addr_Width.f a1_0 a1_1 a1_2).bind fun t654 => ((num_Ones.f (wrap64 (t654 - a0_3))).bind fun bt655 => ((num_And.f a1_1 a1_2 bt655.1 bt655.2).bind fun bt657 => ((num_Shr.f bt657.1 bt657.2 a2).bind fun bt659 => (some (bt659.1, bt659.2)))))) = some (r1, r2) := h
 clear h
 replace H := Option.bind_eq_some_iff.mp H
 obtain ⟨t654, A40, H⟩ := H
 replace H : ((num_Ones.f (wrap64 (t654 - a0_3))).bind fun bt655 => ((num_And.f a1_1 a1_2 bt655.1 bt655.2).bind fun bt657 => ((num_Shr.f bt657.1 bt657.2 a2).bind fun bt659 => (some (bt659.1, bt659.2))))) = some (r1, r2) := H
 have A4 := Aside0.mk A40
 clear A40
 replace H := Option.bind_eq_some_iff.mp H
 obtain ⟨⟨t655, t656⟩, A50, H⟩ := H
 replace H : ((num_And.f a1_1 a1_2 t655 t656).bind fun bt657 => ((num_Shr.f bt657.1 bt657.2 a2).bind fun bt659 => (some (bt659.1, bt659.2)))) = some (r1, r2) := H
 have A5 := Aside0.mk A50
 clear A50
 replace H := Option.bind_eq_some_iff.mp H
 obtain ⟨⟨t657, t658⟩, A60, H⟩ := H
 replace H : ((num_Shr.f t657 t658 a2).bind fun bt659 => (some (bt659.1, bt659.2))) = some (r1, r2) := H
 have A6 := Aside0.mk A60
 clear A60
 replace H := Option.bind_eq_some_iff.mp H
 obtain ⟨⟨t659, t660⟩, A70, H⟩ := H
 replace H : (some (t659, t660)) = some (r1, r2) := H
 have A7 := Aside0.mk A70
 clear A70
 simp only [Option.some.injEq, Prod.mk.injEq] at H
 obtain ⟨rfl, rfl⟩ := H
 go_enter Tryz.func95, Tryz.ntmps95
 try go_wp2_with (first | ((with_reducible refine gate_dst (N := 3) rfl ?_); refine bx_ 3 #[.bool a0_0, .int .u64 a0_1, .int .u64 a0_2, .int .i64 a0_3] 38 ?_; intro gb651 hg w8 hbox hb; have BK651 := Aside0.mk (hbox); have GW651 := gw_ HB hg; have GE651 := gw_ HB hg; replace HB := bs_ HB hb; clear hb hbox hg) | ((with_reducible refine gate_dst (N := 4) rfl ?_); refine bx_ 4 #[.bool a1_0, .int .u64 a1_1, .int .u64 a1_2] 26 ?_; intro gb652 hg w9 hbox hb; have BK652 := Aside0.mk (hbox); have GW652 := gw_ HB hg; have GE652 := gw_ HB hg; have NB651_652 := nl_ BK651 hg; have NB652_651 := ng_ BK651 hg; replace BK651 := bb_ BK651 hb; replace HB := bs_ HB hb; clear hb hbox hg) | ((with_reducible refine gate_dst (N := 6) rfl ?_); refine bx_ 6 #[.int .u64 0, .int .u64 0] 24 ?_; intro gb653 hg w10 hbox hb; have BK653 := Aside0.mk (hbox); have GW653 := gw_ HB hg; have GE653 := gw_ HB hg; have NB651_653 := nl_ BK651 hg; have NB653_651 := ng_ BK651 hg; have NB652_653 := nl_ BK652 hg; have NB653_652 := ng_ BK652 hg; replace BK651 := bb_ BK651 hb; replace BK652 := bb_ BK652 hb; replace HB := bs_ HB hb; clear hb hbox hg))
 replace BK651 := Aside0.mk (blk_drew BK651.out)
 replace BK652 := Aside0.mk (blk_drew BK652.out)
 replace BK653 := Aside0.mk (blk_drew BK653.out)
 replace HB := Aside0.mk (below_drew1 HB.out)
 refine start_ (n := 12) (S := fun w' => w'.cell? ⟨gb652, 0, none⟩ = some (.bool a1_0) ∧ w'.cell? ⟨gb652, 1, none⟩ = some (.int .u64 a1_1) ∧ w'.cell? ⟨gb652, 2, none⟩ = some (.int .u64 a1_2) ∧ w'.cell? ⟨gb651, 0, none⟩ = some (.bool a0_0) ∧ w'.cell? ⟨gb651, 1, none⟩ = some (.int .u64 a0_1) ∧ w'.cell? ⟨gb651, 2, none⟩ = some (.int .u64 a0_2) ∧ w'.cell? ⟨gb651, 3, none⟩ = some (.int .i64 a0_3)) (ds := []) (bm_ 12 0) (by kernel_rfl) rfl rfl ⟨kc_ BK652 0, kc_ BK652 1, kc_ BK652 2, kc_ BK651 0, kc_ BK651 1, kc_ BK651 2, kc_ BK651 3⟩ (fun hHeld => ?_); refine with_tabW carve_below.tab1 carve_below.bits1 (fun HT_ HW_ => ?_)
 generalize w10.drew = w11 at BK651 BK652 BK653 HB hHeld ⊢
 refine pu_ 0 (some 7) (bm_ 12 1) rfl HT_ ⟨by rfl, by intro w'; go_simp; with_reducible rfl⟩ ?_
 refine pu_ 4 (some 11) (bm_ 12 17) rfl HT_ ⟨by rfl, by intro w'; go_simp; with_reducible rfl⟩ ?_
 refine pu_ 9 (some 16) (bm_ 12 529) rfl HT_ ⟨by rfl, by intro w'; go_simp; with_reducible rfl⟩ ?_
 refine ta_ 1 (some 8) (bm_ 12 531) rfl HT_ HW_ ⟨by rfl, by rintro w' ⟨s0, s1, s2, s3, s4, s5, s6⟩; go_simp; with_reducible rfl⟩ hHeld ?_
 refine ta_ 2 (some 9) (bm_ 12 535) rfl HT_ HW_ ⟨by rfl, by rintro w' ⟨s0, s1, s2, s3, s4, s5, s6⟩; go_simp; with_reducible rfl⟩ hHeld ?_
 refine ta_ 5 (some 12) (bm_ 12 567) rfl HT_ HW_ ⟨by rfl, by rintro w' ⟨s0, s1, s2, s3, s4, s5, s6⟩; go_simp; with_reducible rfl⟩ hHeld ?_
 refine one_ (i := 3) (N := some 10) (bm_ 12 575) rfl rfl (one_of HT_.out (by kernel_rfl)) (by decide) (fun K hK => ?_)
 refine gr_ Tryz.func22 #[.agg #[.bool a1_0, .int .u64 a1_1, .int .u64 a1_2]] ?_
 with_reducible refine (addr_Width.calls a1_0 a1_1 a1_2 t654 _ A4.out).mono ?_
 rintro e w12 ⟨rfl, hb⟩
 refine ⟨_, rfl, ?_⟩
 replace BK651 := bb_ BK651 hb
 replace BK652 := bb_ BK652 hb
 replace BK653 := bb_ BK653 hb
 replace HB := bs_ HB hb
 (try clear hb)
 (try clear hb2)
 (try clear hk)
 (try clear hi)
 refine hK.out _ _ ⟨kc_ BK652 0, kc_ BK652 1, kc_ BK652 2, kc_ BK651 0, kc_ BK651 1, kc_ BK651 2, kc_ BK651 3⟩ (fun hHeld => ?_)
 clear hK K
 refine norm_ (a' := ?_) ?_ ?_
 rotate_left
 ·
  show Act.put _ (some 10) _ = _
  simp only [Act.put, List.setIfInBounds_toArray, List.set_cons_zero, List.set_cons_succ, i64_w, i32_w]
  rfl
 refine pu_ 6 (some 13) (bm_ 12 639) rfl HT_ ⟨by rfl, by intro w'; go_simp; with_reducible rfl⟩ ?_
 refine one_ (i := 7) (N := some 14) (bm_ 12 767) rfl rfl (one_of HT_.out (by kernel_rfl)) (by decide) (fun K hK => ?_)
 refine gr_ Tryz.func119 #[.int .i64 (wrap64 (t654 - a0_3))] ?_
 with_reducible refine (num_Ones.calls (wrap64 (t654 - a0_3)) t655 t656 _ A5.out).mono ?_
 rintro e w13 ⟨rfl, hb⟩
 refine ⟨_, rfl, ?_⟩
 replace BK651 := bb_ BK651 hb
 replace BK652 := bb_ BK652 hb
 replace BK653 := bb_ BK653 hb
 replace HB := bs_ HB hb
 (try clear hb)
 (try clear hb2)
 (try clear hk)
 (try clear hi)
 refine hK.out _ _ ⟨kc_ BK652 0, kc_ BK652 1, kc_ BK652 2, kc_ BK651 0, kc_ BK651 1, kc_ BK651 2, kc_ BK651 3⟩ (fun hHeld => ?_)
 clear hK K
 refine norm_ (a' := ?_) ?_ ?_
 rotate_left
 ·
  show Act.put _ (some 14) _ = _
  simp only [Act.put, List.setIfInBounds_toArray, List.set_cons_zero, List.set_cons_succ, i64_w, i32_w]
  rfl
 refine one_ (i := 8) (N := some 15) (bm_ 12 1023) rfl rfl (one_of HT_.out (by kernel_rfl)) (by decide) (fun K hK => ?_)
 refine gr_ Tryz.func79 #[.agg #[.int .u64 a1_1, .int .u64 a1_2], .agg #[.int .u64 t655, .int .u64 t656]] ?_
 with_reducible refine (num_And.calls a1_1 a1_2 t655 t656 t657 t658 _ A6.out).mono ?_
 rintro e w14 ⟨rfl, hb⟩
 refine ⟨_, rfl, ?_⟩
 replace BK651 := bb_ BK651 hb
 replace BK652 := bb_ BK652 hb
 replace BK653 := bb_ BK653 hb
 replace HB := bs_ HB hb
 (try clear hb)
 (try clear hb2)
 (try clear hk)
 (try clear hi)
 refine hK.out _ _ ⟨kc_ BK652 0, kc_ BK652 1, kc_ BK652 2, kc_ BK651 0, kc_ BK651 1, kc_ BK651 2, kc_ BK651 3⟩ (fun hHeld => ?_)
 clear hK K
 refine norm_ (a' := ?_) ?_ ?_
 rotate_left
 ·
  show Act.put _ (some 15) _ = _
  simp only [Act.put, List.setIfInBounds_toArray, List.set_cons_zero, List.set_cons_succ, i64_w, i32_w]
  rfl
 refine one_ (i := 10) (N := some 17) (bm_ 12 2047) rfl rfl (one_of HT_.out (by kernel_rfl)) (by decide) (fun K hK => ?_)
 refine gr_ Tryz.func56 #[.agg #[.int .u64 t657, .int .u64 t658], .int .i64 a2] ?_
 with_reducible refine (num_Shr.calls t657 t658 a2 t659 t660 _ A7.out).mono ?_
 rintro e w15 ⟨rfl, hb⟩
 refine ⟨_, rfl, ?_⟩
 replace BK651 := bb_ BK651 hb
 replace BK652 := bb_ BK652 hb
 replace BK653 := bb_ BK653 hb
 replace HB := bs_ HB hb
 (try clear hb)
 (try clear hb2)
 (try clear hk)
 (try clear hi)
 refine hK.out _ _ ⟨kc_ BK652 0, kc_ BK652 1, kc_ BK652 2, kc_ BK651 0, kc_ BK651 1, kc_ BK651 2, kc_ BK651 3⟩ (fun hHeld => ?_)
 clear hK K
 refine norm_ (a' := ?_) ?_ ?_
 rotate_left
 ·
  show Act.put _ (some 17) _ = _
  simp only [Act.put, List.setIfInBounds_toArray, List.set_cons_zero, List.set_cons_succ, i64_w, i32_w]
  rfl
 refine one_ (i := 11) (N := none) (bm_ 12 4095) rfl rfl (one_of HT_.out (by kernel_rfl)) (by decide) (fun K hK => ?_)
 have hs16 : w15.cell? ⟨gb653, 0, none⟩ = some (.int .u64 0) := kc_ BK653 0
 have hfs16 := blk_frozen BK653.out 0
 have hns16_0 := NB651_653.out
 have hns16_1 := NB652_653.out
 have hms16_0 := NB653_651.out
 have hms16_1 := NB653_652.out
 have hs17 : w15.cell? ⟨gb653, 1, none⟩ = some (.int .u64 0) := kc_ BK653 1
 have hfs17 := blk_frozen BK653.out 1
 have hns17_0 := NB651_653.out
 have hns17_1 := NB652_653.out
 have hms17_0 := NB653_651.out
 have hms17_1 := NB653_652.out
 refine skip_ (w1 := ?_) (by rfl) rfl ?_ ?_
 rotate_left
 ·
  go_simp
  rfl
 refine hK.out _ _ ⟨((cell_far (p := ⟨gb653, _, none⟩) NB652_653.out _).trans (((cell_far (p := ⟨gb653, _, none⟩) NB652_653.out _).trans (hHeld.1)))), ((cell_far (p := ⟨gb653, _, none⟩) NB652_653.out _).trans (((cell_far (p := ⟨gb653, _, none⟩) NB652_653.out _).trans (hHeld.2.1)))), ((cell_far (p := ⟨gb653, _, none⟩) NB652_653.out _).trans (((cell_far (p := ⟨gb653, _, none⟩) NB652_653.out _).trans (hHeld.2.2.1)))), ((cell_far (p := ⟨gb653, _, none⟩) NB651_653.out _).trans (((cell_far (p := ⟨gb653, _, none⟩) NB651_653.out _).trans (hHeld.2.2.2.1)))), ((cell_far (p := ⟨gb653, _, none⟩) NB651_653.out _).trans (((cell_far (p := ⟨gb653, _, none⟩) NB651_653.out _).trans (hHeld.2.2.2.2.1)))), ((cell_far (p := ⟨gb653, _, none⟩) NB651_653.out _).trans (((cell_far (p := ⟨gb653, _, none⟩) NB651_653.out _).trans (hHeld.2.2.2.2.2.1)))), ((cell_far (p := ⟨gb653, _, none⟩) NB651_653.out _).trans (((cell_far (p := ⟨gb653, _, none⟩) NB651_653.out _).trans (hHeld.2.2.2.2.2.2))))⟩ (fun hHeld => ?_)
 clear hK K
 refine done_ (done_of HT_.out (by kernel_rfl)) ?_
 try go_wp2
 refine bodyPost_ret (results_cell_row rfl _ _ gb653 24 #[.int .u64 t659, .int .u64 t660] (0, 0) _ rfl (by refine pw_ ?_; refine blk_put (cs := #[.int .u64 t659, .int .u64 0]) ?_ 1 _ rfl; refine pw_ ?_; refine blk_put (cs := #[.int .u64 0, .int .u64 0]) ?_ 0 _ rfl; refine pw_ ?_; exact BK653.out) Tryz.underlying24 rfl (by kernel_rfl)) rfl ?_
 exact ⟨by first | rfl | (simp [errW_none, errW_some] <;> rfl) | (simp [*, errW_none, errW_some] <;> rfl), pb_ HB⟩

end Go.Proofs.YtgdgklibilddgaaGreatDoor.PPr

namespace Go.Proofs.YtgdgklibilddgaaGreatDoor.PPr
open Go.RowKit Go.Proofs.YtgdgklibilddgaaGreatDoorW.PrintWords Go.Proofs.YtgdgklibilddgaaGreatDoorW.PrintLast Go.Proofs.YtgdgklibilddgaaGreatDoorW.PrintMore
attribute [local go_sem] max2_int min2_int max_two min_two max_three min_three max_four min_four   -- for this text's walks alone

mutual
def carve_Span.j0 : Nat → Int → Bool → Bool → Int → Int → Int → Bool → Int → Int → Int → Option (Int × Int × Int × Int × Int)
 | 0, _, _, _, _, _, _, _, _, _, _ => none
 | k + 1, x1, x10, x705000, x705001, x705002, x705003, x706000, x706001, x706002, x706003 => if x10 = true then (some (0, 0, 0, 0, 1)) else ((prefix_Overlap.f k x705000 x705001 x705002 x705003 x706000 x706001 x706002 x706003).bind fun t710 => (if t710 = true then ((prefix_Within.f k x705000 x705001 x705002 x705003 x706000 x706001 x706002 x706003).bind fun t711 => (if t711 = true then (carve_Span.j1 k x1 x705000 x705001 x705002 x705003 x705000 x705001 x705002 x705003) else (carve_Span.j1 k x1 x705000 x705001 x705002 x705003 x706000 x706001 x706002 x706003))) else (some (0, 0, 0, 0, 12))))
def carve_Span.j1 : Nat → Int → Bool → Int → Int → Int → Bool → Int → Int → Int → Option (Int × Int × Int × Int × Int)
 | 0, _, _, _, _, _, _, _, _, _ => none
 | k + 1, x1, x705000, x705001, x705002, x705003, x706000, x706001, x706002, x706003 => (addr_Width.f x705000 x705001 x705002).bind fun t712 => ((carve_below.f x705000 x705001 x705002 x705003 x706000 x706001 x706002 (wrap64 (t712 - x1))).bind fun bt713 => ((prefix_Last.f x706000 x706001 x706002 x706003).bind fun bt715 => ((carve_below.f x705000 x705001 x705002 x705003 bt715.1 bt715.2.1 bt715.2.2 (wrap64 (t712 - x1))).bind fun bt718 => (some (bt713.1, bt713.2, bt718.1, bt718.2, 0)))))
end
def carve_Span.f (k : Nat) (a0_0 : Bool) (a0_1 : Int) (a0_2 : Int) (a0_3 : Int) (a1 : Int) (a2_0 : Bool) (a2_1 : Int) (a2_2 : Int) (a2_3 : Int) : Option (Int × Int × Int × Int × Int) := (carve_cuts.f a0_0 a0_1 a0_2 a0_3 a1).bind fun t708 => (if t708 = true then ((prefix_Right.f a2_0 a2_1 a2_2 a2_3).bind fun t709 => (carve_Span.j0 k a1 (!t709) a0_0 a0_1 a0_2 a0_3 a2_0 a2_1 a2_2 a2_3)) else (carve_Span.j0 k a1 true a0_0 a0_1 a0_2 a0_3 a2_0 a2_1 a2_2 a2_3))
def carve_Span.T8 : Bool × List (List Nat × List Nat) := (true, [([], []), ([], []), ([1], [1]), ([], []), ([0, 2, 3], [0, 2, 3]), ([], []), ([], []), ([6, 4], [6]), ([], []), ([5, 7, 8, 7], [5, 7, 8]), ([4, 9, 0, 1, 2, 3, 4], [4]), ([9, 10, 0, 1, 2, 3, 4, 5, 6, 7, 8, 9, 10], [9]), ([11, 0, 1, 2, 3, 4, 5, 6, 7, 8, 9, 10, 11], [])])
def carve_Span.B8 : List Nat := [0, 0, 2, 0, 15, 0, 0, 95, 0, 511, 1023, 2047, 4095]
theorem carve_Span.tab8 : rtab .any (opsOf Tryz.f57 8) = carve_Span.T8 := by kernel_rfl
theorem carve_Span.bits8 : waitsOk carve_Span.T8.2 carve_Span.B8 = true := by kernel_rfl
set_option maxHeartbeats 8000000 in
set_option maxRecDepth 100000 in
theorem carve_Span.calls (k : Nat) (a0_0 : Bool) (a0_1 : Int) (a0_2 : Int) (a0_3 : Int) (a1 : Int) (a2_0 : Bool) (a2_1 : Int) (a2_2 : Int) (a2_3 : Int) (r1 : Int) (r2 : Int) (r3 : Int) (r4 : Int) (r5 : Int) (w : World) (h : carve_Span.f k a0_0 a0_1 a0_2 a0_3 a1 a2_0 a2_1 a2_2 a2_3 = some (r1, r2, r3, r4, r5)) :
  Calls Tryz.prog 57 #[.agg #[.bool a0_0, .int .u64 a0_1, .int .u64 a0_2, .int .i64 a0_3], .int .i64 a1, .agg #[.bool a2_0, .int .u64 a2_1, .int .u64 a2_2, .int .i64 a2_3]] w fun e w' => e = .returned (.tuple #[.agg #[.int .u64 r1, .int .u64 r2], .agg #[.int .u64 r3, .int .u64 r4], .int .i64 r5]) ∧ Below w.heap.size w w' := by
 have hu38 := Tryz.underlying38
 have hu24 := Tryz.underlying24
 have hu26 := Tryz.underlying26
 have HB := Aside0.mk (Below.refl w.heap.size w)
 have H : ((carve_cuts.f a0_0 a0_1 a0_2 a0_3 a1).bind fun t708 => (if t708 = true then ((prefix_Right.f a2_0 a2_1 a2_2 a2_3).bind fun t709 => (carve_Span.j0 k a1 (!t709) a0_0 a0_1 a0_2 a0_3 a2_0 a2_1 a2_2 a2_3)) else (carve_Span.j0 k a1 true a0_0 a0_1 a0_2 a0_3 a2_0 a2_1 a2_2 a2_3))) = some (r1, r2, r3, r4, r5) := h
 clear h
 have HC4 := Aside0.mk H
 clear H
 go_enter Tryz.func57, Tryz.ntmps57
 go_upto_region 1 with (first | ((with_reducible refine gate_dst (N := 3) rfl ?_); refine bx_ 3 #[.bool a0_0, .int .u64 a0_1, .int .u64 a0_2, .int .i64 a0_3] 38 ?_; intro gb704 hg w5 hbox hb; have BK704 := Aside0.mk (hbox); have GW704 := gw_ HB hg; have GE704 := gw_ HB hg; replace HB := bs_ HB hb; clear hb hbox hg) | ((with_reducible refine gate_dst (N := 5) rfl ?_); refine bx_ 5 #[.bool a2_0, .int .u64 a2_1, .int .u64 a2_2, .int .i64 a2_3] 38 ?_; intro gb705 hg w6 hbox hb; have BK705 := Aside0.mk (hbox); have GW705 := gw_ HB hg; have GE705 := gw_ HB hg; have NB704_705 := nl_ BK704 hg; have NB705_704 := ng_ BK704 hg; replace BK704 := bb_ BK704 hb; replace HB := bs_ HB hb; clear hb hbox hg) | ((with_reducible refine gate_dst (N := 6) rfl ?_); refine bx_ 6 #[.int .u64 0, .int .u64 0] 24 ?_; intro gb706 hg w7 hbox hb; have BK706 := Aside0.mk (hbox); have GW706 := gw_ HB hg; have GE706 := gw_ HB hg; have NB704_706 := nl_ BK704 hg; have NB706_704 := ng_ BK704 hg; have NB705_706 := nl_ BK705 hg; have NB706_705 := ng_ BK705 hg; replace BK704 := bb_ BK704 hb; replace BK705 := bb_ BK705 hb; replace HB := bs_ HB hb; clear hb hbox hg) | ((with_reducible refine gate_dst (N := 7) rfl ?_); refine bx_ 7 #[.int .u64 0, .int .u64 0] 24 ?_; intro gb707 hg w8 hbox hb; have BK707 := Aside0.mk (hbox); have GW707 := gw_ HB hg; have GE707 := gw_ HB hg; have NB704_707 := nl_ BK704 hg; have NB707_704 := ng_ BK704 hg; have NB705_707 := nl_ BK705 hg; have NB707_705 := ng_ BK705 hg; have NB706_707 := nl_ BK706 hg; have NB707_706 := ng_ BK706 hg; replace BK704 := bb_ BK704 hb; replace BK705 := bb_ BK705 hb; replace BK706 := bb_ BK706 hb; replace HB := bs_ HB hb; clear hb hbox hg))
 (try simp only [Act.put, List.setIfInBounds_toArray, List.set_cons_zero, List.set_cons_succ])
 go_cut [10] (fun v10 wc => ∃ (kq : Nat) (x10_3 : Bool), v10 = .bool x10_3 ∧ Aside0 (carve_Span.j0 kq a1 x10_3 a0_0 a0_1 a0_2 a0_3 a2_0 a2_1 a2_2 a2_3 = some (r1, r2, r3, r4, r5)) ∧ Aside0 (kq ≤ k) ∧ Aside0 (wc.heap[gb704]? = some (.cells #[.bool a0_0, .int .u64 a0_1, .int .u64 a0_2, .int .i64 a0_3] 38 (0, 0))) ∧ Aside0 (wc.heap[gb705]? = some (.cells #[.bool a2_0, .int .u64 a2_1, .int .u64 a2_2, .int .i64 a2_3] 38 (0, 0))) ∧ Aside0 (wc.heap[gb706]? = some (.cells #[.int .u64 0, .int .u64 0] 24 (0, 0))) ∧ Aside0 (wc.heap[gb707]? = some (.cells #[.int .u64 0, .int .u64 0] 24 (0, 0))) ∧ Aside0 (Below w.heap.size w wc))
 case first =>
  have H := HC4.out
  clear HC4
  replace H := Option.bind_eq_some_iff.mp H
  obtain ⟨t708, A90, H⟩ := H
  replace H : (if t708 = true then ((prefix_Right.f a2_0 a2_1 a2_2 a2_3).bind fun t709 => (carve_Span.j0 k a1 (!t709) a0_0 a0_1 a0_2 a0_3 a2_0 a2_1 a2_2 a2_3)) else (carve_Span.j0 k a1 true a0_0 a0_1 a0_2 a0_3 a2_0 a2_1 a2_2 a2_3)) = some (r1, r2, r3, r4, r5) := H
  have A9 := Aside0.mk A90
  clear A90
  by_cases c10 : t708 = true
  ·
   subst c10
   rw [if_pos rfl] at H
   replace H := Option.bind_eq_some_iff.mp H
   obtain ⟨t709, A110, H⟩ := H
   replace H : (carve_Span.j0 k a1 (!t709) a0_0 a0_1 a0_2 a0_3 a2_0 a2_1 a2_2 a2_3) = some (r1, r2, r3, r4, r5) := H
   have A11 := Aside0.mk A110
   clear A110
   have H' := Aside0.mk H
   clear H
   have hnb12 := NB704_705.out
   have hnc12 := NB705_704.out
   have hnb13 := NB704_706.out
   have hnc13 := NB706_704.out
   have hnb14 := NB704_707.out
   have hnc14 := NB707_704.out
   obtain ⟨hcz15_0, hcz15_1, hcz15_2, hcz15_3, hfz15_0, hfz15_1, hfz15_2, hfz15_3⟩ := c4_ BK704
   go_wp2_with (first | ((with_reducible refine gate_callee (f := 89) rfl ?_); refine gl_ (some 13) Tryz.func89 #[.agg #[.bool a0_0, .int .u64 a0_1, .int .u64 a0_2, .int .i64 a0_3], .int .i64 a1] ?_; (with_reducible refine (carve_cuts.calls a0_0 a0_1 a0_2 a0_3 a1 true _ A9.out).mono ?_); rintro e w16 ⟨rfl, hb⟩; refine ⟨_, rfl, ?_⟩; replace BK704 := bb_ BK704 hb; replace BK705 := bb_ BK705 hb; replace BK706 := bb_ BK706 hb; replace BK707 := bb_ BK707 hb; replace HB := bs_ HB hb; (try clear hb); (try clear hb2); (try clear hk); (try clear hi); have hnb17 := NB705_706.out; have hnc17 := NB706_705.out; have hnb18 := NB705_707.out; have hnc18 := NB707_705.out; obtain ⟨hcz19_0, hcz19_1, hcz19_2, hcz19_3, hfz19_0, hfz19_1, hfz19_2, hfz19_3⟩ := c4_ BK705) | (go_at_call 36; (with_reducible refine (prefix_Right.calls a2_0 a2_1 a2_2 a2_3 t709 _ A11.out).mono ?_); rintro e w20 ⟨rfl, hb⟩; replace BK704 := bb_ BK704 hb; replace BK705 := bb_ BK705 hb; replace BK706 := bb_ BK706 hb; replace BK707 := bb_ BK707 hb; replace HB := bs_ HB hb; (try clear hb); (try clear hb2); (try clear hk); (try clear hi)))
   go_meet
   case rel => exact ⟨_, (!t709), (by first | rfl | (simp; done) | (simp [*]; done)), H', ⟨by first | omega | exact Nat.le_refl _⟩, ⟨by refine pw_ ?_; exact BK704.out⟩, ⟨by refine pw_ ?_; exact BK705.out⟩, ⟨by refine pw_ ?_; exact BK706.out⟩, ⟨by refine pw_ ?_; exact BK707.out⟩, ⟨pb_ HB⟩⟩
  ·
   replace c10 := Bool.eq_false_iff.mpr c10
   subst c10
   have H1 : (carve_Span.j0 k a1 true a0_0 a0_1 a0_2 a0_3 a2_0 a2_1 a2_2 a2_3) = some (r1, r2, r3, r4, r5) := by rw [if_neg (show ¬ (false = true) by decide)] at H; exact H
   clear H
   have H := H1
   clear H1
   have H' := Aside0.mk H
   clear H
   have hnb21 := NB704_705.out
   have hnc21 := NB705_704.out
   have hnb22 := NB704_706.out
   have hnc22 := NB706_704.out
   have hnb23 := NB704_707.out
   have hnc23 := NB707_704.out
   obtain ⟨hcz24_0, hcz24_1, hcz24_2, hcz24_3, hfz24_0, hfz24_1, hfz24_2, hfz24_3⟩ := c4_ BK704
   go_wp2_with (first | ((with_reducible refine gate_callee (f := 89) rfl ?_); refine gl_ (some 13) Tryz.func89 #[.agg #[.bool a0_0, .int .u64 a0_1, .int .u64 a0_2, .int .i64 a0_3], .int .i64 a1] ?_; (with_reducible refine (carve_cuts.calls a0_0 a0_1 a0_2 a0_3 a1 false _ A9.out).mono ?_); rintro e w25 ⟨rfl, hb⟩; refine ⟨_, rfl, ?_⟩; replace BK704 := bb_ BK704 hb; replace BK705 := bb_ BK705 hb; replace BK706 := bb_ BK706 hb; replace BK707 := bb_ BK707 hb; replace HB := bs_ HB hb; (try clear hb); (try clear hb2); (try clear hk); (try clear hi)))
   go_meet
   case rel => exact ⟨_, (true), (by first | rfl | (simp; done) | (simp [*]; done)), H', ⟨by first | omega | exact Nat.le_refl _⟩, ⟨by refine pw_ ?_; exact BK704.out⟩, ⟨by refine pw_ ?_; exact BK705.out⟩, ⟨by refine pw_ ?_; exact BK706.out⟩, ⟨by refine pw_ ?_; exact BK707.out⟩, ⟨pb_ HB⟩⟩
 case rest =>
  clear HC4
  try clear c1
  try clear c2
  try clear p2
  try clear c5
  try clear c8
  try clear c10
  try clear c12
  try clear c13
  try clear c14
  try clear c17
  try clear c18
  try clear c21
  try clear c22
  try clear c23
  try clear hcz15_0
  try clear hcz15_1
  try clear hcz15_2
  try clear hcz15_3
  try clear hcz19_0
  try clear hcz19_1
  try clear hcz19_2
  try clear hcz19_3
  try clear hcz24_0
  try clear hcz24_1
  try clear hcz24_2
  try clear hcz24_3
  try clear hfz15_0
  try clear hfz15_1
  try clear hfz15_2
  try clear hfz15_3
  try clear hfz19_0
  try clear hfz19_1
  try clear hfz19_2
  try clear hfz19_3
  try clear hfz24_0
  try clear hfz24_1
  try clear hfz24_2
  try clear hfz24_3
  obtain ⟨kq, x10_3, rfl, HA, HJ3, BK704, BK705, BK706, BK707, HB⟩ := hcut
  cases kq with
  | zero => exact absurd HA.out (by simp [carve_Span.j0])
  | succ kj3 =>
   have H := HA.out
   clear HA
   simp only [carve_Span.j0] at H
   by_cases c26 : x10_3 = true
   ·
    subst c26
    rw [if_pos rfl] at H
    simp only [Option.some.injEq, Prod.mk.injEq] at H
    obtain ⟨rfl, rfl, rfl, rfl, rfl⟩ := H
    have hnb27 := NB706_704.out
    have hnc27 := NB704_706.out
    have hnb28 := NB706_705.out
    have hnc28 := NB705_706.out
    have hnb29 := NB706_707.out
    have hnc29 := NB707_706.out
    obtain ⟨hcz30_0, hcz30_1, hfz30_0, hfz30_1⟩ := c2_ BK706
    have hnb31 := NB707_704.out
    have hnc31 := NB704_707.out
    have hnb32 := NB707_705.out
    have hnc32 := NB705_707.out
    obtain ⟨hcz33_0, hcz33_1, hfz33_0, hfz33_1⟩ := c2_ BK707
    go_wp2
    refine bodyPost_ret (results_list (rs := [.cell 6 24, .cell 7 24, .tmp 8]) rfl (by simp) (.cell gb706 24 #[.int .u64 0, .int .u64 0] (0, 0) _ rfl (by refine pw_ ?_; refine blk_far ?_ NB706_707.out _; refine pw_ ?_; refine blk_far ?_ NB706_707.out _; refine pw_ ?_; refine blk_put (cs := #[.int .u64 0, .int .u64 0]) ?_ 1 _ rfl; refine pw_ ?_; refine blk_put (cs := #[.int .u64 0, .int .u64 0]) ?_ 0 _ rfl; refine pw_ ?_; exact BK706.out) Tryz.underlying24 rfl (by kernel_rfl) (.cell gb707 24 #[.int .u64 0, .int .u64 0] (0, 0) _ rfl (by refine pw_ ?_; refine blk_put (cs := #[.int .u64 0, .int .u64 0]) ?_ 1 _ rfl; refine pw_ ?_; refine blk_put (cs := #[.int .u64 0, .int .u64 0]) ?_ 0 _ rfl; refine pw_ ?_; refine blk_far ?_ NB707_706.out _; refine pw_ ?_; refine blk_far ?_ NB707_706.out _; refine pw_ ?_; exact BK707.out) Tryz.underlying24 rfl (by kernel_rfl) (.tmp .nil)))) rfl ?_
    exact ⟨by first | rfl | (simp [errW_none, errW_some] <;> rfl) | (simp [*, errW_none, errW_some] <;> rfl), pb_ HB⟩
   ·
    replace c26 := Bool.eq_false_iff.mpr c26
    subst c26
    have H1 : ((prefix_Overlap.f kj3 a0_0 a0_1 a0_2 a0_3 a2_0 a2_1 a2_2 a2_3).bind fun t710 => (if t710 = true then ((prefix_Within.f kj3 a0_0 a0_1 a0_2 a0_3 a2_0 a2_1 a2_2 a2_3).bind fun t711 => (if t711 = true then (carve_Span.j1 kj3 a1 a0_0 a0_1 a0_2 a0_3 a0_0 a0_1 a0_2 a0_3) else (carve_Span.j1 kj3 a1 a0_0 a0_1 a0_2 a0_3 a2_0 a2_1 a2_2 a2_3))) else (some (0, 0, 0, 0, 12)))) = some (r1, r2, r3, r4, r5) := by rw [if_neg (show ¬ (false = true) by decide)] at H; exact H
    clear H
    have H := H1
    clear H1
    replace H := Option.bind_eq_some_iff.mp H
    obtain ⟨t710, A340, H⟩ := H
    replace H : (if t710 = true then ((prefix_Within.f kj3 a0_0 a0_1 a0_2 a0_3 a2_0 a2_1 a2_2 a2_3).bind fun t711 => (if t711 = true then (carve_Span.j1 kj3 a1 a0_0 a0_1 a0_2 a0_3 a0_0 a0_1 a0_2 a0_3) else (carve_Span.j1 kj3 a1 a0_0 a0_1 a0_2 a0_3 a2_0 a2_1 a2_2 a2_3))) else (some (0, 0, 0, 0, 12))) = some (r1, r2, r3, r4, r5) := H
    have A34 := Aside0.mk A340
    clear A340
    by_cases c35 : t710 = true
    ·
     subst c35
     rw [if_pos rfl] at H
     replace H := Option.bind_eq_some_iff.mp H
     obtain ⟨t711, A360, H⟩ := H
     replace H : (if t711 = true then (carve_Span.j1 kj3 a1 a0_0 a0_1 a0_2 a0_3 a0_0 a0_1 a0_2 a0_3) else (carve_Span.j1 kj3 a1 a0_0 a0_1 a0_2 a0_3 a2_0 a2_1 a2_2 a2_3)) = some (r1, r2, r3, r4, r5) := H
     have A36 := Aside0.mk A360
     clear A360
     have HC37 := Aside0.mk H
     clear H
     have hnb38 := NB704_705.out
     have hnc38 := NB705_704.out
     have hnb39 := NB704_706.out
     have hnc39 := NB706_704.out
     have hnb40 := NB704_707.out
     have hnc40 := NB707_704.out
     obtain ⟨hcz41_0, hcz41_1, hcz41_2, hcz41_3, hfz41_0, hfz41_1, hfz41_2, hfz41_3⟩ := c4_ BK704
     have hnb42 := NB705_706.out
     have hnc42 := NB706_705.out
     have hnb43 := NB705_707.out
     have hnc43 := NB707_705.out
     obtain ⟨hcz44_0, hcz44_1, hcz44_2, hcz44_3, hfz44_0, hfz44_1, hfz44_2, hfz44_3⟩ := c4_ BK705
     go_upto_if 31 with (first | ((with_reducible refine gate_callee (f := 43) rfl ?_); refine gl_ (some 25) Tryz.func43 #[.agg #[.bool a0_0, .int .u64 a0_1, .int .u64 a0_2, .int .i64 a0_3], .agg #[.bool a2_0, .int .u64 a2_1, .int .u64 a2_2, .int .i64 a2_3]] ?_; (with_reducible refine (prefix_Overlap.calls kj3 a0_0 a0_1 a0_2 a0_3 a2_0 a2_1 a2_2 a2_3 true _ A34.out).mono ?_); rintro e w45 ⟨rfl, hb⟩; refine ⟨_, rfl, ?_⟩; replace BK704 := bb_ BK704 hb; replace BK705 := bb_ BK705 hb; replace BK706 := bb_ BK706 hb; replace BK707 := bb_ BK707 hb; replace HB := bs_ HB hb; (try clear hb); (try clear hb2); (try clear hk); (try clear hi); obtain ⟨hcz46_0, hcz46_1, hcz46_2, hcz46_3, hfz46_0, hfz46_1, hfz46_2, hfz46_3⟩ := c4_ BK704; obtain ⟨hcz47_0, hcz47_1, hcz47_2, hcz47_3, hfz47_0, hfz47_1, hfz47_2, hfz47_3⟩ := c4_ BK705) | ((with_reducible refine gate_callee (f := 32) rfl ?_); refine gl_ (some 31) Tryz.func32 #[.agg #[.bool a0_0, .int .u64 a0_1, .int .u64 a0_2, .int .i64 a0_3], .agg #[.bool a2_0, .int .u64 a2_1, .int .u64 a2_2, .int .i64 a2_3]] ?_; (with_reducible refine (prefix_Within.calls kj3 a0_0 a0_1 a0_2 a0_3 a2_0 a2_1 a2_2 a2_3 t711 _ A36.out).mono ?_); rintro e w48 ⟨rfl, hb⟩; refine ⟨_, rfl, ?_⟩; replace BK704 := bb_ BK704 hb; replace BK705 := bb_ BK705 hb; replace BK706 := bb_ BK706 hb; replace BK707 := bb_ BK707 hb; replace HB := bs_ HB hb; (try clear hb); (try clear hb2); (try clear hk); (try clear hi)))
     (try simp only [Act.put, List.setIfInBounds_toArray, List.set_cons_zero, List.set_cons_succ])
     go_cut [] (fun wc => ∃ (kq : Nat) (x706000_36 : Bool) (x706001_36 : Int) (x706002_36 : Int) (x706003_36 : Int), Aside0 (carve_Span.j1 kq a1 a0_0 a0_1 a0_2 a0_3 x706000_36 x706001_36 x706002_36 x706003_36 = some (r1, r2, r3, r4, r5)) ∧ Aside0 (kq ≤ kj3) ∧ Aside0 (wc.heap[gb704]? = some (.cells #[.bool a0_0, .int .u64 a0_1, .int .u64 a0_2, .int .i64 a0_3] 38 (0, 0))) ∧ Aside0 (wc.heap[gb705]? = some (.cells #[.bool x706000_36, .int .u64 x706001_36, .int .u64 x706002_36, .int .i64 x706003_36] 38 (0, 0))) ∧ Aside0 (wc.heap[gb706]? = some (.cells #[.int .u64 0, .int .u64 0] 24 (0, 0))) ∧ Aside0 (wc.heap[gb707]? = some (.cells #[.int .u64 0, .int .u64 0] 24 (0, 0))) ∧ Aside0 (Below w.heap.size w wc))
     case first =>
      have H := HC37.out
      clear HC37
      by_cases c49 : t711 = true
      ·
       subst c49
       rw [if_pos rfl] at H
       have H' := Aside0.mk H
       clear H
       have hnb50 := NB704_705.out
       have hnc50 := NB705_704.out
       have hnb51 := NB704_706.out
       have hnc51 := NB706_704.out
       have hnb52 := NB704_707.out
       have hnc52 := NB707_704.out
       obtain ⟨hcz53_0, hcz53_1, hcz53_2, hcz53_3, hfz53_0, hfz53_1, hfz53_2, hfz53_3⟩ := c4_ BK704
       have hnb54 := NB705_706.out
       have hnc54 := NB706_705.out
       have hnb55 := NB705_707.out
       have hnc55 := NB707_705.out
       obtain ⟨hcz56_0, hcz56_1, hcz56_2, hcz56_3, hfz56_0, hfz56_1, hfz56_2, hfz56_3⟩ := c4_ BK705
       go_wp2
       go_meet
       case rel => exact ⟨_, (a0_0), (a0_1), (a0_2), (a0_3), H', ⟨by have := HJ3.out; first | omega | exact Nat.le_refl _⟩, ⟨by refine pw_ ?_; refine blk_far ?_ NB704_705.out _; refine pw_ ?_; refine blk_far ?_ NB704_705.out _; refine pw_ ?_; refine blk_far ?_ NB704_705.out _; refine pw_ ?_; refine blk_far ?_ NB704_705.out _; refine pw_ ?_; exact BK704.out⟩, ⟨by refine pw_ ?_; refine blk_put (cs := #[.bool a0_0, .int .u64 a0_1, .int .u64 a0_2, .int .i64 a2_3]) ?_ 3 _ rfl; refine pw_ ?_; refine blk_put (cs := #[.bool a0_0, .int .u64 a0_1, .int .u64 a2_2, .int .i64 a2_3]) ?_ 2 _ rfl; refine pw_ ?_; refine blk_put (cs := #[.bool a0_0, .int .u64 a2_1, .int .u64 a2_2, .int .i64 a2_3]) ?_ 1 _ rfl; refine pw_ ?_; refine blk_put (cs := #[.bool a2_0, .int .u64 a2_1, .int .u64 a2_2, .int .i64 a2_3]) ?_ 0 _ rfl; refine pw_ ?_; exact BK705.out⟩, ⟨by refine pw_ ?_; refine blk_far ?_ NB706_705.out _; refine pw_ ?_; refine blk_far ?_ NB706_705.out _; refine pw_ ?_; refine blk_far ?_ NB706_705.out _; refine pw_ ?_; refine blk_far ?_ NB706_705.out _; refine pw_ ?_; exact BK706.out⟩, ⟨by refine pw_ ?_; refine blk_far ?_ NB707_705.out _; refine pw_ ?_; refine blk_far ?_ NB707_705.out _; refine pw_ ?_; refine blk_far ?_ NB707_705.out _; refine pw_ ?_; refine blk_far ?_ NB707_705.out _; refine pw_ ?_; exact BK707.out⟩, ⟨pb_ HB⟩⟩
      ·
       replace c49 := Bool.eq_false_iff.mpr c49
       subst c49
       have H1 : (carve_Span.j1 kj3 a1 a0_0 a0_1 a0_2 a0_3 a2_0 a2_1 a2_2 a2_3) = some (r1, r2, r3, r4, r5) := by rw [if_neg (show ¬ (false = true) by decide)] at H; exact H
       clear H
       have H := H1
       clear H1
       have H' := Aside0.mk H
       clear H
       go_wp2
       go_meet
       case rel => exact ⟨_, (a2_0), (a2_1), (a2_2), (a2_3), H', ⟨by have := HJ3.out; first | omega | exact Nat.le_refl _⟩, ⟨by refine pw_ ?_; exact BK704.out⟩, ⟨by refine pw_ ?_; exact BK705.out⟩, ⟨by refine pw_ ?_; exact BK706.out⟩, ⟨by refine pw_ ?_; exact BK707.out⟩, ⟨pb_ HB⟩⟩
     case rest =>
      clear HC37
      try clear c1
      try clear c2
      try clear p2
      try clear c3
      try clear c4
      try clear c5
      try clear c8
      try clear c10
      try clear c12
      try clear c13
      try clear c14
      try clear c17
      try clear c18
      try clear c21
      try clear c22
      try clear c23
      try clear c26
      try clear c27
      try clear c28
      try clear c29
      try clear c31
      try clear c32
      try clear c35
      try clear c38
      try clear c39
      try clear c40
      try clear c42
      try clear c43
      try clear c49
      try clear c50
      try clear c51
      try clear c52
      try clear c54
      try clear c55
      try clear hcz15_0
      try clear hcz15_1
      try clear hcz15_2
      try clear hcz15_3
      try clear hcz19_0
      try clear hcz19_1
      try clear hcz19_2
      try clear hcz19_3
      try clear hcz24_0
      try clear hcz24_1
      try clear hcz24_2
      try clear hcz24_3
      try clear hcz30_0
      try clear hcz30_1
      try clear hcz33_0
      try clear hcz33_1
      try clear hcz41_0
      try clear hcz41_1
      try clear hcz41_2
      try clear hcz41_3
      try clear hcz44_0
      try clear hcz44_1
      try clear hcz44_2
      try clear hcz44_3
      try clear hcz46_0
      try clear hcz46_1
      try clear hcz46_2
      try clear hcz46_3
      try clear hcz47_0
      try clear hcz47_1
      try clear hcz47_2
      try clear hcz47_3
      try clear hcz53_0
      try clear hcz53_1
      try clear hcz53_2
      try clear hcz53_3
      try clear hcz56_0
      try clear hcz56_1
      try clear hcz56_2
      try clear hcz56_3
      try clear hfz15_0
      try clear hfz15_1
      try clear hfz15_2
      try clear hfz15_3
      try clear hfz19_0
      try clear hfz19_1
      try clear hfz19_2
      try clear hfz19_3
      try clear hfz24_0
      try clear hfz24_1
      try clear hfz24_2
      try clear hfz24_3
      try clear hfz30_0
      try clear hfz30_1
      try clear hfz33_0
      try clear hfz33_1
      try clear hfz41_0
      try clear hfz41_1
      try clear hfz41_2
      try clear hfz41_3
      try clear hfz44_0
      try clear hfz44_1
      try clear hfz44_2
      try clear hfz44_3
      try clear hfz46_0
      try clear hfz46_1
      try clear hfz46_2
      try clear hfz46_3
      try clear hfz47_0
      try clear hfz47_1
      try clear hfz47_2
      try clear hfz47_3
      try clear hfz53_0
      try clear hfz53_1
      try clear hfz53_2
      try clear hfz53_3
      try clear hfz56_0
      try clear hfz56_1
      try clear hfz56_2
      try clear hfz56_3
      try clear p2
      obtain ⟨kq, x706000_36, x706001_36, x706002_36, x706003_36, HA, HJ36, BK704, BK705, BK706, BK707, HB⟩ := hcut
      cases kq with
      | zero => exact absurd HA.out (by simp [carve_Span.j1])
      | succ kj36 =>
       have H := HA.out
       clear HA
       simp only [carve_Span.j1] at H
       replace H := Option.bind_eq_some_iff.mp H
       obtain ⟨t712, A570, H⟩ := H
       replace H : ((carve_below.f a0_0 a0_1 a0_2 a0_3 x706000_36 x706001_36 x706002_36 (wrap64 (t712 - a1))).bind fun bt713 => ((prefix_Last.f x706000_36 x706001_36 x706002_36 x706003_36).bind fun bt715 => ((carve_below.f a0_0 a0_1 a0_2 a0_3 bt715.1 bt715.2.1 bt715.2.2 (wrap64 (t712 - a1))).bind fun bt718 => (some (bt713.1, bt713.2, bt718.1, bt718.2, 0))))) = some (r1, r2, r3, r4, r5) := H
       have A57 := Aside0.mk A570
       clear A570
       replace H := Option.bind_eq_some_iff.mp H
       obtain ⟨⟨t713, t714⟩, A580, H⟩ := H
       replace H : ((prefix_Last.f x706000_36 x706001_36 x706002_36 x706003_36).bind fun bt715 => ((carve_below.f a0_0 a0_1 a0_2 a0_3 bt715.1 bt715.2.1 bt715.2.2 (wrap64 (t712 - a1))).bind fun bt718 => (some (t713, t714, bt718.1, bt718.2, 0)))) = some (r1, r2, r3, r4, r5) := H
       have A58 := Aside0.mk A580
       clear A580
       replace H := Option.bind_eq_some_iff.mp H
       obtain ⟨⟨t715, t716, t717⟩, A590, H⟩ := H
       replace H : ((carve_below.f a0_0 a0_1 a0_2 a0_3 t715 t716 t717 (wrap64 (t712 - a1))).bind fun bt718 => (some (t713, t714, bt718.1, bt718.2, 0))) = some (r1, r2, r3, r4, r5) := H
       have A59 := Aside0.mk A590
       clear A590
       replace H := Option.bind_eq_some_iff.mp H
       obtain ⟨⟨t718, t719⟩, A600, H⟩ := H
       replace H : (some (t713, t714, t718, t719, 0)) = some (r1, r2, r3, r4, r5) := H
       have A60 := Aside0.mk A600
       clear A600
       simp only [Option.some.injEq, Prod.mk.injEq] at H
       obtain ⟨rfl, rfl, rfl, rfl, rfl⟩ := H
       have hnb61 := NB704_705.out
       have hnc61 := NB705_704.out
       have hnb62 := NB704_706.out
       have hnc62 := NB706_704.out
       have hnb63 := NB704_707.out
       have hnc63 := NB707_704.out
       obtain ⟨hcz64_0, hcz64_1, hcz64_2, hcz64_3, hfz64_0, hfz64_1, hfz64_2, hfz64_3⟩ := c4_ BK704
       try go_wp2_with (first | ((with_reducible refine gate_callee (f := 22) rfl ?_); refine gl_ (some 35) Tryz.func22 #[.agg #[.bool a0_0, .int .u64 a0_1, .int .u64 a0_2]] ?_; (with_reducible refine (addr_Width.calls a0_0 a0_1 a0_2 t712 _ A57.out).mono ?_); rintro e w65 ⟨rfl, hb⟩; refine ⟨_, rfl, ?_⟩; replace BK704 := bb_ BK704 hb; replace BK705 := bb_ BK705 hb; replace BK706 := bb_ BK706 hb; replace BK707 := bb_ BK707 hb; replace HB := bs_ HB hb; (try clear hb); (try clear hb2); (try clear hk); (try clear hi)))
       replace BK704 := Aside0.mk (blk_drew BK704.out)
       replace BK705 := Aside0.mk (blk_drew BK705.out)
       replace BK706 := Aside0.mk (blk_drew BK706.out)
       replace BK707 := Aside0.mk (blk_drew BK707.out)
       replace HB := Aside0.mk (below_drew1 HB.out)
       refine start_ (n := 13) (S := fun w' => w'.cell? ⟨gb704, 0, none⟩ = some (.bool a0_0) ∧ w'.cell? ⟨gb704, 1, none⟩ = some (.int .u64 a0_1) ∧ w'.cell? ⟨gb704, 2, none⟩ = some (.int .u64 a0_2) ∧ w'.cell? ⟨gb704, 3, none⟩ = some (.int .i64 a0_3) ∧ w'.cell? ⟨gb705, 0, none⟩ = some (.bool x706000_36) ∧ w'.cell? ⟨gb705, 1, none⟩ = some (.int .u64 x706001_36) ∧ w'.cell? ⟨gb705, 2, none⟩ = some (.int .u64 x706002_36) ∧ w'.cell? ⟨gb705, 3, none⟩ = some (.int .i64 x706003_36)) (ds := []) (bm_ 13 0) (by kernel_rfl) rfl rfl ⟨kc_ BK704 0, kc_ BK704 1, kc_ BK704 2, kc_ BK704 3, kc_ BK705 0, kc_ BK705 1, kc_ BK705 2, kc_ BK705 3⟩ (fun hHeld => ?_); refine with_tabW carve_Span.tab8 carve_Span.bits8 (fun HT_ HW_ => ?_)
       generalize w65.drew = w66 at BK704 BK705 BK706 BK707 HB hHeld ⊢
       refine pu_ 1 (some 39) (bm_ 13 2) rfl HT_ ⟨by rfl, by intro w'; go_simp; with_reducible rfl⟩ ?_
       refine pu_ 3 (some 41) (bm_ 13 10) rfl HT_ ⟨by rfl, by intro w'; go_simp; with_reducible rfl⟩ ?_
       refine pu_ 8 (some 46) (bm_ 13 266) rfl HT_ ⟨by rfl, by intro w'; go_simp; with_reducible rfl⟩ ?_
       refine ta_ 0 (some 38) (bm_ 13 267) rfl HT_ HW_ ⟨by rfl, by rintro w' ⟨s0, s1, s2, s3, s4, s5, s6, s7⟩; go_simp; with_reducible rfl⟩ hHeld ?_
       refine ta_ 2 (some 40) (bm_ 13 271) rfl HT_ HW_ ⟨by rfl, by rintro w' ⟨s0, s1, s2, s3, s4, s5, s6, s7⟩; go_simp; with_reducible rfl⟩ hHeld ?_
       refine ta_ 5 (some 43) (bm_ 13 303) rfl HT_ HW_ ⟨by rfl, by rintro w' ⟨s0, s1, s2, s3, s4, s5, s6, s7⟩; go_simp; with_reducible rfl⟩ hHeld ?_
       refine ta_ 6 (some 44) (bm_ 13 367) rfl HT_ HW_ ⟨by rfl, by rintro w' ⟨s0, s1, s2, s3, s4, s5, s6, s7⟩; go_simp; with_reducible rfl⟩ hHeld ?_
       refine one_ (i := 4) (N := some 42) (bm_ 13 383) rfl rfl (one_of HT_.out (by kernel_rfl)) (by decide) (fun K hK => ?_)
       refine gr_ Tryz.func95 #[.agg #[.bool a0_0, .int .u64 a0_1, .int .u64 a0_2, .int .i64 a0_3], .agg #[.bool x706000_36, .int .u64 x706001_36, .int .u64 x706002_36], .int .i64 (wrap64 (t712 - a1))] ?_
       with_reducible refine (carve_below.calls a0_0 a0_1 a0_2 a0_3 x706000_36 x706001_36 x706002_36 (wrap64 (t712 - a1)) t713 t714 _ A58.out).mono ?_
       rintro e w67 ⟨rfl, hb⟩
       refine ⟨_, rfl, ?_⟩
       replace BK704 := bb_ BK704 hb
       replace BK705 := bb_ BK705 hb
       replace BK706 := bb_ BK706 hb
       replace BK707 := bb_ BK707 hb
       replace HB := bs_ HB hb
       (try clear hb)
       (try clear hb2)
       (try clear hk)
       (try clear hi)
       refine hK.out _ _ ⟨kc_ BK704 0, kc_ BK704 1, kc_ BK704 2, kc_ BK704 3, kc_ BK705 0, kc_ BK705 1, kc_ BK705 2, kc_ BK705 3⟩ (fun hHeld => ?_)
       clear hK K
       refine norm_ (a' := ?_) ?_ ?_
       rotate_left
       ·
        show Act.put _ (some 42) _ = _
        simp only [Act.put, List.setIfInBounds_toArray, List.set_cons_zero, List.set_cons_succ, i64_w, i32_w]
        rfl
       refine one_ (i := 7) (N := some 45) (bm_ 13 511) rfl rfl (one_of HT_.out (by kernel_rfl)) (by decide) (fun K hK => ?_)
       refine gr_ Tryz.func38 #[.agg #[.bool x706000_36, .int .u64 x706001_36, .int .u64 x706002_36, .int .i64 x706003_36]] ?_
       with_reducible refine (prefix_Last.calls x706000_36 x706001_36 x706002_36 x706003_36 t715 t716 t717 _ A59.out).mono ?_
       rintro e w68 ⟨rfl, hb⟩
       refine ⟨_, rfl, ?_⟩
       replace BK704 := bb_ BK704 hb
       replace BK705 := bb_ BK705 hb
       replace BK706 := bb_ BK706 hb
       replace BK707 := bb_ BK707 hb
       replace HB := bs_ HB hb
       (try clear hb)
       (try clear hb2)
       (try clear hk)
       (try clear hi)
       refine hK.out _ _ ⟨kc_ BK704 0, kc_ BK704 1, kc_ BK704 2, kc_ BK704 3, kc_ BK705 0, kc_ BK705 1, kc_ BK705 2, kc_ BK705 3⟩ (fun hHeld => ?_)
       clear hK K
       refine norm_ (a' := ?_) ?_ ?_
       rotate_left
       ·
        show Act.put _ (some 45) _ = _
        simp only [Act.put, List.setIfInBounds_toArray, List.set_cons_zero, List.set_cons_succ, i64_w, i32_w]
        rfl
       refine one_ (i := 9) (N := some 47) (bm_ 13 1023) rfl rfl (one_of HT_.out (by kernel_rfl)) (by decide) (fun K hK => ?_)
       refine gr_ Tryz.func95 #[.agg #[.bool a0_0, .int .u64 a0_1, .int .u64 a0_2, .int .i64 a0_3], .agg #[.bool t715, .int .u64 t716, .int .u64 t717], .int .i64 (wrap64 (t712 - a1))] ?_
       with_reducible refine (carve_below.calls a0_0 a0_1 a0_2 a0_3 t715 t716 t717 (wrap64 (t712 - a1)) t718 t719 _ A60.out).mono ?_
       rintro e w69 ⟨rfl, hb⟩
       refine ⟨_, rfl, ?_⟩
       replace BK704 := bb_ BK704 hb
       replace BK705 := bb_ BK705 hb
       replace BK706 := bb_ BK706 hb
       replace BK707 := bb_ BK707 hb
       replace HB := bs_ HB hb
       (try clear hb)
       (try clear hb2)
       (try clear hk)
       (try clear hi)
       refine hK.out _ _ ⟨kc_ BK704 0, kc_ BK704 1, kc_ BK704 2, kc_ BK704 3, kc_ BK705 0, kc_ BK705 1, kc_ BK705 2, kc_ BK705 3⟩ (fun hHeld => ?_)
       clear hK K
       refine norm_ (a' := ?_) ?_ ?_
       rotate_left
       ·
        show Act.put _ (some 47) _ = _
        simp only [Act.put, List.setIfInBounds_toArray, List.set_cons_zero, List.set_cons_succ, i64_w, i32_w]
        rfl
       refine one_ (i := 10) (N := none) (bm_ 13 2047) rfl rfl (one_of HT_.out (by kernel_rfl)) (by decide) (fun K hK => ?_)
       have hs70 : w69.cell? ⟨gb706, 0, none⟩ = some (.int .u64 0) := kc_ BK706 0
       have hfs70 := blk_frozen BK706.out 0
       have hns70_0 := NB704_706.out
       have hns70_1 := NB705_706.out
       have hns70_3 := NB707_706.out
       have hms70_0 := NB706_704.out
       have hms70_1 := NB706_705.out
       have hms70_3 := NB706_707.out
       have hs71 : w69.cell? ⟨gb706, 1, none⟩ = some (.int .u64 0) := kc_ BK706 1
       have hfs71 := blk_frozen BK706.out 1
       have hns71_0 := NB704_706.out
       have hns71_1 := NB705_706.out
       have hns71_3 := NB707_706.out
       have hms71_0 := NB706_704.out
       have hms71_1 := NB706_705.out
       have hms71_3 := NB706_707.out
       refine skip_ (w1 := ?_) (by rfl) rfl ?_ ?_
       rotate_left
       ·
        go_simp
        rfl
       refine hK.out _ _ ⟨((cell_far (p := ⟨gb706, _, none⟩) NB704_706.out _).trans (((cell_far (p := ⟨gb706, _, none⟩) NB704_706.out _).trans (hHeld.1)))), ((cell_far (p := ⟨gb706, _, none⟩) NB704_706.out _).trans (((cell_far (p := ⟨gb706, _, none⟩) NB704_706.out _).trans (hHeld.2.1)))), ((cell_far (p := ⟨gb706, _, none⟩) NB704_706.out _).trans (((cell_far (p := ⟨gb706, _, none⟩) NB704_706.out _).trans (hHeld.2.2.1)))), ((cell_far (p := ⟨gb706, _, none⟩) NB704_706.out _).trans (((cell_far (p := ⟨gb706, _, none⟩) NB704_706.out _).trans (hHeld.2.2.2.1)))), ((cell_far (p := ⟨gb706, _, none⟩) NB705_706.out _).trans (((cell_far (p := ⟨gb706, _, none⟩) NB705_706.out _).trans (hHeld.2.2.2.2.1)))), ((cell_far (p := ⟨gb706, _, none⟩) NB705_706.out _).trans (((cell_far (p := ⟨gb706, _, none⟩) NB705_706.out _).trans (hHeld.2.2.2.2.2.1)))), ((cell_far (p := ⟨gb706, _, none⟩) NB705_706.out _).trans (((cell_far (p := ⟨gb706, _, none⟩) NB705_706.out _).trans (hHeld.2.2.2.2.2.2.1)))), ((cell_far (p := ⟨gb706, _, none⟩) NB705_706.out _).trans (((cell_far (p := ⟨gb706, _, none⟩) NB705_706.out _).trans (hHeld.2.2.2.2.2.2.2))))⟩ (fun hHeld => ?_)
       clear hK K
       refine one_ (i := 11) (N := none) (bm_ 13 4095) rfl rfl (one_of HT_.out (by kernel_rfl)) (by decide) (fun K hK => ?_)
       have hs72 : w69.cell? ⟨gb707, 0, none⟩ = some (.int .u64 0) := kc_ BK707 0
       have hfs72 := blk_frozen BK707.out 0
       have hns72_0 := NB704_707.out
       have hns72_1 := NB705_707.out
       have hns72_2 := NB706_707.out
       have hms72_0 := NB707_704.out
       have hms72_1 := NB707_705.out
       have hms72_2 := NB707_706.out
       have hs73 : w69.cell? ⟨gb707, 1, none⟩ = some (.int .u64 0) := kc_ BK707 1
       have hfs73 := blk_frozen BK707.out 1
       have hns73_0 := NB704_707.out
       have hns73_1 := NB705_707.out
       have hns73_2 := NB706_707.out
       have hms73_0 := NB707_704.out
       have hms73_1 := NB707_705.out
       have hms73_2 := NB707_706.out
       refine skip_ (w1 := ?_) (by rfl) rfl ?_ ?_
       rotate_left
       ·
        go_simp
        rfl
       refine hK.out _ _ ⟨((cell_far (p := ⟨gb707, _, none⟩) NB704_707.out _).trans (((cell_far (p := ⟨gb707, _, none⟩) NB704_707.out _).trans (hHeld.1)))), ((cell_far (p := ⟨gb707, _, none⟩) NB704_707.out _).trans (((cell_far (p := ⟨gb707, _, none⟩) NB704_707.out _).trans (hHeld.2.1)))), ((cell_far (p := ⟨gb707, _, none⟩) NB704_707.out _).trans (((cell_far (p := ⟨gb707, _, none⟩) NB704_707.out _).trans (hHeld.2.2.1)))), ((cell_far (p := ⟨gb707, _, none⟩) NB704_707.out _).trans (((cell_far (p := ⟨gb707, _, none⟩) NB704_707.out _).trans (hHeld.2.2.2.1)))), ((cell_far (p := ⟨gb707, _, none⟩) NB705_707.out _).trans (((cell_far (p := ⟨gb707, _, none⟩) NB705_707.out _).trans (hHeld.2.2.2.2.1)))), ((cell_far (p := ⟨gb707, _, none⟩) NB705_707.out _).trans (((cell_far (p := ⟨gb707, _, none⟩) NB705_707.out _).trans (hHeld.2.2.2.2.2.1)))), ((cell_far (p := ⟨gb707, _, none⟩) NB705_707.out _).trans (((cell_far (p := ⟨gb707, _, none⟩) NB705_707.out _).trans (hHeld.2.2.2.2.2.2.1)))), ((cell_far (p := ⟨gb707, _, none⟩) NB705_707.out _).trans (((cell_far (p := ⟨gb707, _, none⟩) NB705_707.out _).trans (hHeld.2.2.2.2.2.2.2))))⟩ (fun hHeld => ?_)
       clear hK K
       refine pu_ 12 (some 8) (bm_ 13 8191) rfl HT_ ⟨by rfl, by intro w'; go_simp; with_reducible rfl⟩ ?_
       refine done_ (done_of HT_.out (by kernel_rfl)) ?_
       try go_wp2
       refine bodyPost_ret (results_list (rs := [.cell 6 24, .cell 7 24, .tmp 8]) rfl (by simp) (.cell gb706 24 #[.int .u64 t713, .int .u64 t714] (0, 0) _ rfl (by refine pw_ ?_; refine blk_far ?_ NB706_707.out _; refine pw_ ?_; refine blk_far ?_ NB706_707.out _; refine pw_ ?_; refine blk_put (cs := #[.int .u64 t713, .int .u64 0]) ?_ 1 _ rfl; refine pw_ ?_; refine blk_put (cs := #[.int .u64 0, .int .u64 0]) ?_ 0 _ rfl; refine pw_ ?_; exact BK706.out) Tryz.underlying24 rfl (by kernel_rfl) (.cell gb707 24 #[.int .u64 t718, .int .u64 t719] (0, 0) _ rfl (by refine pw_ ?_; refine blk_put (cs := #[.int .u64 t718, .int .u64 0]) ?_ 1 _ rfl; refine pw_ ?_; refine blk_put (cs := #[.int .u64 0, .int .u64 0]) ?_ 0 _ rfl; refine pw_ ?_; refine blk_far ?_ NB707_706.out _; refine pw_ ?_; refine blk_far ?_ NB707_706.out _; refine pw_ ?_; exact BK707.out) Tryz.underlying24 rfl (by kernel_rfl) (.tmp .nil)))) rfl ?_
       exact ⟨by first | rfl | (simp [errW_none, errW_some] <;> rfl) | (simp [*, errW_none, errW_some] <;> rfl), pb_ HB⟩
    ·
     replace c35 := Bool.eq_false_iff.mpr c35
     subst c35
     have H1 : (some (0, 0, 0, 0, 12)) = some (r1, r2, r3, r4, r5) := by rw [if_neg (show ¬ (false = true) by decide)] at H; exact H
     clear H
     have H := H1
     clear H1
     simp only [Option.some.injEq, Prod.mk.injEq] at H
     obtain ⟨rfl, rfl, rfl, rfl, rfl⟩ := H
     have hnb74 := NB704_705.out
     have hnc74 := NB705_704.out
     have hnb75 := NB704_706.out
     have hnc75 := NB706_704.out
     have hnb76 := NB704_707.out
     have hnc76 := NB707_704.out
     obtain ⟨hcz77_0, hcz77_1, hcz77_2, hcz77_3, hfz77_0, hfz77_1, hfz77_2, hfz77_3⟩ := c4_ BK704
     have hnb78 := NB705_706.out
     have hnc78 := NB706_705.out
     have hnb79 := NB705_707.out
     have hnc79 := NB707_705.out
     obtain ⟨hcz80_0, hcz80_1, hcz80_2, hcz80_3, hfz80_0, hfz80_1, hfz80_2, hfz80_3⟩ := c4_ BK705
     go_wp2_with (first | ((with_reducible refine gate_callee (f := 43) rfl ?_); refine gl_ (some 25) Tryz.func43 #[.agg #[.bool a0_0, .int .u64 a0_1, .int .u64 a0_2, .int .i64 a0_3], .agg #[.bool a2_0, .int .u64 a2_1, .int .u64 a2_2, .int .i64 a2_3]] ?_; (with_reducible refine (prefix_Overlap.calls kj3 a0_0 a0_1 a0_2 a0_3 a2_0 a2_1 a2_2 a2_3 false _ A34.out).mono ?_); rintro e w81 ⟨rfl, hb⟩; refine ⟨_, rfl, ?_⟩; replace BK704 := bb_ BK704 hb; replace BK705 := bb_ BK705 hb; replace BK706 := bb_ BK706 hb; replace BK707 := bb_ BK707 hb; replace HB := bs_ HB hb; (try clear hb); (try clear hb2); (try clear hk); (try clear hi); have hnb82 := NB706_707.out; have hnc82 := NB707_706.out; obtain ⟨hcz83_0, hcz83_1, hfz83_0, hfz83_1⟩ := c2_ BK706; obtain ⟨hcz84_0, hcz84_1, hfz84_0, hfz84_1⟩ := c2_ BK707))
     refine bodyPost_ret (results_list (rs := [.cell 6 24, .cell 7 24, .tmp 8]) rfl (by simp) (.cell gb706 24 #[.int .u64 0, .int .u64 0] (0, 0) _ rfl (by refine pw_ ?_; refine blk_far ?_ NB706_707.out _; refine pw_ ?_; refine blk_far ?_ NB706_707.out _; refine pw_ ?_; refine blk_put (cs := #[.int .u64 0, .int .u64 0]) ?_ 1 _ rfl; refine pw_ ?_; refine blk_put (cs := #[.int .u64 0, .int .u64 0]) ?_ 0 _ rfl; refine pw_ ?_; exact BK706.out) Tryz.underlying24 rfl (by kernel_rfl) (.cell gb707 24 #[.int .u64 0, .int .u64 0] (0, 0) _ rfl (by refine pw_ ?_; refine blk_put (cs := #[.int .u64 0, .int .u64 0]) ?_ 1 _ rfl; refine pw_ ?_; refine blk_put (cs := #[.int .u64 0, .int .u64 0]) ?_ 0 _ rfl; refine pw_ ?_; refine blk_far ?_ NB707_706.out _; refine pw_ ?_; refine blk_far ?_ NB707_706.out _; refine pw_ ?_; exact BK707.out) Tryz.underlying24 rfl (by kernel_rfl) (.tmp .nil)))) rfl ?_
     exact ⟨by first | rfl | (simp [errW_none, errW_some] <;> rfl) | (simp [*, errW_none, errW_some] <;> rfl), pb_ HB⟩

end Go.Proofs.YtgdgklibilddgaaGreatDoor.PPr

namespace Go.Proofs.YtgdgklibilddgaaGreatDoor.PPr
open Go.RowKit Go.Proofs.YtgdgklibilddgaaGreatDoorW.PrintWords Go.Proofs.YtgdgklibilddgaaGreatDoorW.PrintLast Go.Proofs.YtgdgklibilddgaaGreatDoorW.PrintMore
attribute [local go_sem] max2_int min2_int max_two min_two max_three min_three max_four min_four   -- for this text's walks alone

attribute [local go_sem high] eqA24
mutual
def platbooklaw04_CarveSpans.j0 : Nat → Int → Int → Bool → Bool → Int → Int → Int → Bool → Int → Int → Int → Int → Int → Int → Int → Int → Int → Option (Bool)
 | 0, _, _, _, _, _, _, _, _, _, _, _, _, _, _, _, _, _ => none
 | k + 1, x1, x11, x36, x721000, x721001, x721002, x721003, x722000, x722001, x722002, x722003, x723000, x723001, x730000, x730001, x731000, x731001 => if x36 = true then (if x11 = 1 then (if (x730000 == 0 && (x730001 == 0)) = true then (some (x731000 == 0 && (x731001 == 0))) else (some false)) else (some false)) else ((platbookref03_Overlap.f k x721000 x721001 x721002 x721003 x722000 x722001 x722002 x722003).bind fun t733 => (if t733 = true then (if x11 = 0 then ((num_Cmp.f x730000 x730001 x731000 x731001).bind fun t734 => (platbooklaw04_CarveSpans.j1 k x1 (decide (t734 > 0)) x721000 x721001 x721002 x721003 x722000 x722001 x722002 x722003 x723000 x723001 x730000 x730001 x731000 x731001)) else (platbooklaw04_CarveSpans.j1 k x1 true x721000 x721001 x721002 x721003 x722000 x722001 x722002 x722003 x723000 x723001 x730000 x730001 x731000 x731001)) else (if x11 = 12 then (if (x730000 == 0 && (x730001 == 0)) = true then (some (x731000 == 0 && (x731001 == 0))) else (some false)) else (some false))))
def platbooklaw04_CarveSpans.j1 : Nat → Int → Bool → Bool → Int → Int → Int → Bool → Int → Int → Int → Int → Int → Int → Int → Int → Int → Option (Bool)
 | 0, _, _, _, _, _, _, _, _, _, _, _, _, _, _, _, _ => none
 | k + 1, x1, x72, x721000, x721001, x721002, x721003, x722000, x722001, x722002, x722003, x723000, x723001, x730000, x730001, x731000, x731001 => if x72 = true then (some false) else ((carve_Block.f x721000 x721001 x721002 x721003 x1 x730000 x730001).bind fun bt735 => ((carve_Block.f x721000 x721001 x721002 x721003 x1 x731000 x731001).bind fun bt741 => (if bt735.2.2.2.2 = 0 then (if bt741.2.2.2.2 = 0 then ((prefix_Overlap.f k bt735.1 bt735.2.1 bt735.2.2.1 bt735.2.2.2.1 x722000 x722001 x722002 x722003).bind fun t747 => (if t747 = true then ((prefix_Overlap.f k bt741.1 bt741.2.1 bt741.2.2.1 bt741.2.2.2.1 x722000 x722001 x722002 x722003).bind fun t748 => (platbooklaw04_CarveSpans.j2 k x1 (!t748) x721000 x721001 x721002 x721003 x722000 x722001 x722002 x722003 x723000 x723001 x730000 x730001 x731000 x731001)) else (platbooklaw04_CarveSpans.j2 k x1 true x721000 x721001 x721002 x721003 x722000 x722001 x722002 x722003 x723000 x723001 x730000 x730001 x731000 x731001))) else (platbooklaw04_CarveSpans.j2 k x1 true x721000 x721001 x721002 x721003 x722000 x722001 x722002 x722003 x723000 x723001 x730000 x730001 x731000 x731001)) else (platbooklaw04_CarveSpans.j2 k x1 true x721000 x721001 x721002 x721003 x722000 x722001 x722002 x722003 x723000 x723001 x730000 x730001 x731000 x731001))))
def platbooklaw04_CarveSpans.j2 : Nat → Int → Bool → Bool → Int → Int → Int → Bool → Int → Int → Int → Int → Int → Int → Int → Int → Int → Option (Bool)
 | 0, _, _, _, _, _, _, _, _, _, _, _, _, _, _, _, _ => none
 | k + 1, x1, x104, x721000, x721001, x721002, x721003, x722000, x722001, x722002, x722003, x723000, x723001, x730000, x730001, x731000, x731001 => if x104 = true then (some false) else ((carve_Block.f x721000 x721001 x721002 x721003 x1 x723000 x723001).bind fun bt749 => (if bt749.2.2.2.2 = 0 then ((prefix_Overlap.f k bt749.1 bt749.2.1 bt749.2.2.1 bt749.2.2.2.1 x722000 x722001 x722002 x722003).bind fun t755 => ((num_Cmp.f x730000 x730001 x723000 x723001).bind fun t756 => (if t756 ≤ 0 then ((num_Cmp.f x723000 x723001 x731000 x731001).bind fun t757 => (some (t755 == (decide (t757 ≤ 0))))) else (some (t755 == false))))) else (some true)))
end
def platbooklaw04_CarveSpans.f (k : Nat) (a0_0 : Bool) (a0_1 : Int) (a0_2 : Int) (a0_3 : Int) (a1 : Int) (a2_0 : Bool) (a2_1 : Int) (a2_2 : Int) (a2_3 : Int) (a3_0 : Int) (a3_1 : Int) : Option (Bool) := (platbooklaw04_awake.f k).bind fun t723 => (if t723 = true then ((carve_Span.f k a0_0 a0_1 a0_2 a0_3 a1 a2_0 a2_1 a2_2 a2_3).bind fun bt724 => ((platbookref04_Cuts.f k a0_0 a0_1 a0_2 a0_3 a1).bind fun t731 => (if t731 = true then ((platbookref03_Right.f k a2_0 a2_1 a2_2 a2_3).bind fun t732 => (platbooklaw04_CarveSpans.j0 k a1 bt724.2.2.2.2 (!t732) a0_0 a0_1 a0_2 a0_3 a2_0 a2_1 a2_2 a2_3 a3_0 a3_1 bt724.1 bt724.2.1 bt724.2.2.1 bt724.2.2.2.1)) else (platbooklaw04_CarveSpans.j0 k a1 bt724.2.2.2.2 true a0_0 a0_1 a0_2 a0_3 a2_0 a2_1 a2_2 a2_3 a3_0 a3_1 bt724.1 bt724.2.1 bt724.2.2.1 bt724.2.2.2.1)))) else (some false))
def platbooklaw04_CarveSpans.T17 : Bool × List (List Nat × List Nat) := (true, [([], []), ([], []), ([0, 1], [0, 1]), ([], []), ([], []), ([3, 4, 2], [3, 4]), ([5], [5]), ([6, 5], [6]), ([7], [7]), ([7], [7]), ([8, 9, 7, 7], [7, 8, 9]), ([10, 7], [7, 10]), ([7, 11], [7, 11]), ([2, 12], [2, 12]), ([13, 10, 0, 1, 2, 3, 4, 5, 6, 7, 8, 9, 10, 11, 12, 13], [13])])
def platbooklaw04_CarveSpans.B17 : List Nat := [0, 0, 3, 0, 0, 31, 63, 127, 255, 255, 1023, 2047, 4095, 8191, 16383]
theorem platbooklaw04_CarveSpans.tab17 : rtab .any (opsOf Tryz.f10 17) = platbooklaw04_CarveSpans.T17 := by kernel_rfl
theorem platbooklaw04_CarveSpans.bits17 : waitsOk platbooklaw04_CarveSpans.T17.2 platbooklaw04_CarveSpans.B17 = true := by kernel_rfl
set_option maxHeartbeats 8000000 in
set_option maxRecDepth 100000 in
theorem platbooklaw04_CarveSpans.calls (k : Nat) (a0_0 : Bool) (a0_1 : Int) (a0_2 : Int) (a0_3 : Int) (a1 : Int) (a2_0 : Bool) (a2_1 : Int) (a2_2 : Int) (a2_3 : Int) (a3_0 : Int) (a3_1 : Int) (r : Bool) (w : World) (hG : Glob w) (hrt : r = true) (h : platbooklaw04_CarveSpans.f k a0_0 a0_1 a0_2 a0_3 a1 a2_0 a2_1 a2_2 a2_3 a3_0 a3_1 = some r) :
  Calls Tryz.prog 10 #[.agg #[.bool a0_0, .int .u64 a0_1, .int .u64 a0_2, .int .i64 a0_3], .int .i64 a1, .agg #[.bool a2_0, .int .u64 a2_1, .int .u64 a2_2, .int .i64 a2_3], .agg #[.int .u64 a3_0, .int .u64 a3_1]] w fun e w' => e = .returned (.bool r) ∧ Below w.heap.size w w' := by
 have hu38 := Tryz.underlying38
 have hu24 := Tryz.underlying24
 have HGLB := Aside0.mk hG
 clear hG
 have HRT := Aside0.mk hrt
 clear hrt
 have HB := Aside0.mk (Below.refl w.heap.size w)
 have H : ((platbooklaw04_awake.f k).bind fun t723 => (if t723 = true then ((carve_Span.f k a0_0 a0_1 a0_2 a0_3 a1 a2_0 a2_1 a2_2 a2_3).bind fun bt724 => ((platbookref04_Cuts.f k a0_0 a0_1 a0_2 a0_3 a1).bind fun t731 => (if t731 = true then ((platbookref03_Right.f k a2_0 a2_1 a2_2 a2_3).bind fun t732 => (platbooklaw04_CarveSpans.j0 k a1 bt724.2.2.2.2 (!t732) a0_0 a0_1 a0_2 a0_3 a2_0 a2_1 a2_2 a2_3 a3_0 a3_1 bt724.1 bt724.2.1 bt724.2.2.1 bt724.2.2.2.1)) else (platbooklaw04_CarveSpans.j0 k a1 bt724.2.2.2.2 true a0_0 a0_1 a0_2 a0_3 a2_0 a2_1 a2_2 a2_3 a3_0 a3_1 bt724.1 bt724.2.1 bt724.2.2.1 bt724.2.2.2.1)))) else (some false))) = some r := h
 clear h
 replace H := Option.bind_eq_some_iff.mp H
 obtain ⟨t723, A50, H⟩ := H
 replace H : (if t723 = true then ((carve_Span.f k a0_0 a0_1 a0_2 a0_3 a1 a2_0 a2_1 a2_2 a2_3).bind fun bt724 => ((platbookref04_Cuts.f k a0_0 a0_1 a0_2 a0_3 a1).bind fun t731 => (if t731 = true then ((platbookref03_Right.f k a2_0 a2_1 a2_2 a2_3).bind fun t732 => (platbooklaw04_CarveSpans.j0 k a1 bt724.2.2.2.2 (!t732) a0_0 a0_1 a0_2 a0_3 a2_0 a2_1 a2_2 a2_3 a3_0 a3_1 bt724.1 bt724.2.1 bt724.2.2.1 bt724.2.2.2.1)) else (platbooklaw04_CarveSpans.j0 k a1 bt724.2.2.2.2 true a0_0 a0_1 a0_2 a0_3 a2_0 a2_1 a2_2 a2_3 a3_0 a3_1 bt724.1 bt724.2.1 bt724.2.2.1 bt724.2.2.2.1)))) else (some false)) = some r := H
 have A5 := Aside0.mk A50
 clear A50
 by_cases c6 : t723 = true
 ·
  subst c6
  rw [if_pos rfl] at H
  replace H := Option.bind_eq_some_iff.mp H
  obtain ⟨⟨t724, t725, t726, t727, t728⟩, A70, H⟩ := H
  replace H : ((platbookref04_Cuts.f k a0_0 a0_1 a0_2 a0_3 a1).bind fun t731 => (if t731 = true then ((platbookref03_Right.f k a2_0 a2_1 a2_2 a2_3).bind fun t732 => (platbooklaw04_CarveSpans.j0 k a1 t728 (!t732) a0_0 a0_1 a0_2 a0_3 a2_0 a2_1 a2_2 a2_3 a3_0 a3_1 t724 t725 t726 t727)) else (platbooklaw04_CarveSpans.j0 k a1 t728 true a0_0 a0_1 a0_2 a0_3 a2_0 a2_1 a2_2 a2_3 a3_0 a3_1 t724 t725 t726 t727))) = some r := H
  have A7 := Aside0.mk A70
  clear A70
  have HC8 := Aside0.mk H
  clear H
  go_enter Tryz.func10, Tryz.ntmps10
  go_upto_region 4 with (first | ((with_reducible refine gate_dst (N := 4) rfl ?_); refine bx_ 4 #[.bool a0_0, .int .u64 a0_1, .int .u64 a0_2, .int .i64 a0_3] 38 ?_; intro gb720 hg w9 hbox hb; have BK720 := Aside0.mk (hbox); have GW720 := gw_ HB hg; have GE720 := gw_ HB hg; replace HB := bs_ HB hb; clear hb hbox hg) | ((with_reducible refine gate_dst (N := 6) rfl ?_); refine bx_ 6 #[.bool a2_0, .int .u64 a2_1, .int .u64 a2_2, .int .i64 a2_3] 38 ?_; intro gb721 hg w10 hbox hb; have BK721 := Aside0.mk (hbox); have GW721 := gw_ HB hg; have GE721 := gw_ HB hg; have NB720_721 := nl_ BK720 hg; have NB721_720 := ng_ BK720 hg; replace BK720 := bb_ BK720 hb; replace HB := bs_ HB hb; clear hb hbox hg) | ((with_reducible refine gate_dst (N := 7) rfl ?_); refine bx_ 7 #[.int .u64 a3_0, .int .u64 a3_1] 24 ?_; intro gb722 hg w11 hbox hb; have BK722 := Aside0.mk (hbox); have GW722 := gw_ HB hg; have GE722 := gw_ HB hg; have NB720_722 := nl_ BK720 hg; have NB722_720 := ng_ BK720 hg; have NB721_722 := nl_ BK721 hg; have NB722_721 := ng_ BK721 hg; replace BK720 := bb_ BK720 hb; replace BK721 := bb_ BK721 hb; replace HB := bs_ HB hb; clear hb hbox hg) | ((with_reducible refine gate_callee (f := 46) rfl ?_); refine gl_ (some 18) Tryz.func46 #[] ?_; (with_reducible refine (platbooklaw04_awake.calls k  true _ ?side1 rfl A5.out).mono ?_); (case side1 => exact glob_keep HGLB.out (pb_ HB)); rintro e w12 ⟨rfl, hb⟩; refine ⟨_, rfl, ?_⟩; replace BK720 := bb_ BK720 hb; replace BK721 := bb_ BK721 hb; replace BK722 := bb_ BK722 hb; replace HB := bs_ HB hb; (try clear hb); (try clear hb2); (try clear hk); (try clear hi); have hnb13 := NB720_721.out; have hnc13 := NB721_720.out; have hnb14 := NB720_722.out; have hnc14 := NB722_720.out; obtain ⟨hcz15_0, hcz15_1, hcz15_2, hcz15_3, hfz15_0, hfz15_1, hfz15_2, hfz15_3⟩ := c4_ BK720; have hnb16 := NB721_722.out; have hnc16 := NB722_721.out; obtain ⟨hcz17_0, hcz17_1, hcz17_2, hcz17_3, hfz17_0, hfz17_1, hfz17_2, hfz17_3⟩ := c4_ BK721) | ((with_reducible refine gate_callee (f := 57) rfl ?_); refine gl_ (some 24) Tryz.func57 #[.agg #[.bool a0_0, .int .u64 a0_1, .int .u64 a0_2, .int .i64 a0_3], .int .i64 a1, .agg #[.bool a2_0, .int .u64 a2_1, .int .u64 a2_2, .int .i64 a2_3]] ?_; (with_reducible refine (carve_Span.calls k a0_0 a0_1 a0_2 a0_3 a1 a2_0 a2_1 a2_2 a2_3 t724 t725 t726 t727 t728 _ A7.out).mono ?_); rintro e w18 ⟨rfl, hb⟩; refine ⟨_, rfl, ?_⟩; replace BK720 := bb_ BK720 hb; replace BK721 := bb_ BK721 hb; replace BK722 := bb_ BK722 hb; replace HB := bs_ HB hb; (try clear hb); (try clear hb2); (try clear hk); (try clear hi)) | ((with_reducible refine gate_dst (N := 9) rfl ?_); refine bx_ 9 #[.int .u64 0, .int .u64 0] 24 ?_; intro gb729 hg w19 hbox hb; have BK729 := Aside0.mk (hbox); have GW729 := gw_ HB hg; have GE729 := gw_ HB hg; have NB720_729 := nl_ BK720 hg; have NB729_720 := ng_ BK720 hg; have NB721_729 := nl_ BK721 hg; have NB729_721 := ng_ BK721 hg; have NB722_729 := nl_ BK722 hg; have NB729_722 := ng_ BK722 hg; replace BK720 := bb_ BK720 hb; replace BK721 := bb_ BK721 hb; replace BK722 := bb_ BK722 hb; replace HB := bs_ HB hb; clear hb hbox hg) | ((with_reducible refine gate_dst (N := 10) rfl ?_); refine bx_ 10 #[.int .u64 0, .int .u64 0] 24 ?_; intro gb730 hg w20 hbox hb; have BK730 := Aside0.mk (hbox); have GW730 := gw_ HB hg; have GE730 := gw_ HB hg; have NB720_730 := nl_ BK720 hg; have NB730_720 := ng_ BK720 hg; have NB721_730 := nl_ BK721 hg; have NB730_721 := ng_ BK721 hg; have NB722_730 := nl_ BK722 hg; have NB730_722 := ng_ BK722 hg; have NB729_730 := nl_ BK729 hg; have NB730_729 := ng_ BK729 hg; replace BK720 := bb_ BK720 hb; replace BK721 := bb_ BK721 hb; replace BK722 := bb_ BK722 hb; replace BK729 := bb_ BK729 hb; replace HB := bs_ HB hb; clear hb hbox hg; have hnb21 := NB729_720.out; have hnc21 := NB720_729.out; have hnb22 := NB729_721.out; have hnc22 := NB721_729.out; have hnb23 := NB729_722.out; have hnc23 := NB722_729.out; have hnb24 := NB729_730.out; have hnc24 := NB730_729.out; obtain ⟨hcz25_0, hcz25_1, hfz25_0, hfz25_1⟩ := c2_ BK729; have hnb26 := NB730_720.out; have hnc26 := NB720_730.out; have hnb27 := NB730_721.out; have hnc27 := NB721_730.out; have hnb28 := NB730_722.out; have hnc28 := NB722_730.out; obtain ⟨hcz29_0, hcz29_1, hfz29_0, hfz29_1⟩ := c2_ BK730))
  (try simp only [Act.put, List.setIfInBounds_toArray, List.set_cons_zero, List.set_cons_succ])
  go_cut [36] (fun v36 wc => ∃ (kq : Nat) (x36_7 : Bool), v36 = .bool x36_7 ∧ Aside0 (platbooklaw04_CarveSpans.j0 kq a1 t728 x36_7 a0_0 a0_1 a0_2 a0_3 a2_0 a2_1 a2_2 a2_3 a3_0 a3_1 t724 t725 t726 t727 = some r) ∧ Aside0 (kq ≤ k) ∧ Aside0 (wc.heap[gb720]? = some (.cells #[.bool a0_0, .int .u64 a0_1, .int .u64 a0_2, .int .i64 a0_3] 38 (0, 0))) ∧ Aside0 (wc.heap[gb721]? = some (.cells #[.bool a2_0, .int .u64 a2_1, .int .u64 a2_2, .int .i64 a2_3] 38 (0, 0))) ∧ Aside0 (wc.heap[gb722]? = some (.cells #[.int .u64 a3_0, .int .u64 a3_1] 24 (0, 0))) ∧ Aside0 (wc.heap[gb729]? = some (.cells #[.int .u64 t724, .int .u64 t725] 24 (0, 0))) ∧ Aside0 (wc.heap[gb730]? = some (.cells #[.int .u64 t726, .int .u64 t727] 24 (0, 0))) ∧ Aside0 (Below w.heap.size w wc))
  case first =>
   have H := HC8.out
   clear HC8
   replace H := Option.bind_eq_some_iff.mp H
   obtain ⟨t731, A300, H⟩ := H
   replace H : (if t731 = true then ((platbookref03_Right.f k a2_0 a2_1 a2_2 a2_3).bind fun t732 => (platbooklaw04_CarveSpans.j0 k a1 t728 (!t732) a0_0 a0_1 a0_2 a0_3 a2_0 a2_1 a2_2 a2_3 a3_0 a3_1 t724 t725 t726 t727)) else (platbooklaw04_CarveSpans.j0 k a1 t728 true a0_0 a0_1 a0_2 a0_3 a2_0 a2_1 a2_2 a2_3 a3_0 a3_1 t724 t725 t726 t727)) = some r := H
   have A30 := Aside0.mk A300
   clear A300
   by_cases c31 : t731 = true
   ·
    subst c31
    rw [if_pos rfl] at H
    replace H := Option.bind_eq_some_iff.mp H
    obtain ⟨t732, A320, H⟩ := H
    replace H : (platbooklaw04_CarveSpans.j0 k a1 t728 (!t732) a0_0 a0_1 a0_2 a0_3 a2_0 a2_1 a2_2 a2_3 a3_0 a3_1 t724 t725 t726 t727) = some r := H
    have A32 := Aside0.mk A320
    clear A320
    have H' := Aside0.mk H
    clear H
    have hnb33 := NB720_721.out
    have hnc33 := NB721_720.out
    have hnb34 := NB720_722.out
    have hnc34 := NB722_720.out
    have hnb35 := NB720_729.out
    have hnc35 := NB729_720.out
    have hnb36 := NB720_730.out
    have hnc36 := NB730_720.out
    obtain ⟨hcz37_0, hcz37_1, hcz37_2, hcz37_3, hfz37_0, hfz37_1, hfz37_2, hfz37_3⟩ := c4_ BK720
    go_wp2_with (first | ((with_reducible refine gate_callee (f := 55) rfl ?_); refine gl_ (some 30) Tryz.func55 #[.agg #[.bool a0_0, .int .u64 a0_1, .int .u64 a0_2, .int .i64 a0_3], .int .i64 a1] ?_; (with_reducible refine (platbookref04_Cuts.calls k a0_0 a0_1 a0_2 a0_3 a1 true _ A30.out).mono ?_); rintro e w38 ⟨rfl, hb⟩; refine ⟨_, rfl, ?_⟩; replace BK720 := Aside0.mk (blk_below (g := gb720) (o := .cells #[.bool a0_0, .int .u64 a0_1, .int .u64 a0_2, .int .i64 a0_3] 38 (0, 0)) (by refine pw_ ?_; refine blk_far ?_ NB720_730.out _; refine pw_ ?_; refine blk_far ?_ NB720_730.out _; refine pw_ ?_; refine blk_far ?_ NB720_729.out _; refine pw_ ?_; refine blk_far ?_ NB720_729.out _; refine pw_ ?_; exact BK720.out) hb); replace BK721 := Aside0.mk (blk_below (g := gb721) (o := .cells #[.bool a2_0, .int .u64 a2_1, .int .u64 a2_2, .int .i64 a2_3] 38 (0, 0)) (by refine pw_ ?_; refine blk_far ?_ NB721_730.out _; refine pw_ ?_; refine blk_far ?_ NB721_730.out _; refine pw_ ?_; refine blk_far ?_ NB721_729.out _; refine pw_ ?_; refine blk_far ?_ NB721_729.out _; refine pw_ ?_; exact BK721.out) hb); replace BK722 := Aside0.mk (blk_below (g := gb722) (o := .cells #[.int .u64 a3_0, .int .u64 a3_1] 24 (0, 0)) (by refine pw_ ?_; refine blk_far ?_ NB722_730.out _; refine pw_ ?_; refine blk_far ?_ NB722_730.out _; refine pw_ ?_; refine blk_far ?_ NB722_729.out _; refine pw_ ?_; refine blk_far ?_ NB722_729.out _; refine pw_ ?_; exact BK722.out) hb); replace BK729 := Aside0.mk (blk_below (g := gb729) (o := .cells #[.int .u64 t724, .int .u64 t725] 24 (0, 0)) (by refine pw_ ?_; refine blk_far ?_ NB729_730.out _; refine pw_ ?_; refine blk_far ?_ NB729_730.out _; refine pw_ ?_; refine blk_put (cs := #[.int .u64 t724, .int .u64 0]) ?_ 1 _ rfl; refine pw_ ?_; refine blk_put (cs := #[.int .u64 0, .int .u64 0]) ?_ 0 _ rfl; refine pw_ ?_; exact BK729.out) hb); replace BK730 := Aside0.mk (blk_below (g := gb730) (o := .cells #[.int .u64 t726, .int .u64 t727] 24 (0, 0)) (by refine pw_ ?_; refine blk_put (cs := #[.int .u64 t726, .int .u64 0]) ?_ 1 _ rfl; refine pw_ ?_; refine blk_put (cs := #[.int .u64 0, .int .u64 0]) ?_ 0 _ rfl; refine pw_ ?_; refine blk_far ?_ NB730_729.out _; refine pw_ ?_; refine blk_far ?_ NB730_729.out _; refine pw_ ?_; exact BK730.out) hb); replace HB := bs_ HB hb; (try clear hb); (try clear hb2); (try clear hk); (try clear hi); have hnb39 := NB721_722.out; have hnc39 := NB722_721.out; have hnb40 := NB721_729.out; have hnc40 := NB729_721.out; have hnb41 := NB721_730.out; have hnc41 := NB730_721.out; obtain ⟨hcz42_0, hcz42_1, hcz42_2, hcz42_3, hfz42_0, hfz42_1, hfz42_2, hfz42_3⟩ := c4_ BK721) | (go_at_call 29; (with_reducible refine (platbookref03_Right.calls k a2_0 a2_1 a2_2 a2_3 t732 _ A32.out).mono ?_); rintro e w43 ⟨rfl, hb⟩; replace BK720 := bb_ BK720 hb; replace BK721 := bb_ BK721 hb; replace BK722 := bb_ BK722 hb; replace BK729 := bb_ BK729 hb; replace BK730 := bb_ BK730 hb; replace HB := bs_ HB hb; (try clear hb); (try clear hb2); (try clear hk); (try clear hi)))
    go_meet
    case rel => exact ⟨_, (!t732), (by first | rfl | (simp; done) | (simp [*]; done)), H', ⟨by first | omega | exact Nat.le_refl _⟩, ⟨by refine pw_ ?_; exact BK720.out⟩, ⟨by refine pw_ ?_; exact BK721.out⟩, ⟨by refine pw_ ?_; exact BK722.out⟩, ⟨by refine pw_ ?_; exact BK729.out⟩, ⟨by refine pw_ ?_; exact BK730.out⟩, ⟨pb_ HB⟩⟩
   ·
    replace c31 := Bool.eq_false_iff.mpr c31
    subst c31
    have H1 : (platbooklaw04_CarveSpans.j0 k a1 t728 true a0_0 a0_1 a0_2 a0_3 a2_0 a2_1 a2_2 a2_3 a3_0 a3_1 t724 t725 t726 t727) = some r := by rw [if_neg (show ¬ (false = true) by decide)] at H; exact H
    clear H
    have H := H1
    clear H1
    have H' := Aside0.mk H
    clear H
    have hnb44 := NB720_721.out
    have hnc44 := NB721_720.out
    have hnb45 := NB720_722.out
    have hnc45 := NB722_720.out
    have hnb46 := NB720_729.out
    have hnc46 := NB729_720.out
    have hnb47 := NB720_730.out
    have hnc47 := NB730_720.out
    obtain ⟨hcz48_0, hcz48_1, hcz48_2, hcz48_3, hfz48_0, hfz48_1, hfz48_2, hfz48_3⟩ := c4_ BK720
    go_wp2_with (first | ((with_reducible refine gate_callee (f := 55) rfl ?_); refine gl_ (some 30) Tryz.func55 #[.agg #[.bool a0_0, .int .u64 a0_1, .int .u64 a0_2, .int .i64 a0_3], .int .i64 a1] ?_; (with_reducible refine (platbookref04_Cuts.calls k a0_0 a0_1 a0_2 a0_3 a1 false _ A30.out).mono ?_); rintro e w49 ⟨rfl, hb⟩; refine ⟨_, rfl, ?_⟩; replace BK720 := Aside0.mk (blk_below (g := gb720) (o := .cells #[.bool a0_0, .int .u64 a0_1, .int .u64 a0_2, .int .i64 a0_3] 38 (0, 0)) (by refine pw_ ?_; refine blk_far ?_ NB720_730.out _; refine pw_ ?_; refine blk_far ?_ NB720_730.out _; refine pw_ ?_; refine blk_far ?_ NB720_729.out _; refine pw_ ?_; refine blk_far ?_ NB720_729.out _; refine pw_ ?_; exact BK720.out) hb); replace BK721 := Aside0.mk (blk_below (g := gb721) (o := .cells #[.bool a2_0, .int .u64 a2_1, .int .u64 a2_2, .int .i64 a2_3] 38 (0, 0)) (by refine pw_ ?_; refine blk_far ?_ NB721_730.out _; refine pw_ ?_; refine blk_far ?_ NB721_730.out _; refine pw_ ?_; refine blk_far ?_ NB721_729.out _; refine pw_ ?_; refine blk_far ?_ NB721_729.out _; refine pw_ ?_; exact BK721.out) hb); replace BK722 := Aside0.mk (blk_below (g := gb722) (o := .cells #[.int .u64 a3_0, .int .u64 a3_1] 24 (0, 0)) (by refine pw_ ?_; refine blk_far ?_ NB722_730.out _; refine pw_ ?_; refine blk_far ?_ NB722_730.out _; refine pw_ ?_; refine blk_far ?_ NB722_729.out _; refine pw_ ?_; refine blk_far ?_ NB722_729.out _; refine pw_ ?_; exact BK722.out) hb); replace BK729 := Aside0.mk (blk_below (g := gb729) (o := .cells #[.int .u64 t724, .int .u64 t725] 24 (0, 0)) (by refine pw_ ?_; refine blk_far ?_ NB729_730.out _; refine pw_ ?_; refine blk_far ?_ NB729_730.out _; refine pw_ ?_; refine blk_put (cs := #[.int .u64 t724, .int .u64 0]) ?_ 1 _ rfl; refine pw_ ?_; refine blk_put (cs := #[.int .u64 0, .int .u64 0]) ?_ 0 _ rfl; refine pw_ ?_; exact BK729.out) hb); replace BK730 := Aside0.mk (blk_below (g := gb730) (o := .cells #[.int .u64 t726, .int .u64 t727] 24 (0, 0)) (by refine pw_ ?_; refine blk_put (cs := #[.int .u64 t726, .int .u64 0]) ?_ 1 _ rfl; refine pw_ ?_; refine blk_put (cs := #[.int .u64 0, .int .u64 0]) ?_ 0 _ rfl; refine pw_ ?_; refine blk_far ?_ NB730_729.out _; refine pw_ ?_; refine blk_far ?_ NB730_729.out _; refine pw_ ?_; exact BK730.out) hb); replace HB := bs_ HB hb; (try clear hb); (try clear hb2); (try clear hk); (try clear hi)))
    go_meet
    case rel => exact ⟨_, (true), (by first | rfl | (simp; done) | (simp [*]; done)), H', ⟨by first | omega | exact Nat.le_refl _⟩, ⟨by refine pw_ ?_; exact BK720.out⟩, ⟨by refine pw_ ?_; exact BK721.out⟩, ⟨by refine pw_ ?_; exact BK722.out⟩, ⟨by refine pw_ ?_; exact BK729.out⟩, ⟨by refine pw_ ?_; exact BK730.out⟩, ⟨pb_ HB⟩⟩
  case rest =>
   clear HC8
   try clear c1
   try clear c2
   try clear p2
   try clear c3
   try clear c4
   try clear c5
   try clear c6
   try clear c10
   try clear c13
   try clear c14
   try clear c16
   try clear c21
   try clear c22
   try clear c23
   try clear c24
   try clear c26
   try clear c27
   try clear c28
   try clear c31
   try clear c33
   try clear c34
   try clear c35
   try clear c36
   try clear c39
   try clear c40
   try clear c41
   try clear c44
   try clear c45
   try clear c46
   try clear c47
   try clear hcz15_0
   try clear hcz15_1
   try clear hcz15_2
   try clear hcz15_3
   try clear hcz17_0
   try clear hcz17_1
   try clear hcz17_2
   try clear hcz17_3
   try clear hcz25_0
   try clear hcz25_1
   try clear hcz29_0
   try clear hcz29_1
   try clear hcz37_0
   try clear hcz37_1
   try clear hcz37_2
   try clear hcz37_3
   try clear hcz42_0
   try clear hcz42_1
   try clear hcz42_2
   try clear hcz42_3
   try clear hcz48_0
   try clear hcz48_1
   try clear hcz48_2
   try clear hcz48_3
   try clear hfz15_0
   try clear hfz15_1
   try clear hfz15_2
   try clear hfz15_3
   try clear hfz17_0
   try clear hfz17_1
   try clear hfz17_2
   try clear hfz17_3
   try clear hfz25_0
   try clear hfz25_1
   try clear hfz29_0
   try clear hfz29_1
   try clear hfz37_0
   try clear hfz37_1
   try clear hfz37_2
   try clear hfz37_3
   try clear hfz42_0
   try clear hfz42_1
   try clear hfz42_2
   try clear hfz42_3
   try clear hfz48_0
   try clear hfz48_1
   try clear hfz48_2
   try clear hfz48_3
   obtain ⟨kq, x36_7, rfl, HA, HJ7, BK720, BK721, BK722, BK729, BK730, HB⟩ := hcut
   cases kq with
   | zero => exact absurd HA.out (by simp [platbooklaw04_CarveSpans.j0])
   | succ kj7 =>
    have H := HA.out
    clear HA
    simp only [platbooklaw04_CarveSpans.j0] at H
    by_cases c50 : x36_7 = true
    ·
     subst c50
     rw [if_pos rfl] at H
     by_cases c51 : t728 = 1
     ·
      rw [if_pos c51] at H
      have c51b0 : (t728 == 1) = true := beq_iff_eq.mpr c51
      have c51b1 : (t728 != 1) = false := bne_eq_false_iff_eq.mpr c51
      clear c51
      by_cases c52 : (t724 == 0 && (t725 == 0)) = true
      ·
       rw [if_pos c52] at H
       have c52b0 : (t724 == 0 && (t725 == 0)) = true := c52
       (try (have c52b1 : decide (t724 = 0 && (t725 == 0)) = true := by simpa using c52))
       (try (have c52b2 : (t724 == 0 && (t725 == 0)) = true := by simpa using c52))
       clear c52
       obtain rfl := Option.some.inj H
       have hnb53 := NB729_720.out
       have hnc53 := NB720_729.out
       have hnb54 := NB729_721.out
       have hnc54 := NB721_729.out
       have hnb55 := NB729_722.out
       have hnc55 := NB722_729.out
       have hnb56 := NB729_730.out
       have hnc56 := NB730_729.out
       obtain ⟨hcz57_0, hcz57_1, hfz57_0, hfz57_1⟩ := c2_ BK729
       have hnb58 := NB730_720.out
       have hnc58 := NB720_730.out
       have hnb59 := NB730_721.out
       have hnc59 := NB721_730.out
       have hnb60 := NB730_722.out
       have hnc60 := NB722_730.out
       obtain ⟨hcz61_0, hcz61_1, hfz61_0, hfz61_1⟩ := c2_ BK730
       go_wp2
       go_ret
       exact ⟨by first | rfl | (simp [errW_none, errW_some] <;> rfl) | (simp [*, errW_none, errW_some] <;> rfl), pb_ HB⟩
      ·
       rw [if_neg c52] at H
       have c52b0 : (t724 == 0 && (t725 == 0)) = false := by simpa using c52
       (try (have c52b1 : decide (t724 = 0 && (t725 == 0)) = false := by simpa using c52))
       (try (have c52b2 : (t724 == 0 && (t725 == 0)) = false := by simpa using c52))
       (try (have c52b3 : ¬ (t724 = 0 && (t725 == 0)) := by simpa using c52))
       clear c52
       obtain rfl := Option.some.inj H
       exact absurd HRT.out (by decide)
     ·
      rw [if_neg c51] at H
      have c51b0 : (t728 == 1) = false := beq_eq_false_iff_ne.mpr c51
      have c51b1 : (t728 != 1) = true := bne_iff_ne.mpr c51
      obtain rfl := Option.some.inj H
      exact absurd HRT.out (by decide)
    ·
     replace c50 := Bool.eq_false_iff.mpr c50
     subst c50
     have H1 : ((platbookref03_Overlap.f kj7 a0_0 a0_1 a0_2 a0_3 a2_0 a2_1 a2_2 a2_3).bind fun t733 => (if t733 = true then (if t728 = 0 then ((num_Cmp.f t724 t725 t726 t727).bind fun t734 => (platbooklaw04_CarveSpans.j1 kj7 a1 (decide (t734 > 0)) a0_0 a0_1 a0_2 a0_3 a2_0 a2_1 a2_2 a2_3 a3_0 a3_1 t724 t725 t726 t727)) else (platbooklaw04_CarveSpans.j1 kj7 a1 true a0_0 a0_1 a0_2 a0_3 a2_0 a2_1 a2_2 a2_3 a3_0 a3_1 t724 t725 t726 t727)) else (if t728 = 12 then (if (t724 == 0 && (t725 == 0)) = true then (some (t726 == 0 && (t727 == 0))) else (some false)) else (some false)))) = some r := by rw [if_neg (show ¬ (false = true) by decide)] at H; exact H
     clear H
     have H := H1
     clear H1
     replace H := Option.bind_eq_some_iff.mp H
     obtain ⟨t733, A620, H⟩ := H
     replace H : (if t733 = true then (if t728 = 0 then ((num_Cmp.f t724 t725 t726 t727).bind fun t734 => (platbooklaw04_CarveSpans.j1 kj7 a1 (decide (t734 > 0)) a0_0 a0_1 a0_2 a0_3 a2_0 a2_1 a2_2 a2_3 a3_0 a3_1 t724 t725 t726 t727)) else (platbooklaw04_CarveSpans.j1 kj7 a1 true a0_0 a0_1 a0_2 a0_3 a2_0 a2_1 a2_2 a2_3 a3_0 a3_1 t724 t725 t726 t727)) else (if t728 = 12 then (if (t724 == 0 && (t725 == 0)) = true then (some (t726 == 0 && (t727 == 0))) else (some false)) else (some false))) = some r := H
     have A62 := Aside0.mk A620
     clear A620
     by_cases c63 : t733 = true
     ·
      subst c63
      rw [if_pos rfl] at H
      have HC64 := Aside0.mk H
      clear H
      have hnb65 := NB720_721.out
      have hnc65 := NB721_720.out
      have hnb66 := NB720_722.out
      have hnc66 := NB722_720.out
      have hnb67 := NB720_729.out
      have hnc67 := NB729_720.out
      have hnb68 := NB720_730.out
      have hnc68 := NB730_720.out
      obtain ⟨hcz69_0, hcz69_1, hcz69_2, hcz69_3, hfz69_0, hfz69_1, hfz69_2, hfz69_3⟩ := c4_ BK720
      have hnb70 := NB721_722.out
      have hnc70 := NB722_721.out
      have hnb71 := NB721_729.out
      have hnc71 := NB729_721.out
      have hnb72 := NB721_730.out
      have hnc72 := NB730_721.out
      obtain ⟨hcz73_0, hcz73_1, hcz73_2, hcz73_3, hfz73_0, hfz73_1, hfz73_2, hfz73_3⟩ := c4_ BK721
      go_upto_region 8 with (first | ((with_reducible refine gate_callee (f := 44) rfl ?_); refine gl_ (some 51) Tryz.func44 #[.agg #[.bool a0_0, .int .u64 a0_1, .int .u64 a0_2, .int .i64 a0_3], .agg #[.bool a2_0, .int .u64 a2_1, .int .u64 a2_2, .int .i64 a2_3]] ?_; (with_reducible refine (platbookref03_Overlap.calls kj7 a0_0 a0_1 a0_2 a0_3 a2_0 a2_1 a2_2 a2_3 true _ A62.out).mono ?_); rintro e w74 ⟨rfl, hb⟩; refine ⟨_, rfl, ?_⟩; replace BK720 := bb_ BK720 hb; replace BK721 := bb_ BK721 hb; replace BK722 := bb_ BK722 hb; replace BK729 := bb_ BK729 hb; replace BK730 := bb_ BK730 hb; replace HB := bs_ HB hb; (try clear hb); (try clear hb2); (try clear hk); (try clear hi)))
      (try simp only [Act.put, List.setIfInBounds_toArray, List.set_cons_zero, List.set_cons_succ])
      go_cut [72] (fun v72 wc => ∃ (kq : Nat) (x72_63 : Bool), v72 = .bool x72_63 ∧ Aside0 (platbooklaw04_CarveSpans.j1 kq a1 x72_63 a0_0 a0_1 a0_2 a0_3 a2_0 a2_1 a2_2 a2_3 a3_0 a3_1 t724 t725 t726 t727 = some r) ∧ Aside0 (kq ≤ kj7) ∧ Aside0 (wc.heap[gb720]? = some (.cells #[.bool a0_0, .int .u64 a0_1, .int .u64 a0_2, .int .i64 a0_3] 38 (0, 0))) ∧ Aside0 (wc.heap[gb721]? = some (.cells #[.bool a2_0, .int .u64 a2_1, .int .u64 a2_2, .int .i64 a2_3] 38 (0, 0))) ∧ Aside0 (wc.heap[gb722]? = some (.cells #[.int .u64 a3_0, .int .u64 a3_1] 24 (0, 0))) ∧ Aside0 (wc.heap[gb729]? = some (.cells #[.int .u64 t724, .int .u64 t725] 24 (0, 0))) ∧ Aside0 (wc.heap[gb730]? = some (.cells #[.int .u64 t726, .int .u64 t727] 24 (0, 0))) ∧ Aside0 (Below w.heap.size w wc))
      case first =>
       have H := HC64.out
       clear HC64
       by_cases c75 : t728 = 0
       ·
        rw [if_pos c75] at H
        have c75b0 : (t728 == 0) = true := beq_iff_eq.mpr c75
        have c75b1 : (t728 != 0) = false := bne_eq_false_iff_eq.mpr c75
        clear c75
        (first | rw [c75b0] | (simp only [i64_w, i32_w]; rw [c75b0]) | skip)
        replace H := Option.bind_eq_some_iff.mp H
        obtain ⟨t734, A760, H⟩ := H
        replace H : (platbooklaw04_CarveSpans.j1 kj7 a1 (decide (t734 > 0)) a0_0 a0_1 a0_2 a0_3 a2_0 a2_1 a2_2 a2_3 a3_0 a3_1 t724 t725 t726 t727) = some r := H
        have A76 := Aside0.mk A760
        clear A760
        have H' := Aside0.mk H
        clear H
        have hnb77 := NB729_720.out
        have hnc77 := NB720_729.out
        have hnb78 := NB729_721.out
        have hnc78 := NB721_729.out
        have hnb79 := NB729_722.out
        have hnc79 := NB722_729.out
        have hnb80 := NB729_730.out
        have hnc80 := NB730_729.out
        obtain ⟨hcz81_0, hcz81_1, hfz81_0, hfz81_1⟩ := c2_ BK729
        have hnb82 := NB730_720.out
        have hnc82 := NB720_730.out
        have hnb83 := NB730_721.out
        have hnc83 := NB721_730.out
        have hnb84 := NB730_722.out
        have hnc84 := NB722_730.out
        obtain ⟨hcz85_0, hcz85_1, hfz85_0, hfz85_1⟩ := c2_ BK730
        go_wp2_with (first | (go_at_call 53; (with_reducible refine (num_Cmp.calls t724 t725 t726 t727 t734 _ A76.out).mono ?_); rintro e w86 ⟨rfl, hb⟩; replace BK720 := bb_ BK720 hb; replace BK721 := bb_ BK721 hb; replace BK722 := bb_ BK722 hb; replace BK729 := bb_ BK729 hb; replace BK730 := bb_ BK730 hb; replace HB := bs_ HB hb; (try clear hb); (try clear hb2); (try clear hk); (try clear hi)))
        go_meet
        case rel => exact ⟨_, (decide (t734 > 0)), (by first | rfl | (simp; done) | (simp [*]; done)), H', ⟨by have := HJ7.out; first | omega | exact Nat.le_refl _⟩, ⟨by refine pw_ ?_; exact BK720.out⟩, ⟨by refine pw_ ?_; exact BK721.out⟩, ⟨by refine pw_ ?_; exact BK722.out⟩, ⟨by refine pw_ ?_; exact BK729.out⟩, ⟨by refine pw_ ?_; exact BK730.out⟩, ⟨pb_ HB⟩⟩
       ·
        rw [if_neg c75] at H
        have c75b0 : (t728 == 0) = false := beq_eq_false_iff_ne.mpr c75
        have c75b1 : (t728 != 0) = true := bne_iff_ne.mpr c75
        (first | rw [c75b0] | (simp only [i64_w, i32_w]; rw [c75b0]) | skip)
        have H' := Aside0.mk H
        clear H
        go_wp2
        go_meet
        case rel => exact ⟨_, (true), (by first | rfl | (simp; done) | (simp [*]; done)), H', ⟨by have := HJ7.out; first | omega | exact Nat.le_refl _⟩, ⟨by refine pw_ ?_; exact BK720.out⟩, ⟨by refine pw_ ?_; exact BK721.out⟩, ⟨by refine pw_ ?_; exact BK722.out⟩, ⟨by refine pw_ ?_; exact BK729.out⟩, ⟨by refine pw_ ?_; exact BK730.out⟩, ⟨pb_ HB⟩⟩
      case rest =>
       clear HC64
       try clear c1
       try clear c2
       try clear p2
       try clear c3
       try clear c4
       try clear c5
       try clear c6
       try clear c7
       try clear c8
       try clear c10
       try clear c13
       try clear c14
       try clear c16
       try clear c21
       try clear c22
       try clear c23
       try clear c24
       try clear c26
       try clear c27
       try clear c28
       try clear c31
       try clear c33
       try clear c34
       try clear c35
       try clear c36
       try clear c39
       try clear c40
       try clear c41
       try clear c44
       try clear c45
       try clear c46
       try clear c47
       try clear c50
       try clear c51
       try clear c51b0
       try clear c51b1
       try clear c52
       try clear c52b0
       try clear c52b1
       try clear c52b2
       try clear c53
       try clear c54
       try clear c55
       try clear c56
       try clear c57
       try clear c58
       try clear c59
       try clear c60
       try clear c63
       try clear c65
       try clear c66
       try clear c67
       try clear c68
       try clear c70
       try clear c71
       try clear c72
       try clear c75
       try clear c75b0
       try clear c75b1
       try clear c77
       try clear c78
       try clear c79
       try clear c80
       try clear c82
       try clear c83
       try clear c84
       try clear hcz15_0
       try clear hcz15_1
       try clear hcz15_2
       try clear hcz15_3
       try clear hcz17_0
       try clear hcz17_1
       try clear hcz17_2
       try clear hcz17_3
       try clear hcz25_0
       try clear hcz25_1
       try clear hcz29_0
       try clear hcz29_1
       try clear hcz37_0
       try clear hcz37_1
       try clear hcz37_2
       try clear hcz37_3
       try clear hcz42_0
       try clear hcz42_1
       try clear hcz42_2
       try clear hcz42_3
       try clear hcz48_0
       try clear hcz48_1
       try clear hcz48_2
       try clear hcz48_3
       try clear hcz57_0
       try clear hcz57_1
       try clear hcz61_0
       try clear hcz61_1
       try clear hcz69_0
       try clear hcz69_1
       try clear hcz69_2
       try clear hcz69_3
       try clear hcz73_0
       try clear hcz73_1
       try clear hcz73_2
       try clear hcz73_3
       try clear hcz81_0
       try clear hcz81_1
       try clear hcz85_0
       try clear hcz85_1
       try clear hfz15_0
       try clear hfz15_1
       try clear hfz15_2
       try clear hfz15_3
       try clear hfz17_0
       try clear hfz17_1
       try clear hfz17_2
       try clear hfz17_3
       try clear hfz25_0
       try clear hfz25_1
       try clear hfz29_0
       try clear hfz29_1
       try clear hfz37_0
       try clear hfz37_1
       try clear hfz37_2
       try clear hfz37_3
       try clear hfz42_0
       try clear hfz42_1
       try clear hfz42_2
       try clear hfz42_3
       try clear hfz48_0
       try clear hfz48_1
       try clear hfz48_2
       try clear hfz48_3
       try clear hfz57_0
       try clear hfz57_1
       try clear hfz61_0
       try clear hfz61_1
       try clear hfz69_0
       try clear hfz69_1
       try clear hfz69_2
       try clear hfz69_3
       try clear hfz73_0
       try clear hfz73_1
       try clear hfz73_2
       try clear hfz73_3
       try clear hfz81_0
       try clear hfz81_1
       try clear hfz85_0
       try clear hfz85_1
       try clear p2
       obtain ⟨kq, x72_63, rfl, HA, HJ63, BK720, BK721, BK722, BK729, BK730, HB⟩ := hcut
       cases kq with
       | zero => exact absurd HA.out (by simp [platbooklaw04_CarveSpans.j1])
       | succ kj63 =>
        have H := HA.out
        clear HA
        simp only [platbooklaw04_CarveSpans.j1] at H
        by_cases c87 : x72_63 = true
        ·
         subst c87
         rw [if_pos rfl] at H
         obtain rfl := Option.some.inj H
         exact absurd HRT.out (by decide)
        ·
         replace c87 := Bool.eq_false_iff.mpr c87
         subst c87
         have H1 : ((carve_Block.f a0_0 a0_1 a0_2 a0_3 a1 t724 t725).bind fun bt735 => ((carve_Block.f a0_0 a0_1 a0_2 a0_3 a1 t726 t727).bind fun bt741 => (if bt735.2.2.2.2 = 0 then (if bt741.2.2.2.2 = 0 then ((prefix_Overlap.f kj63 bt735.1 bt735.2.1 bt735.2.2.1 bt735.2.2.2.1 a2_0 a2_1 a2_2 a2_3).bind fun t747 => (if t747 = true then ((prefix_Overlap.f kj63 bt741.1 bt741.2.1 bt741.2.2.1 bt741.2.2.2.1 a2_0 a2_1 a2_2 a2_3).bind fun t748 => (platbooklaw04_CarveSpans.j2 kj63 a1 (!t748) a0_0 a0_1 a0_2 a0_3 a2_0 a2_1 a2_2 a2_3 a3_0 a3_1 t724 t725 t726 t727)) else (platbooklaw04_CarveSpans.j2 kj63 a1 true a0_0 a0_1 a0_2 a0_3 a2_0 a2_1 a2_2 a2_3 a3_0 a3_1 t724 t725 t726 t727))) else (platbooklaw04_CarveSpans.j2 kj63 a1 true a0_0 a0_1 a0_2 a0_3 a2_0 a2_1 a2_2 a2_3 a3_0 a3_1 t724 t725 t726 t727)) else (platbooklaw04_CarveSpans.j2 kj63 a1 true a0_0 a0_1 a0_2 a0_3 a2_0 a2_1 a2_2 a2_3 a3_0 a3_1 t724 t725 t726 t727)))) = some r := by rw [if_neg (show ¬ (false = true) by decide)] at H; exact H
         clear H
         have H := H1
         clear H1
         replace H := Option.bind_eq_some_iff.mp H
         obtain ⟨⟨t735, t736, t737, t738, t739⟩, A880, H⟩ := H
         replace H : ((carve_Block.f a0_0 a0_1 a0_2 a0_3 a1 t726 t727).bind fun bt741 => (if t739 = 0 then (if bt741.2.2.2.2 = 0 then ((prefix_Overlap.f kj63 t735 t736 t737 t738 a2_0 a2_1 a2_2 a2_3).bind fun t747 => (if t747 = true then ((prefix_Overlap.f kj63 bt741.1 bt741.2.1 bt741.2.2.1 bt741.2.2.2.1 a2_0 a2_1 a2_2 a2_3).bind fun t748 => (platbooklaw04_CarveSpans.j2 kj63 a1 (!t748) a0_0 a0_1 a0_2 a0_3 a2_0 a2_1 a2_2 a2_3 a3_0 a3_1 t724 t725 t726 t727)) else (platbooklaw04_CarveSpans.j2 kj63 a1 true a0_0 a0_1 a0_2 a0_3 a2_0 a2_1 a2_2 a2_3 a3_0 a3_1 t724 t725 t726 t727))) else (platbooklaw04_CarveSpans.j2 kj63 a1 true a0_0 a0_1 a0_2 a0_3 a2_0 a2_1 a2_2 a2_3 a3_0 a3_1 t724 t725 t726 t727)) else (platbooklaw04_CarveSpans.j2 kj63 a1 true a0_0 a0_1 a0_2 a0_3 a2_0 a2_1 a2_2 a2_3 a3_0 a3_1 t724 t725 t726 t727))) = some r := H
         have A88 := Aside0.mk A880
         clear A880
         replace H := Option.bind_eq_some_iff.mp H
         obtain ⟨⟨t741, t742, t743, t744, t745⟩, A890, H⟩ := H
         replace H : (if t739 = 0 then (if t745 = 0 then ((prefix_Overlap.f kj63 t735 t736 t737 t738 a2_0 a2_1 a2_2 a2_3).bind fun t747 => (if t747 = true then ((prefix_Overlap.f kj63 t741 t742 t743 t744 a2_0 a2_1 a2_2 a2_3).bind fun t748 => (platbooklaw04_CarveSpans.j2 kj63 a1 (!t748) a0_0 a0_1 a0_2 a0_3 a2_0 a2_1 a2_2 a2_3 a3_0 a3_1 t724 t725 t726 t727)) else (platbooklaw04_CarveSpans.j2 kj63 a1 true a0_0 a0_1 a0_2 a0_3 a2_0 a2_1 a2_2 a2_3 a3_0 a3_1 t724 t725 t726 t727))) else (platbooklaw04_CarveSpans.j2 kj63 a1 true a0_0 a0_1 a0_2 a0_3 a2_0 a2_1 a2_2 a2_3 a3_0 a3_1 t724 t725 t726 t727)) else (platbooklaw04_CarveSpans.j2 kj63 a1 true a0_0 a0_1 a0_2 a0_3 a2_0 a2_1 a2_2 a2_3 a3_0 a3_1 t724 t725 t726 t727)) = some r := H
         have A89 := Aside0.mk A890
         clear A890
         have HC90 := Aside0.mk H
         clear H
         have hnb91 := NB720_721.out
         have hnc91 := NB721_720.out
         have hnb92 := NB720_722.out
         have hnc92 := NB722_720.out
         have hnb93 := NB720_729.out
         have hnc93 := NB729_720.out
         have hnb94 := NB720_730.out
         have hnc94 := NB730_720.out
         obtain ⟨hcz95_0, hcz95_1, hcz95_2, hcz95_3, hfz95_0, hfz95_1, hfz95_2, hfz95_3⟩ := c4_ BK720
         have hnb96 := NB729_721.out
         have hnc96 := NB721_729.out
         have hnb97 := NB729_722.out
         have hnc97 := NB722_729.out
         have hnb98 := NB729_730.out
         have hnc98 := NB730_729.out
         obtain ⟨hcz99_0, hcz99_1, hfz99_0, hfz99_1⟩ := c2_ BK729
         go_upto_region 12 with (first | ((with_reducible refine gate_callee (f := 49) rfl ?_); refine gl_ (some 77) Tryz.func49 #[.agg #[.bool a0_0, .int .u64 a0_1, .int .u64 a0_2, .int .i64 a0_3], .int .i64 a1, .agg #[.int .u64 t724, .int .u64 t725]] ?_; (with_reducible refine (carve_Block.calls a0_0 a0_1 a0_2 a0_3 a1 t724 t725 t735 t736 t737 t738 t739 _ A88.out).mono ?_); rintro e w100 ⟨rfl, hb⟩; refine ⟨_, rfl, ?_⟩; replace BK720 := bb_ BK720 hb; replace BK721 := bb_ BK721 hb; replace BK722 := bb_ BK722 hb; replace BK729 := bb_ BK729 hb; replace BK730 := bb_ BK730 hb; replace HB := bs_ HB hb; (try clear hb); (try clear hb2); (try clear hk); (try clear hi)) | ((with_reducible refine gate_dst (N := 12) rfl ?_); refine bx_ 12 #[.bool false, .int .u64 0, .int .u64 0, .int .i64 0] 38 ?_; intro gb740 hg w101 hbox hb; have BK740 := Aside0.mk (hbox); have GW740 := gw_ HB hg; have GE740 := gw_ HB hg; have NB720_740 := nl_ BK720 hg; have NB740_720 := ng_ BK720 hg; have NB721_740 := nl_ BK721 hg; have NB740_721 := ng_ BK721 hg; have NB722_740 := nl_ BK722 hg; have NB740_722 := ng_ BK722 hg; have NB729_740 := nl_ BK729 hg; have NB740_729 := ng_ BK729 hg; have NB730_740 := nl_ BK730 hg; have NB740_730 := ng_ BK730 hg; replace BK720 := bb_ BK720 hb; replace BK721 := bb_ BK721 hb; replace BK722 := bb_ BK722 hb; replace BK729 := bb_ BK729 hb; replace BK730 := bb_ BK730 hb; replace HB := bs_ HB hb; clear hb hbox hg; have hnb102 := NB740_720.out; have hnc102 := NB720_740.out; have hnb103 := NB740_721.out; have hnc103 := NB721_740.out; have hnb104 := NB740_722.out; have hnc104 := NB722_740.out; have hnb105 := NB740_729.out; have hnc105 := NB729_740.out; have hnb106 := NB740_730.out; have hnc106 := NB730_740.out; obtain ⟨hcz107_0, hcz107_1, hcz107_2, hcz107_3, hfz107_0, hfz107_1, hfz107_2, hfz107_3⟩ := c4_ BK740; obtain ⟨hcz108_0, hcz108_1, hcz108_2, hcz108_3, hfz108_0, hfz108_1, hfz108_2, hfz108_3⟩ := c4_ BK720; have hnb109 := NB730_721.out; have hnc109 := NB721_730.out; have hnb110 := NB730_722.out; have hnc110 := NB722_730.out; obtain ⟨hcz111_0, hcz111_1, hfz111_0, hfz111_1⟩ := c2_ BK730) | ((with_reducible refine gate_callee (f := 49) rfl ?_); refine gl_ (some 84) Tryz.func49 #[.agg #[.bool a0_0, .int .u64 a0_1, .int .u64 a0_2, .int .i64 a0_3], .int .i64 a1, .agg #[.int .u64 t726, .int .u64 t727]] ?_; (with_reducible refine (carve_Block.calls a0_0 a0_1 a0_2 a0_3 a1 t726 t727 t741 t742 t743 t744 t745 _ A89.out).mono ?_); rintro e w112 ⟨rfl, hb⟩; refine ⟨_, rfl, ?_⟩; replace BK720 := Aside0.mk (blk_below (g := gb720) (o := .cells #[.bool a0_0, .int .u64 a0_1, .int .u64 a0_2, .int .i64 a0_3] 38 (0, 0)) (by refine pw_ ?_; refine blk_far ?_ NB720_740.out _; refine pw_ ?_; refine blk_far ?_ NB720_740.out _; refine pw_ ?_; refine blk_far ?_ NB720_740.out _; refine pw_ ?_; refine blk_far ?_ NB720_740.out _; refine pw_ ?_; exact BK720.out) hb); replace BK721 := Aside0.mk (blk_below (g := gb721) (o := .cells #[.bool a2_0, .int .u64 a2_1, .int .u64 a2_2, .int .i64 a2_3] 38 (0, 0)) (by refine pw_ ?_; refine blk_far ?_ NB721_740.out _; refine pw_ ?_; refine blk_far ?_ NB721_740.out _; refine pw_ ?_; refine blk_far ?_ NB721_740.out _; refine pw_ ?_; refine blk_far ?_ NB721_740.out _; refine pw_ ?_; exact BK721.out) hb); replace BK722 := Aside0.mk (blk_below (g := gb722) (o := .cells #[.int .u64 a3_0, .int .u64 a3_1] 24 (0, 0)) (by refine pw_ ?_; refine blk_far ?_ NB722_740.out _; refine pw_ ?_; refine blk_far ?_ NB722_740.out _; refine pw_ ?_; refine blk_far ?_ NB722_740.out _; refine pw_ ?_; refine blk_far ?_ NB722_740.out _; refine pw_ ?_; exact BK722.out) hb); replace BK729 := Aside0.mk (blk_below (g := gb729) (o := .cells #[.int .u64 t724, .int .u64 t725] 24 (0, 0)) (by refine pw_ ?_; refine blk_far ?_ NB729_740.out _; refine pw_ ?_; refine blk_far ?_ NB729_740.out _; refine pw_ ?_; refine blk_far ?_ NB729_740.out _; refine pw_ ?_; refine blk_far ?_ NB729_740.out _; refine pw_ ?_; exact BK729.out) hb); replace BK730 := Aside0.mk (blk_below (g := gb730) (o := .cells #[.int .u64 t726, .int .u64 t727] 24 (0, 0)) (by refine pw_ ?_; refine blk_far ?_ NB730_740.out _; refine pw_ ?_; refine blk_far ?_ NB730_740.out _; refine pw_ ?_; refine blk_far ?_ NB730_740.out _; refine pw_ ?_; refine blk_far ?_ NB730_740.out _; refine pw_ ?_; exact BK730.out) hb); replace BK740 := Aside0.mk (blk_below (g := gb740) (o := .cells #[.bool t735, .int .u64 t736, .int .u64 t737, .int .i64 t738] 38 (0, 0)) (by refine pw_ ?_; refine blk_put (cs := #[.bool t735, .int .u64 t736, .int .u64 t737, .int .i64 0]) ?_ 3 _ rfl; refine pw_ ?_; refine blk_put (cs := #[.bool t735, .int .u64 t736, .int .u64 0, .int .i64 0]) ?_ 2 _ rfl; refine pw_ ?_; refine blk_put (cs := #[.bool t735, .int .u64 0, .int .u64 0, .int .i64 0]) ?_ 1 _ rfl; refine pw_ ?_; refine blk_put (cs := #[.bool false, .int .u64 0, .int .u64 0, .int .i64 0]) ?_ 0 _ rfl; refine pw_ ?_; exact BK740.out) hb); replace HB := bs_ HB hb; (try clear hb); (try clear hb2); (try clear hk); (try clear hi)) | ((with_reducible refine gate_dst (N := 14) rfl ?_); refine bx_ 14 #[.bool false, .int .u64 0, .int .u64 0, .int .i64 0] 38 ?_; intro gb746 hg w113 hbox hb; have BK746 := Aside0.mk (hbox); have GW746 := gw_ HB hg; have GE746 := gw_ HB hg; have NB720_746 := nl_ BK720 hg; have NB746_720 := ng_ BK720 hg; have NB721_746 := nl_ BK721 hg; have NB746_721 := ng_ BK721 hg; have NB722_746 := nl_ BK722 hg; have NB746_722 := ng_ BK722 hg; have NB729_746 := nl_ BK729 hg; have NB746_729 := ng_ BK729 hg; have NB730_746 := nl_ BK730 hg; have NB746_730 := ng_ BK730 hg; have NB740_746 := nl_ BK740 hg; have NB746_740 := ng_ BK740 hg; replace BK720 := bb_ BK720 hb; replace BK721 := bb_ BK721 hb; replace BK722 := bb_ BK722 hb; replace BK729 := bb_ BK729 hb; replace BK730 := bb_ BK730 hb; replace BK740 := bb_ BK740 hb; replace HB := bs_ HB hb; clear hb hbox hg; have hnb114 := NB746_720.out; have hnc114 := NB720_746.out; have hnb115 := NB746_721.out; have hnc115 := NB721_746.out; have hnb116 := NB746_722.out; have hnc116 := NB722_746.out; have hnb117 := NB746_729.out; have hnc117 := NB729_746.out; have hnb118 := NB746_730.out; have hnc118 := NB730_746.out; have hnb119 := NB746_740.out; have hnc119 := NB740_746.out; obtain ⟨hcz120_0, hcz120_1, hcz120_2, hcz120_3, hfz120_0, hfz120_1, hfz120_2, hfz120_3⟩ := c4_ BK746))
         (try simp only [Act.put, List.setIfInBounds_toArray, List.set_cons_zero, List.set_cons_succ])
         go_cut [104] (fun v104 wc => ∃ (kq : Nat) (x104_89 : Bool), v104 = .bool x104_89 ∧ Aside0 (platbooklaw04_CarveSpans.j2 kq a1 x104_89 a0_0 a0_1 a0_2 a0_3 a2_0 a2_1 a2_2 a2_3 a3_0 a3_1 t724 t725 t726 t727 = some r) ∧ Aside0 (kq ≤ kj63) ∧ Aside0 (wc.heap[gb720]? = some (.cells #[.bool a0_0, .int .u64 a0_1, .int .u64 a0_2, .int .i64 a0_3] 38 (0, 0))) ∧ Aside0 (wc.heap[gb721]? = some (.cells #[.bool a2_0, .int .u64 a2_1, .int .u64 a2_2, .int .i64 a2_3] 38 (0, 0))) ∧ Aside0 (wc.heap[gb722]? = some (.cells #[.int .u64 a3_0, .int .u64 a3_1] 24 (0, 0))) ∧ Aside0 (wc.heap[gb729]? = some (.cells #[.int .u64 t724, .int .u64 t725] 24 (0, 0))) ∧ Aside0 (wc.heap[gb730]? = some (.cells #[.int .u64 t726, .int .u64 t727] 24 (0, 0))) ∧ Aside0 (wc.heap[gb740]? = some (.cells #[.bool t735, .int .u64 t736, .int .u64 t737, .int .i64 t738] 38 (0, 0))) ∧ Aside0 (wc.heap[gb746]? = some (.cells #[.bool t741, .int .u64 t742, .int .u64 t743, .int .i64 t744] 38 (0, 0))) ∧ Aside0 (Below w.heap.size w wc))
         case first =>
          have H := HC90.out
          clear HC90
          by_cases c121 : t739 = 0
          ·
           rw [if_pos c121] at H
           have c121b0 : (t739 == 0) = true := beq_iff_eq.mpr c121
           have c121b1 : (t739 != 0) = false := bne_eq_false_iff_eq.mpr c121
           clear c121
           (first | rw [c121b0] | (simp only [i64_w, i32_w]; rw [c121b0]) | skip)
           by_cases c122 : t745 = 0
           ·
            rw [if_pos c122] at H
            have c122b0 : (t745 == 0) = true := beq_iff_eq.mpr c122
            have c122b1 : (t745 != 0) = false := bne_eq_false_iff_eq.mpr c122
            clear c122
            replace H := Option.bind_eq_some_iff.mp H
            obtain ⟨t747, A1230, H⟩ := H
            replace H : (if t747 = true then ((prefix_Overlap.f kj63 t741 t742 t743 t744 a2_0 a2_1 a2_2 a2_3).bind fun t748 => (platbooklaw04_CarveSpans.j2 kj63 a1 (!t748) a0_0 a0_1 a0_2 a0_3 a2_0 a2_1 a2_2 a2_3 a3_0 a3_1 t724 t725 t726 t727)) else (platbooklaw04_CarveSpans.j2 kj63 a1 true a0_0 a0_1 a0_2 a0_3 a2_0 a2_1 a2_2 a2_3 a3_0 a3_1 t724 t725 t726 t727)) = some r := H
            have A123 := Aside0.mk A1230
            clear A1230
            by_cases c124 : t747 = true
            ·
             subst c124
             rw [if_pos rfl] at H
             replace H := Option.bind_eq_some_iff.mp H
             obtain ⟨t748, A1250, H⟩ := H
             replace H : (platbooklaw04_CarveSpans.j2 kj63 a1 (!t748) a0_0 a0_1 a0_2 a0_3 a2_0 a2_1 a2_2 a2_3 a3_0 a3_1 t724 t725 t726 t727) = some r := H
             have A125 := Aside0.mk A1250
             clear A1250
             have H' := Aside0.mk H
             clear H
             have hnb126 := NB740_720.out
             have hnc126 := NB720_740.out
             have hnb127 := NB740_721.out
             have hnc127 := NB721_740.out
             have hnb128 := NB740_722.out
             have hnc128 := NB722_740.out
             have hnb129 := NB740_729.out
             have hnc129 := NB729_740.out
             have hnb130 := NB740_730.out
             have hnc130 := NB730_740.out
             have hnb131 := NB740_746.out
             have hnc131 := NB746_740.out
             obtain ⟨hcz132_0, hcz132_1, hcz132_2, hcz132_3, hfz132_0, hfz132_1, hfz132_2, hfz132_3⟩ := c4_ BK740
             have hnb133 := NB721_720.out
             have hnc133 := NB720_721.out
             have hnb134 := NB721_722.out
             have hnc134 := NB722_721.out
             have hnb135 := NB721_729.out
             have hnc135 := NB729_721.out
             have hnb136 := NB721_730.out
             have hnc136 := NB730_721.out
             have hnb137 := NB721_746.out
             have hnc137 := NB746_721.out
             obtain ⟨hcz138_0, hcz138_1, hcz138_2, hcz138_3, hfz138_0, hfz138_1, hfz138_2, hfz138_3⟩ := c4_ BK721
             go_wp2_with (first | (go_at_call 43; (with_reducible refine (prefix_Overlap.calls kj63 t735 t736 t737 t738 a2_0 a2_1 a2_2 a2_3 true _ A123.out).mono ?_); rintro e w139 ⟨rfl, hb⟩; replace BK720 := Aside0.mk (blk_below (g := gb720) (o := .cells #[.bool a0_0, .int .u64 a0_1, .int .u64 a0_2, .int .i64 a0_3] 38 (0, 0)) (by refine pw_ ?_; refine blk_far ?_ NB720_746.out _; refine pw_ ?_; refine blk_far ?_ NB720_746.out _; refine pw_ ?_; refine blk_far ?_ NB720_746.out _; refine pw_ ?_; refine blk_far ?_ NB720_746.out _; refine pw_ ?_; exact BK720.out) hb); replace BK721 := Aside0.mk (blk_below (g := gb721) (o := .cells #[.bool a2_0, .int .u64 a2_1, .int .u64 a2_2, .int .i64 a2_3] 38 (0, 0)) (by refine pw_ ?_; refine blk_far ?_ NB721_746.out _; refine pw_ ?_; refine blk_far ?_ NB721_746.out _; refine pw_ ?_; refine blk_far ?_ NB721_746.out _; refine pw_ ?_; refine blk_far ?_ NB721_746.out _; refine pw_ ?_; exact BK721.out) hb); replace BK722 := Aside0.mk (blk_below (g := gb722) (o := .cells #[.int .u64 a3_0, .int .u64 a3_1] 24 (0, 0)) (by refine pw_ ?_; refine blk_far ?_ NB722_746.out _; refine pw_ ?_; refine blk_far ?_ NB722_746.out _; refine pw_ ?_; refine blk_far ?_ NB722_746.out _; refine pw_ ?_; refine blk_far ?_ NB722_746.out _; refine pw_ ?_; exact BK722.out) hb); replace BK729 := Aside0.mk (blk_below (g := gb729) (o := .cells #[.int .u64 t724, .int .u64 t725] 24 (0, 0)) (by refine pw_ ?_; refine blk_far ?_ NB729_746.out _; refine pw_ ?_; refine blk_far ?_ NB729_746.out _; refine pw_ ?_; refine blk_far ?_ NB729_746.out _; refine pw_ ?_; refine blk_far ?_ NB729_746.out _; refine pw_ ?_; exact BK729.out) hb); replace BK730 := Aside0.mk (blk_below (g := gb730) (o := .cells #[.int .u64 t726, .int .u64 t727] 24 (0, 0)) (by refine pw_ ?_; refine blk_far ?_ NB730_746.out _; refine pw_ ?_; refine blk_far ?_ NB730_746.out _; refine pw_ ?_; refine blk_far ?_ NB730_746.out _; refine pw_ ?_; refine blk_far ?_ NB730_746.out _; refine pw_ ?_; exact BK730.out) hb); replace BK740 := Aside0.mk (blk_below (g := gb740) (o := .cells #[.bool t735, .int .u64 t736, .int .u64 t737, .int .i64 t738] 38 (0, 0)) (by refine pw_ ?_; refine blk_far ?_ NB740_746.out _; refine pw_ ?_; refine blk_far ?_ NB740_746.out _; refine pw_ ?_; refine blk_far ?_ NB740_746.out _; refine pw_ ?_; refine blk_far ?_ NB740_746.out _; refine pw_ ?_; exact BK740.out) hb); replace BK746 := Aside0.mk (blk_below (g := gb746) (o := .cells #[.bool t741, .int .u64 t742, .int .u64 t743, .int .i64 t744] 38 (0, 0)) (by refine pw_ ?_; refine blk_put (cs := #[.bool t741, .int .u64 t742, .int .u64 t743, .int .i64 0]) ?_ 3 _ rfl; refine pw_ ?_; refine blk_put (cs := #[.bool t741, .int .u64 t742, .int .u64 0, .int .i64 0]) ?_ 2 _ rfl; refine pw_ ?_; refine blk_put (cs := #[.bool t741, .int .u64 0, .int .u64 0, .int .i64 0]) ?_ 1 _ rfl; refine pw_ ?_; refine blk_put (cs := #[.bool false, .int .u64 0, .int .u64 0, .int .i64 0]) ?_ 0 _ rfl; refine pw_ ?_; exact BK746.out) hb); replace HB := bs_ HB hb; (try clear hb); (try clear hb2); (try clear hk); (try clear hi); have hnb140 := NB746_720.out; have hnc140 := NB720_746.out; have hnb141 := NB746_722.out; have hnc141 := NB722_746.out; have hnb142 := NB746_729.out; have hnc142 := NB729_746.out; have hnb143 := NB746_730.out; have hnc143 := NB730_746.out; obtain ⟨hcz144_0, hcz144_1, hcz144_2, hcz144_3, hfz144_0, hfz144_1, hfz144_2, hfz144_3⟩ := c4_ BK746; obtain ⟨hcz145_0, hcz145_1, hcz145_2, hcz145_3, hfz145_0, hfz145_1, hfz145_2, hfz145_3⟩ := c4_ BK721) | (go_at_call 43; (with_reducible refine (prefix_Overlap.calls kj63 t741 t742 t743 t744 a2_0 a2_1 a2_2 a2_3 t748 _ A125.out).mono ?_); rintro e w146 ⟨rfl, hb⟩; replace BK720 := bb_ BK720 hb; replace BK721 := bb_ BK721 hb; replace BK722 := bb_ BK722 hb; replace BK729 := bb_ BK729 hb; replace BK730 := bb_ BK730 hb; replace BK740 := bb_ BK740 hb; replace BK746 := bb_ BK746 hb; replace HB := bs_ HB hb; (try clear hb); (try clear hb2); (try clear hk); (try clear hi)))
             go_meet
             case rel => exact ⟨_, (!t748), (by first | rfl | (simp; done) | (simp [*]; done)), H', ⟨by have := HJ7.out; have := HJ63.out; first | omega | exact Nat.le_refl _⟩, ⟨by refine pw_ ?_; exact BK720.out⟩, ⟨by refine pw_ ?_; exact BK721.out⟩, ⟨by refine pw_ ?_; exact BK722.out⟩, ⟨by refine pw_ ?_; exact BK729.out⟩, ⟨by refine pw_ ?_; exact BK730.out⟩, ⟨by refine pw_ ?_; exact BK740.out⟩, ⟨by refine pw_ ?_; exact BK746.out⟩, ⟨pb_ HB⟩⟩
            ·
             replace c124 := Bool.eq_false_iff.mpr c124
             subst c124
             have H1 : (platbooklaw04_CarveSpans.j2 kj63 a1 true a0_0 a0_1 a0_2 a0_3 a2_0 a2_1 a2_2 a2_3 a3_0 a3_1 t724 t725 t726 t727) = some r := by rw [if_neg (show ¬ (false = true) by decide)] at H; exact H
             clear H
             have H := H1
             clear H1
             have H' := Aside0.mk H
             clear H
             have hnb147 := NB740_720.out
             have hnc147 := NB720_740.out
             have hnb148 := NB740_721.out
             have hnc148 := NB721_740.out
             have hnb149 := NB740_722.out
             have hnc149 := NB722_740.out
             have hnb150 := NB740_729.out
             have hnc150 := NB729_740.out
             have hnb151 := NB740_730.out
             have hnc151 := NB730_740.out
             have hnb152 := NB740_746.out
             have hnc152 := NB746_740.out
             obtain ⟨hcz153_0, hcz153_1, hcz153_2, hcz153_3, hfz153_0, hfz153_1, hfz153_2, hfz153_3⟩ := c4_ BK740
             have hnb154 := NB721_720.out
             have hnc154 := NB720_721.out
             have hnb155 := NB721_722.out
             have hnc155 := NB722_721.out
             have hnb156 := NB721_729.out
             have hnc156 := NB729_721.out
             have hnb157 := NB721_730.out
             have hnc157 := NB730_721.out
             have hnb158 := NB721_746.out
             have hnc158 := NB746_721.out
             obtain ⟨hcz159_0, hcz159_1, hcz159_2, hcz159_3, hfz159_0, hfz159_1, hfz159_2, hfz159_3⟩ := c4_ BK721
             go_wp2_with (first | (go_at_call 43; (with_reducible refine (prefix_Overlap.calls kj63 t735 t736 t737 t738 a2_0 a2_1 a2_2 a2_3 false _ A123.out).mono ?_); rintro e w160 ⟨rfl, hb⟩; replace BK720 := Aside0.mk (blk_below (g := gb720) (o := .cells #[.bool a0_0, .int .u64 a0_1, .int .u64 a0_2, .int .i64 a0_3] 38 (0, 0)) (by refine pw_ ?_; refine blk_far ?_ NB720_746.out _; refine pw_ ?_; refine blk_far ?_ NB720_746.out _; refine pw_ ?_; refine blk_far ?_ NB720_746.out _; refine pw_ ?_; refine blk_far ?_ NB720_746.out _; refine pw_ ?_; exact BK720.out) hb); replace BK721 := Aside0.mk (blk_below (g := gb721) (o := .cells #[.bool a2_0, .int .u64 a2_1, .int .u64 a2_2, .int .i64 a2_3] 38 (0, 0)) (by refine pw_ ?_; refine blk_far ?_ NB721_746.out _; refine pw_ ?_; refine blk_far ?_ NB721_746.out _; refine pw_ ?_; refine blk_far ?_ NB721_746.out _; refine pw_ ?_; refine blk_far ?_ NB721_746.out _; refine pw_ ?_; exact BK721.out) hb); replace BK722 := Aside0.mk (blk_below (g := gb722) (o := .cells #[.int .u64 a3_0, .int .u64 a3_1] 24 (0, 0)) (by refine pw_ ?_; refine blk_far ?_ NB722_746.out _; refine pw_ ?_; refine blk_far ?_ NB722_746.out _; refine pw_ ?_; refine blk_far ?_ NB722_746.out _; refine pw_ ?_; refine blk_far ?_ NB722_746.out _; refine pw_ ?_; exact BK722.out) hb); replace BK729 := Aside0.mk (blk_below (g := gb729) (o := .cells #[.int .u64 t724, .int .u64 t725] 24 (0, 0)) (by refine pw_ ?_; refine blk_far ?_ NB729_746.out _; refine pw_ ?_; refine blk_far ?_ NB729_746.out _; refine pw_ ?_; refine blk_far ?_ NB729_746.out _; refine pw_ ?_; refine blk_far ?_ NB729_746.out _; refine pw_ ?_; exact BK729.out) hb); replace BK730 := Aside0.mk (blk_below (g := gb730) (o := .cells #[.int .u64 t726, .int .u64 t727] 24 (0, 0)) (by refine pw_ ?_; refine blk_far ?_ NB730_746.out _; refine pw_ ?_; refine blk_far ?_ NB730_746.out _; refine pw_ ?_; refine blk_far ?_ NB730_746.out _; refine pw_ ?_; refine blk_far ?_ NB730_746.out _; refine pw_ ?_; exact BK730.out) hb); replace BK740 := Aside0.mk (blk_below (g := gb740) (o := .cells #[.bool t735, .int .u64 t736, .int .u64 t737, .int .i64 t738] 38 (0, 0)) (by refine pw_ ?_; refine blk_far ?_ NB740_746.out _; refine pw_ ?_; refine blk_far ?_ NB740_746.out _; refine pw_ ?_; refine blk_far ?_ NB740_746.out _; refine pw_ ?_; refine blk_far ?_ NB740_746.out _; refine pw_ ?_; exact BK740.out) hb); replace BK746 := Aside0.mk (blk_below (g := gb746) (o := .cells #[.bool t741, .int .u64 t742, .int .u64 t743, .int .i64 t744] 38 (0, 0)) (by refine pw_ ?_; refine blk_put (cs := #[.bool t741, .int .u64 t742, .int .u64 t743, .int .i64 0]) ?_ 3 _ rfl; refine pw_ ?_; refine blk_put (cs := #[.bool t741, .int .u64 t742, .int .u64 0, .int .i64 0]) ?_ 2 _ rfl; refine pw_ ?_; refine blk_put (cs := #[.bool t741, .int .u64 0, .int .u64 0, .int .i64 0]) ?_ 1 _ rfl; refine pw_ ?_; refine blk_put (cs := #[.bool false, .int .u64 0, .int .u64 0, .int .i64 0]) ?_ 0 _ rfl; refine pw_ ?_; exact BK746.out) hb); replace HB := bs_ HB hb; (try clear hb); (try clear hb2); (try clear hk); (try clear hi)))
             go_meet
             case rel => exact ⟨_, (true), (by first | rfl | (simp; done) | (simp [*]; done)), H', ⟨by have := HJ7.out; have := HJ63.out; first | omega | exact Nat.le_refl _⟩, ⟨by refine pw_ ?_; exact BK720.out⟩, ⟨by refine pw_ ?_; exact BK721.out⟩, ⟨by refine pw_ ?_; exact BK722.out⟩, ⟨by refine pw_ ?_; exact BK729.out⟩, ⟨by refine pw_ ?_; exact BK730.out⟩, ⟨by refine pw_ ?_; exact BK740.out⟩, ⟨by refine pw_ ?_; exact BK746.out⟩, ⟨pb_ HB⟩⟩
           ·
            rw [if_neg c122] at H
            have c122b0 : (t745 == 0) = false := beq_eq_false_iff_ne.mpr c122
            have c122b1 : (t745 != 0) = true := bne_iff_ne.mpr c122
            have H' := Aside0.mk H
            clear H
            go_wp2
            go_meet
            case rel => exact ⟨_, (true), (by first | rfl | (simp; done) | (simp [*]; done)), H', ⟨by have := HJ7.out; have := HJ63.out; first | omega | exact Nat.le_refl _⟩, ⟨by refine pw_ ?_; refine blk_far ?_ NB720_746.out _; refine pw_ ?_; refine blk_far ?_ NB720_746.out _; refine pw_ ?_; refine blk_far ?_ NB720_746.out _; refine pw_ ?_; refine blk_far ?_ NB720_746.out _; refine pw_ ?_; exact BK720.out⟩, ⟨by refine pw_ ?_; refine blk_far ?_ NB721_746.out _; refine pw_ ?_; refine blk_far ?_ NB721_746.out _; refine pw_ ?_; refine blk_far ?_ NB721_746.out _; refine pw_ ?_; refine blk_far ?_ NB721_746.out _; refine pw_ ?_; exact BK721.out⟩, ⟨by refine pw_ ?_; refine blk_far ?_ NB722_746.out _; refine pw_ ?_; refine blk_far ?_ NB722_746.out _; refine pw_ ?_; refine blk_far ?_ NB722_746.out _; refine pw_ ?_; refine blk_far ?_ NB722_746.out _; refine pw_ ?_; exact BK722.out⟩, ⟨by refine pw_ ?_; refine blk_far ?_ NB729_746.out _; refine pw_ ?_; refine blk_far ?_ NB729_746.out _; refine pw_ ?_; refine blk_far ?_ NB729_746.out _; refine pw_ ?_; refine blk_far ?_ NB729_746.out _; refine pw_ ?_; exact BK729.out⟩, ⟨by refine pw_ ?_; refine blk_far ?_ NB730_746.out _; refine pw_ ?_; refine blk_far ?_ NB730_746.out _; refine pw_ ?_; refine blk_far ?_ NB730_746.out _; refine pw_ ?_; refine blk_far ?_ NB730_746.out _; refine pw_ ?_; exact BK730.out⟩, ⟨by refine pw_ ?_; refine blk_far ?_ NB740_746.out _; refine pw_ ?_; refine blk_far ?_ NB740_746.out _; refine pw_ ?_; refine blk_far ?_ NB740_746.out _; refine pw_ ?_; refine blk_far ?_ NB740_746.out _; refine pw_ ?_; exact BK740.out⟩, ⟨by refine pw_ ?_; refine blk_put (cs := #[.bool t741, .int .u64 t742, .int .u64 t743, .int .i64 0]) ?_ 3 _ rfl; refine pw_ ?_; refine blk_put (cs := #[.bool t741, .int .u64 t742, .int .u64 0, .int .i64 0]) ?_ 2 _ rfl; refine pw_ ?_; refine blk_put (cs := #[.bool t741, .int .u64 0, .int .u64 0, .int .i64 0]) ?_ 1 _ rfl; refine pw_ ?_; refine blk_put (cs := #[.bool false, .int .u64 0, .int .u64 0, .int .i64 0]) ?_ 0 _ rfl; refine pw_ ?_; exact BK746.out⟩, ⟨pb_ HB⟩⟩
          ·
           rw [if_neg c121] at H
           have c121b0 : (t739 == 0) = false := beq_eq_false_iff_ne.mpr c121
           have c121b1 : (t739 != 0) = true := bne_iff_ne.mpr c121
           (first | rw [c121b0] | (simp only [i64_w, i32_w]; rw [c121b0]) | skip)
           have H' := Aside0.mk H
           clear H
           go_wp2
           go_meet
           case rel => exact ⟨_, (true), (by first | rfl | (simp; done) | (simp [*]; done)), H', ⟨by have := HJ7.out; have := HJ63.out; first | omega | exact Nat.le_refl _⟩, ⟨by refine pw_ ?_; refine blk_far ?_ NB720_746.out _; refine pw_ ?_; refine blk_far ?_ NB720_746.out _; refine pw_ ?_; refine blk_far ?_ NB720_746.out _; refine pw_ ?_; refine blk_far ?_ NB720_746.out _; refine pw_ ?_; exact BK720.out⟩, ⟨by refine pw_ ?_; refine blk_far ?_ NB721_746.out _; refine pw_ ?_; refine blk_far ?_ NB721_746.out _; refine pw_ ?_; refine blk_far ?_ NB721_746.out _; refine pw_ ?_; refine blk_far ?_ NB721_746.out _; refine pw_ ?_; exact BK721.out⟩, ⟨by refine pw_ ?_; refine blk_far ?_ NB722_746.out _; refine pw_ ?_; refine blk_far ?_ NB722_746.out _; refine pw_ ?_; refine blk_far ?_ NB722_746.out _; refine pw_ ?_; refine blk_far ?_ NB722_746.out _; refine pw_ ?_; exact BK722.out⟩, ⟨by refine pw_ ?_; refine blk_far ?_ NB729_746.out _; refine pw_ ?_; refine blk_far ?_ NB729_746.out _; refine pw_ ?_; refine blk_far ?_ NB729_746.out _; refine pw_ ?_; refine blk_far ?_ NB729_746.out _; refine pw_ ?_; exact BK729.out⟩, ⟨by refine pw_ ?_; refine blk_far ?_ NB730_746.out _; refine pw_ ?_; refine blk_far ?_ NB730_746.out _; refine pw_ ?_; refine blk_far ?_ NB730_746.out _; refine pw_ ?_; refine blk_far ?_ NB730_746.out _; refine pw_ ?_; exact BK730.out⟩, ⟨by refine pw_ ?_; refine blk_far ?_ NB740_746.out _; refine pw_ ?_; refine blk_far ?_ NB740_746.out _; refine pw_ ?_; refine blk_far ?_ NB740_746.out _; refine pw_ ?_; refine blk_far ?_ NB740_746.out _; refine pw_ ?_; exact BK740.out⟩, ⟨by refine pw_ ?_; refine blk_put (cs := #[.bool t741, .int .u64 t742, .int .u64 t743, .int .i64 0]) ?_ 3 _ rfl; refine pw_ ?_; refine blk_put (cs := #[.bool t741, .int .u64 t742, .int .u64 0, .int .i64 0]) ?_ 2 _ rfl; refine pw_ ?_; refine blk_put (cs := #[.bool t741, .int .u64 0, .int .u64 0, .int .i64 0]) ?_ 1 _ rfl; refine pw_ ?_; refine blk_put (cs := #[.bool false, .int .u64 0, .int .u64 0, .int .i64 0]) ?_ 0 _ rfl; refine pw_ ?_; exact BK746.out⟩, ⟨pb_ HB⟩⟩
         case rest =>
          clear HC90
          try clear c1
          try clear c2
          try clear p2
          try clear c3
          try clear c4
          try clear c5
          try clear c6
          try clear c7
          try clear c8
          try clear c9
          try clear c10
          try clear c11
          try clear c12
          try clear c13
          try clear c14
          try clear c15
          try clear c16
          try clear c21
          try clear c22
          try clear c23
          try clear c24
          try clear c26
          try clear c27
          try clear c28
          try clear c31
          try clear c33
          try clear c34
          try clear c35
          try clear c36
          try clear c39
          try clear c40
          try clear c41
          try clear c44
          try clear c45
          try clear c46
          try clear c47
          try clear c49
          try clear c50
          try clear c51
          try clear c51b0
          try clear c51b1
          try clear c52
          try clear c52b0
          try clear c52b1
          try clear c52b2
          try clear c53
          try clear c54
          try clear c55
          try clear c56
          try clear c57
          try clear c58
          try clear c59
          try clear c60
          try clear c63
          try clear c65
          try clear c66
          try clear c67
          try clear c68
          try clear c70
          try clear c71
          try clear c72
          try clear c75
          try clear c75b0
          try clear c75b1
          try clear c77
          try clear c78
          try clear c79
          try clear c80
          try clear c82
          try clear c83
          try clear c84
          try clear c87
          try clear c91
          try clear c92
          try clear c93
          try clear c94
          try clear c96
          try clear c97
          try clear c98
          try clear c102
          try clear c103
          try clear c104
          try clear c105
          try clear c106
          try clear c109
          try clear c110
          try clear c114
          try clear c115
          try clear c116
          try clear c117
          try clear c118
          try clear c119
          try clear c121
          try clear c121b0
          try clear c121b1
          try clear c122
          try clear c122b0
          try clear c122b1
          try clear c124
          try clear c126
          try clear c127
          try clear c128
          try clear c129
          try clear c130
          try clear c131
          try clear c133
          try clear c134
          try clear c135
          try clear c136
          try clear c137
          try clear c140
          try clear c141
          try clear c142
          try clear c143
          try clear c147
          try clear c148
          try clear c149
          try clear c150
          try clear c151
          try clear c152
          try clear c154
          try clear c155
          try clear c156
          try clear c157
          try clear c158
          try clear hcz107_0
          try clear hcz107_1
          try clear hcz107_2
          try clear hcz107_3
          try clear hcz108_0
          try clear hcz108_1
          try clear hcz108_2
          try clear hcz108_3
          try clear hcz111_0
          try clear hcz111_1
          try clear hcz120_0
          try clear hcz120_1
          try clear hcz120_2
          try clear hcz120_3
          try clear hcz132_0
          try clear hcz132_1
          try clear hcz132_2
          try clear hcz132_3
          try clear hcz138_0
          try clear hcz138_1
          try clear hcz138_2
          try clear hcz138_3
          try clear hcz144_0
          try clear hcz144_1
          try clear hcz144_2
          try clear hcz144_3
          try clear hcz145_0
          try clear hcz145_1
          try clear hcz145_2
          try clear hcz145_3
          try clear hcz153_0
          try clear hcz153_1
          try clear hcz153_2
          try clear hcz153_3
          try clear hcz159_0
          try clear hcz159_1
          try clear hcz159_2
          try clear hcz159_3
          try clear hcz15_0
          try clear hcz15_1
          try clear hcz15_2
          try clear hcz15_3
          try clear hcz17_0
          try clear hcz17_1
          try clear hcz17_2
          try clear hcz17_3
          try clear hcz25_0
          try clear hcz25_1
          try clear hcz29_0
          try clear hcz29_1
          try clear hcz37_0
          try clear hcz37_1
          try clear hcz37_2
          try clear hcz37_3
          try clear hcz42_0
          try clear hcz42_1
          try clear hcz42_2
          try clear hcz42_3
          try clear hcz48_0
          try clear hcz48_1
          try clear hcz48_2
          try clear hcz48_3
          try clear hcz57_0
          try clear hcz57_1
          try clear hcz61_0
          try clear hcz61_1
          try clear hcz69_0
          try clear hcz69_1
          try clear hcz69_2
          try clear hcz69_3
          try clear hcz73_0
          try clear hcz73_1
          try clear hcz73_2
          try clear hcz73_3
          try clear hcz81_0
          try clear hcz81_1
          try clear hcz85_0
          try clear hcz85_1
          try clear hcz95_0
          try clear hcz95_1
          try clear hcz95_2
          try clear hcz95_3
          try clear hcz99_0
          try clear hcz99_1
          try clear hfz107_0
          try clear hfz107_1
          try clear hfz107_2
          try clear hfz107_3
          try clear hfz108_0
          try clear hfz108_1
          try clear hfz108_2
          try clear hfz108_3
          try clear hfz111_0
          try clear hfz111_1
          try clear hfz120_0
          try clear hfz120_1
          try clear hfz120_2
          try clear hfz120_3
          try clear hfz132_0
          try clear hfz132_1
          try clear hfz132_2
          try clear hfz132_3
          try clear hfz138_0
          try clear hfz138_1
          try clear hfz138_2
          try clear hfz138_3
          try clear hfz144_0
          try clear hfz144_1
          try clear hfz144_2
          try clear hfz144_3
          try clear hfz145_0
          try clear hfz145_1
          try clear hfz145_2
          try clear hfz145_3
          try clear hfz153_0
          try clear hfz153_1
          try clear hfz153_2
          try clear hfz153_3
          try clear hfz159_0
          try clear hfz159_1
          try clear hfz159_2
          try clear hfz159_3
          try clear hfz15_0
          try clear hfz15_1
          try clear hfz15_2
          try clear hfz15_3
          try clear hfz17_0
          try clear hfz17_1
          try clear hfz17_2
          try clear hfz17_3
          try clear hfz25_0
          try clear hfz25_1
          try clear hfz29_0
          try clear hfz29_1
          try clear hfz37_0
          try clear hfz37_1
          try clear hfz37_2
          try clear hfz37_3
          try clear hfz42_0
          try clear hfz42_1
          try clear hfz42_2
          try clear hfz42_3
          try clear hfz48_0
          try clear hfz48_1
          try clear hfz48_2
          try clear hfz48_3
          try clear hfz57_0
          try clear hfz57_1
          try clear hfz61_0
          try clear hfz61_1
          try clear hfz69_0
          try clear hfz69_1
          try clear hfz69_2
          try clear hfz69_3
          try clear hfz73_0
          try clear hfz73_1
          try clear hfz73_2
          try clear hfz73_3
          try clear hfz81_0
          try clear hfz81_1
          try clear hfz85_0
          try clear hfz85_1
          try clear hfz95_0
          try clear hfz95_1
          try clear hfz95_2
          try clear hfz95_3
          try clear hfz99_0
          try clear hfz99_1
          try clear p2
          obtain ⟨kq, x104_89, rfl, HA, HJ89, BK720, BK721, BK722, BK729, BK730, BK740, BK746, HB⟩ := hcut
          cases kq with
          | zero => exact absurd HA.out (by simp [platbooklaw04_CarveSpans.j2])
          | succ kj89 =>
           have H := HA.out
           clear HA
           simp only [platbooklaw04_CarveSpans.j2] at H
           by_cases c161 : x104_89 = true
           ·
            subst c161
            rw [if_pos rfl] at H
            obtain rfl := Option.some.inj H
            exact absurd HRT.out (by decide)
           ·
            replace c161 := Bool.eq_false_iff.mpr c161
            subst c161
            have H1 : ((carve_Block.f a0_0 a0_1 a0_2 a0_3 a1 a3_0 a3_1).bind fun bt749 => (if bt749.2.2.2.2 = 0 then ((prefix_Overlap.f kj89 bt749.1 bt749.2.1 bt749.2.2.1 bt749.2.2.2.1 a2_0 a2_1 a2_2 a2_3).bind fun t755 => ((num_Cmp.f t724 t725 a3_0 a3_1).bind fun t756 => (if t756 ≤ 0 then ((num_Cmp.f a3_0 a3_1 t726 t727).bind fun t757 => (some (t755 == (decide (t757 ≤ 0))))) else (some (t755 == false))))) else (some true))) = some r := by rw [if_neg (show ¬ (false = true) by decide)] at H; exact H
            clear H
            have H := H1
            clear H1
            replace H := Option.bind_eq_some_iff.mp H
            obtain ⟨⟨t749, t750, t751, t752, t753⟩, A1620, H⟩ := H
            replace H : (if t753 = 0 then ((prefix_Overlap.f kj89 t749 t750 t751 t752 a2_0 a2_1 a2_2 a2_3).bind fun t755 => ((num_Cmp.f t724 t725 a3_0 a3_1).bind fun t756 => (if t756 ≤ 0 then ((num_Cmp.f a3_0 a3_1 t726 t727).bind fun t757 => (some (t755 == (decide (t757 ≤ 0))))) else (some (t755 == false))))) else (some true)) = some r := H
            have A162 := Aside0.mk A1620
            clear A1620
            by_cases c163 : t753 = 0
            ·
             rw [if_pos c163] at H
             have c163b0 : (t753 == 0) = true := beq_iff_eq.mpr c163
             have c163b1 : (t753 != 0) = false := bne_eq_false_iff_eq.mpr c163
             clear c163
             replace H := Option.bind_eq_some_iff.mp H
             obtain ⟨t755, A1640, H⟩ := H
             replace H : ((num_Cmp.f t724 t725 a3_0 a3_1).bind fun t756 => (if t756 ≤ 0 then ((num_Cmp.f a3_0 a3_1 t726 t727).bind fun t757 => (some (t755 == (decide (t757 ≤ 0))))) else (some (t755 == false)))) = some r := H
             have A164 := Aside0.mk A1640
             clear A1640
             replace H := Option.bind_eq_some_iff.mp H
             obtain ⟨t756, A1650, H⟩ := H
             replace H : (if t756 ≤ 0 then ((num_Cmp.f a3_0 a3_1 t726 t727).bind fun t757 => (some (t755 == (decide (t757 ≤ 0))))) else (some (t755 == false))) = some r := H
             have A165 := Aside0.mk A1650
             clear A1650
             by_cases c166 : t756 ≤ 0
             ·
              rw [if_pos c166] at H
              have c166b0 : decide (t756 ≤ 0) = true := decide_eq_true c166
              clear c166
              replace H := Option.bind_eq_some_iff.mp H
              obtain ⟨t757, A1670, H⟩ := H
              replace H : (some (t755 == (decide (t757 ≤ 0)))) = some r := H
              have A167 := Aside0.mk A1670
              clear A1670
              obtain rfl := Option.some.inj H
              have hnb168 := NB720_721.out
              have hnc168 := NB721_720.out
              have hnb169 := NB720_722.out
              have hnc169 := NB722_720.out
              have hnb170 := NB720_729.out
              have hnc170 := NB729_720.out
              have hnb171 := NB720_730.out
              have hnc171 := NB730_720.out
              have hnb172 := NB720_740.out
              have hnc172 := NB740_720.out
              have hnb173 := NB720_746.out
              have hnc173 := NB746_720.out
              obtain ⟨hcz174_0, hcz174_1, hcz174_2, hcz174_3, hfz174_0, hfz174_1, hfz174_2, hfz174_3⟩ := c4_ BK720
              have hnb175 := NB722_721.out
              have hnc175 := NB721_722.out
              have hnb176 := NB722_729.out
              have hnc176 := NB729_722.out
              have hnb177 := NB722_730.out
              have hnc177 := NB730_722.out
              have hnb178 := NB722_740.out
              have hnc178 := NB740_722.out
              have hnb179 := NB722_746.out
              have hnc179 := NB746_722.out
              obtain ⟨hcz180_0, hcz180_1, hfz180_0, hfz180_1⟩ := c2_ BK722
              try go_wp2_with (first | ((with_reducible refine gate_callee (f := 49) rfl ?_); refine gl_ (some 109) Tryz.func49 #[.agg #[.bool a0_0, .int .u64 a0_1, .int .u64 a0_2, .int .i64 a0_3], .int .i64 a1, .agg #[.int .u64 a3_0, .int .u64 a3_1]] ?_; (with_reducible refine (carve_Block.calls a0_0 a0_1 a0_2 a0_3 a1 a3_0 a3_1 t749 t750 t751 t752 t753 _ A162.out).mono ?_); rintro e w181 ⟨rfl, hb⟩; refine ⟨_, rfl, ?_⟩; replace BK720 := bb_ BK720 hb; replace BK721 := bb_ BK721 hb; replace BK722 := bb_ BK722 hb; replace BK729 := bb_ BK729 hb; replace BK730 := bb_ BK730 hb; replace BK740 := bb_ BK740 hb; replace BK746 := bb_ BK746 hb; replace HB := bs_ HB hb; (try clear hb); (try clear hb2); (try clear hk); (try clear hi)) | ((with_reducible refine gate_dst (N := 16) rfl ?_); refine bx_ 16 #[.bool false, .int .u64 0, .int .u64 0, .int .i64 0] 38 ?_; intro gb754 hg w182 hbox hb; have BK754 := Aside0.mk (hbox); have GW754 := gw_ HB hg; have GE754 := gw_ HB hg; have NB720_754 := nl_ BK720 hg; have NB754_720 := ng_ BK720 hg; have NB721_754 := nl_ BK721 hg; have NB754_721 := ng_ BK721 hg; have NB722_754 := nl_ BK722 hg; have NB754_722 := ng_ BK722 hg; have NB729_754 := nl_ BK729 hg; have NB754_729 := ng_ BK729 hg; have NB730_754 := nl_ BK730 hg; have NB754_730 := ng_ BK730 hg; have NB740_754 := nl_ BK740 hg; have NB754_740 := ng_ BK740 hg; have NB746_754 := nl_ BK746 hg; have NB754_746 := ng_ BK746 hg; replace BK720 := bb_ BK720 hb; replace BK721 := bb_ BK721 hb; replace BK722 := bb_ BK722 hb; replace BK729 := bb_ BK729 hb; replace BK730 := bb_ BK730 hb; replace BK740 := bb_ BK740 hb; replace BK746 := bb_ BK746 hb; replace HB := bs_ HB hb; clear hb hbox hg; have hnb183 := NB754_720.out; have hnc183 := NB720_754.out; have hnb184 := NB754_721.out; have hnc184 := NB721_754.out; have hnb185 := NB754_722.out; have hnc185 := NB722_754.out; have hnb186 := NB754_729.out; have hnc186 := NB729_754.out; have hnb187 := NB754_730.out; have hnc187 := NB730_754.out; have hnb188 := NB754_740.out; have hnc188 := NB740_754.out; have hnb189 := NB754_746.out; have hnc189 := NB746_754.out; obtain ⟨hcz190_0, hcz190_1, hcz190_2, hcz190_3, hfz190_0, hfz190_1, hfz190_2, hfz190_3⟩ := c4_ BK754))
              have n0_ : Aside0 (((((w182.setCell ⟨gb754, 0, none⟩ (.bool t749)).setCell ⟨gb754, 1, none⟩ (.int .u64 t750)).setCell ⟨gb754, 2, none⟩ (.int .u64 t751)).setCell ⟨gb754, 3, none⟩ (.int .i64 t752)).heap[gb720]? = some (.cells #[.bool a0_0, .int .u64 a0_1, .int .u64 a0_2, .int .i64 a0_3] 38 (0, 0))) := ⟨by refine pw_ ?_; refine blk_far ?_ NB720_754.out _; refine pw_ ?_; refine blk_far ?_ NB720_754.out _; refine pw_ ?_; refine blk_far ?_ NB720_754.out _; refine pw_ ?_; refine blk_far ?_ NB720_754.out _; refine pw_ ?_; exact BK720.out⟩
              have n1_ : Aside0 (((((w182.setCell ⟨gb754, 0, none⟩ (.bool t749)).setCell ⟨gb754, 1, none⟩ (.int .u64 t750)).setCell ⟨gb754, 2, none⟩ (.int .u64 t751)).setCell ⟨gb754, 3, none⟩ (.int .i64 t752)).heap[gb721]? = some (.cells #[.bool a2_0, .int .u64 a2_1, .int .u64 a2_2, .int .i64 a2_3] 38 (0, 0))) := ⟨by refine pw_ ?_; refine blk_far ?_ NB721_754.out _; refine pw_ ?_; refine blk_far ?_ NB721_754.out _; refine pw_ ?_; refine blk_far ?_ NB721_754.out _; refine pw_ ?_; refine blk_far ?_ NB721_754.out _; refine pw_ ?_; exact BK721.out⟩
              have n2_ : Aside0 (((((w182.setCell ⟨gb754, 0, none⟩ (.bool t749)).setCell ⟨gb754, 1, none⟩ (.int .u64 t750)).setCell ⟨gb754, 2, none⟩ (.int .u64 t751)).setCell ⟨gb754, 3, none⟩ (.int .i64 t752)).heap[gb722]? = some (.cells #[.int .u64 a3_0, .int .u64 a3_1] 24 (0, 0))) := ⟨by refine pw_ ?_; refine blk_far ?_ NB722_754.out _; refine pw_ ?_; refine blk_far ?_ NB722_754.out _; refine pw_ ?_; refine blk_far ?_ NB722_754.out _; refine pw_ ?_; refine blk_far ?_ NB722_754.out _; refine pw_ ?_; exact BK722.out⟩
              have n3_ : Aside0 (((((w182.setCell ⟨gb754, 0, none⟩ (.bool t749)).setCell ⟨gb754, 1, none⟩ (.int .u64 t750)).setCell ⟨gb754, 2, none⟩ (.int .u64 t751)).setCell ⟨gb754, 3, none⟩ (.int .i64 t752)).heap[gb729]? = some (.cells #[.int .u64 t724, .int .u64 t725] 24 (0, 0))) := ⟨by refine pw_ ?_; refine blk_far ?_ NB729_754.out _; refine pw_ ?_; refine blk_far ?_ NB729_754.out _; refine pw_ ?_; refine blk_far ?_ NB729_754.out _; refine pw_ ?_; refine blk_far ?_ NB729_754.out _; refine pw_ ?_; exact BK729.out⟩
              have n4_ : Aside0 (((((w182.setCell ⟨gb754, 0, none⟩ (.bool t749)).setCell ⟨gb754, 1, none⟩ (.int .u64 t750)).setCell ⟨gb754, 2, none⟩ (.int .u64 t751)).setCell ⟨gb754, 3, none⟩ (.int .i64 t752)).heap[gb730]? = some (.cells #[.int .u64 t726, .int .u64 t727] 24 (0, 0))) := ⟨by refine pw_ ?_; refine blk_far ?_ NB730_754.out _; refine pw_ ?_; refine blk_far ?_ NB730_754.out _; refine pw_ ?_; refine blk_far ?_ NB730_754.out _; refine pw_ ?_; refine blk_far ?_ NB730_754.out _; refine pw_ ?_; exact BK730.out⟩
              have n5_ : Aside0 (((((w182.setCell ⟨gb754, 0, none⟩ (.bool t749)).setCell ⟨gb754, 1, none⟩ (.int .u64 t750)).setCell ⟨gb754, 2, none⟩ (.int .u64 t751)).setCell ⟨gb754, 3, none⟩ (.int .i64 t752)).heap[gb740]? = some (.cells #[.bool t735, .int .u64 t736, .int .u64 t737, .int .i64 t738] 38 (0, 0))) := ⟨by refine pw_ ?_; refine blk_far ?_ NB740_754.out _; refine pw_ ?_; refine blk_far ?_ NB740_754.out _; refine pw_ ?_; refine blk_far ?_ NB740_754.out _; refine pw_ ?_; refine blk_far ?_ NB740_754.out _; refine pw_ ?_; exact BK740.out⟩
              have n6_ : Aside0 (((((w182.setCell ⟨gb754, 0, none⟩ (.bool t749)).setCell ⟨gb754, 1, none⟩ (.int .u64 t750)).setCell ⟨gb754, 2, none⟩ (.int .u64 t751)).setCell ⟨gb754, 3, none⟩ (.int .i64 t752)).heap[gb746]? = some (.cells #[.bool t741, .int .u64 t742, .int .u64 t743, .int .i64 t744] 38 (0, 0))) := ⟨by refine pw_ ?_; refine blk_far ?_ NB746_754.out _; refine pw_ ?_; refine blk_far ?_ NB746_754.out _; refine pw_ ?_; refine blk_far ?_ NB746_754.out _; refine pw_ ?_; refine blk_far ?_ NB746_754.out _; refine pw_ ?_; exact BK746.out⟩
              have n7_ : Aside0 (((((w182.setCell ⟨gb754, 0, none⟩ (.bool t749)).setCell ⟨gb754, 1, none⟩ (.int .u64 t750)).setCell ⟨gb754, 2, none⟩ (.int .u64 t751)).setCell ⟨gb754, 3, none⟩ (.int .i64 t752)).heap[gb754]? = some (.cells #[.bool t749, .int .u64 t750, .int .u64 t751, .int .i64 t752] 38 (0, 0))) := ⟨by refine pw_ ?_; refine blk_put (cs := #[.bool t749, .int .u64 t750, .int .u64 t751, .int .i64 0]) ?_ 3 _ rfl; refine pw_ ?_; refine blk_put (cs := #[.bool t749, .int .u64 t750, .int .u64 0, .int .i64 0]) ?_ 2 _ rfl; refine pw_ ?_; refine blk_put (cs := #[.bool t749, .int .u64 0, .int .u64 0, .int .i64 0]) ?_ 1 _ rfl; refine pw_ ?_; refine blk_put (cs := #[.bool false, .int .u64 0, .int .u64 0, .int .i64 0]) ?_ 0 _ rfl; refine pw_ ?_; exact BK754.out⟩
              have n8_ : Aside0 (Below w.heap.size w ((((w182.setCell ⟨gb754, 0, none⟩ (.bool t749)).setCell ⟨gb754, 1, none⟩ (.int .u64 t750)).setCell ⟨gb754, 2, none⟩ (.int .u64 t751)).setCell ⟨gb754, 3, none⟩ (.int .i64 t752))) := ⟨pb_ HB⟩
              (try clear BK720)
              (try clear BK721)
              (try clear BK722)
              (try clear BK729)
              (try clear BK730)
              (try clear BK740)
              (try clear BK746)
              (try clear BK754)
              (try clear HB)
              generalize ((((w182.setCell ⟨gb754, 0, none⟩ (.bool t749)).setCell ⟨gb754, 1, none⟩ (.int .u64 t750)).setCell ⟨gb754, 2, none⟩ (.int .u64 t751)).setCell ⟨gb754, 3, none⟩ (.int .i64 t752)) = w191 at n0_ n1_ n2_ n3_ n4_ n5_ n6_ n7_ n8_ ⊢
              have BK720 := n0_
              have BK721 := n1_
              have BK722 := n2_
              have BK729 := n3_
              have BK730 := n4_
              have BK740 := n5_
              have BK746 := n6_
              have BK754 := n7_
              have HB := n8_
              clear n0_ n1_ n2_ n3_ n4_ n5_ n6_ n7_ n8_
              replace BK720 := Aside0.mk (blk_drew BK720.out)
              replace BK721 := Aside0.mk (blk_drew BK721.out)
              replace BK722 := Aside0.mk (blk_drew BK722.out)
              replace BK729 := Aside0.mk (blk_drew BK729.out)
              replace BK730 := Aside0.mk (blk_drew BK730.out)
              replace BK740 := Aside0.mk (blk_drew BK740.out)
              replace BK746 := Aside0.mk (blk_drew BK746.out)
              replace BK754 := Aside0.mk (blk_drew BK754.out)
              replace HB := Aside0.mk (below_drew1 HB.out)
              refine start_ (n := 15) (S := fun w' => w'.cell? ⟨gb754, 0, none⟩ = some (.bool t749) ∧ w'.cell? ⟨gb754, 1, none⟩ = some (.int .u64 t750) ∧ w'.cell? ⟨gb754, 2, none⟩ = some (.int .u64 t751) ∧ w'.cell? ⟨gb754, 3, none⟩ = some (.int .i64 t752) ∧ w'.cell? ⟨gb721, 0, none⟩ = some (.bool a2_0) ∧ w'.cell? ⟨gb721, 1, none⟩ = some (.int .u64 a2_1) ∧ w'.cell? ⟨gb721, 2, none⟩ = some (.int .u64 a2_2) ∧ w'.cell? ⟨gb721, 3, none⟩ = some (.int .i64 a2_3) ∧ w'.cell? ⟨gb729, 0, none⟩ = some (.int .u64 t724) ∧ w'.cell? ⟨gb729, 1, none⟩ = some (.int .u64 t725) ∧ w'.cell? ⟨gb722, 0, none⟩ = some (.int .u64 a3_0) ∧ w'.cell? ⟨gb722, 1, none⟩ = some (.int .u64 a3_1) ∧ w'.cell? ⟨gb730, 0, none⟩ = some (.int .u64 t726) ∧ w'.cell? ⟨gb730, 1, none⟩ = some (.int .u64 t727)) (ds := []) (bm_ 15 0) (by kernel_rfl) rfl rfl ⟨kc_ BK754 0, kc_ BK754 1, kc_ BK754 2, kc_ BK754 3, kc_ BK721 0, kc_ BK721 1, kc_ BK721 2, kc_ BK721 3, kc_ BK729 0, kc_ BK729 1, kc_ BK722 0, kc_ BK722 1, kc_ BK730 0, kc_ BK730 1⟩ (fun hHeld => ?_); refine with_tabW platbooklaw04_CarveSpans.tab17 platbooklaw04_CarveSpans.bits17 (fun HT_ HW_ => ?_)
              generalize w191.drew = w192 at BK720 BK721 BK722 BK729 BK730 BK740 BK746 BK754 HB hHeld ⊢
              refine ta_ 0 (some 114) (bm_ 15 1) rfl HT_ HW_ ⟨by rfl, by rintro w' ⟨s0, s1, s2, s3, s4, s5, s6, s7, s8, s9, s10, s11, s12, s13⟩; go_simp; with_reducible rfl⟩ hHeld ?_
              refine ta_ 1 (some 115) (bm_ 15 3) rfl HT_ HW_ ⟨by rfl, by rintro w' ⟨s0, s1, s2, s3, s4, s5, s6, s7, s8, s9, s10, s11, s12, s13⟩; go_simp; with_reducible rfl⟩ hHeld ?_
              refine ta_ 3 (some 117) (bm_ 15 11) rfl HT_ HW_ ⟨by rfl, by rintro w' ⟨s0, s1, s2, s3, s4, s5, s6, s7, s8, s9, s10, s11, s12, s13⟩; go_simp; with_reducible rfl⟩ hHeld ?_
              refine ta_ 4 (some 118) (bm_ 15 27) rfl HT_ HW_ ⟨by rfl, by rintro w' ⟨s0, s1, s2, s3, s4, s5, s6, s7, s8, s9, s10, s11, s12, s13⟩; go_simp; with_reducible rfl⟩ hHeld ?_
              refine one_ (i := 2) (N := some 116) (bm_ 15 31) rfl rfl (one_of HT_.out (by kernel_rfl)) (by decide) (fun K hK => ?_)
              refine gr_ Tryz.func43 #[.agg #[.bool t749, .int .u64 t750, .int .u64 t751, .int .i64 t752], .agg #[.bool a2_0, .int .u64 a2_1, .int .u64 a2_2, .int .i64 a2_3]] ?_
              with_reducible refine (prefix_Overlap.calls kj89 t749 t750 t751 t752 a2_0 a2_1 a2_2 a2_3 t755 _ A164.out).mono ?_
              rintro e w193 ⟨rfl, hb⟩
              refine ⟨_, rfl, ?_⟩
              replace BK720 := bb_ BK720 hb
              replace BK721 := bb_ BK721 hb
              replace BK722 := bb_ BK722 hb
              replace BK729 := bb_ BK729 hb
              replace BK730 := bb_ BK730 hb
              replace BK740 := bb_ BK740 hb
              replace BK746 := bb_ BK746 hb
              replace BK754 := bb_ BK754 hb
              replace HB := bs_ HB hb
              (try clear hb)
              (try clear hb2)
              (try clear hk)
              (try clear hi)
              refine hK.out _ _ ⟨kc_ BK754 0, kc_ BK754 1, kc_ BK754 2, kc_ BK754 3, kc_ BK721 0, kc_ BK721 1, kc_ BK721 2, kc_ BK721 3, kc_ BK729 0, kc_ BK729 1, kc_ BK722 0, kc_ BK722 1, kc_ BK730 0, kc_ BK730 1⟩ (fun hHeld => ?_)
              clear hK K
              refine norm_ (a' := ?_) ?_ ?_
              rotate_left
              ·
               show Act.put _ (some 116) _ = _
               simp only [Act.put, List.setIfInBounds_toArray, List.set_cons_zero, List.set_cons_succ, i64_w, i32_w]
               rfl
              refine one_ (i := 5) (N := some 119) (bm_ 15 63) rfl rfl (one_of HT_.out (by kernel_rfl)) (by decide) (fun K hK => ?_)
              refine gr_ Tryz.func53 #[.agg #[.int .u64 t724, .int .u64 t725], .agg #[.int .u64 a3_0, .int .u64 a3_1]] ?_
              with_reducible refine (num_Cmp.calls t724 t725 a3_0 a3_1 t756 _ A165.out).mono ?_
              rintro e w194 ⟨rfl, hb⟩
              refine ⟨_, rfl, ?_⟩
              replace BK720 := bb_ BK720 hb
              replace BK721 := bb_ BK721 hb
              replace BK722 := bb_ BK722 hb
              replace BK729 := bb_ BK729 hb
              replace BK730 := bb_ BK730 hb
              replace BK740 := bb_ BK740 hb
              replace BK746 := bb_ BK746 hb
              replace BK754 := bb_ BK754 hb
              replace HB := bs_ HB hb
              (try clear hb)
              (try clear hb2)
              (try clear hk)
              (try clear hi)
              refine hK.out _ _ ⟨kc_ BK754 0, kc_ BK754 1, kc_ BK754 2, kc_ BK754 3, kc_ BK721 0, kc_ BK721 1, kc_ BK721 2, kc_ BK721 3, kc_ BK729 0, kc_ BK729 1, kc_ BK722 0, kc_ BK722 1, kc_ BK730 0, kc_ BK730 1⟩ (fun hHeld => ?_)
              clear hK K
              refine norm_ (a' := ?_) ?_ ?_
              rotate_left
              ·
               show Act.put _ (some 119) _ = _
               simp only [Act.put, List.setIfInBounds_toArray, List.set_cons_zero, List.set_cons_succ, i64_w, i32_w]
               rfl
              refine pu_ 6 (some 120) (bm_ 15 127) rfl HT_ ⟨by rfl, by intro w'; go_simp; with_reducible rfl⟩ ?_
              refine pu_ 7 (some 121) (bm_ 15 255) rfl HT_ ⟨by rfl, by intro w'; go_simp; with_reducible rfl⟩ ?_
              refine ta_ 8 (some 122) (bm_ 15 511) rfl HT_ HW_ ⟨by rfl, by rintro w' ⟨s0, s1, s2, s3, s4, s5, s6, s7, s8, s9, s10, s11, s12, s13⟩; go_simp; with_reducible rfl⟩ hHeld ?_
              refine ta_ 9 (some 123) (bm_ 15 1023) rfl HT_ HW_ ⟨by rfl, by rintro w' ⟨s0, s1, s2, s3, s4, s5, s6, s7, s8, s9, s10, s11, s12, s13⟩; go_simp; with_reducible rfl⟩ hHeld ?_
              refine one_ (i := 10) (N := some 124) (bm_ 15 2047) rfl rfl (one_of HT_.out (by kernel_rfl)) (by decide) (fun K hK => ?_)
              refine gr_ Tryz.func53 #[.agg #[.int .u64 a3_0, .int .u64 a3_1], .agg #[.int .u64 t726, .int .u64 t727]] ?_
              with_reducible refine (num_Cmp.calls a3_0 a3_1 t726 t727 t757 _ A167.out).mono ?_
              rintro e w195 ⟨rfl, hb⟩
              refine ⟨_, rfl, ?_⟩
              replace BK720 := bb_ BK720 hb
              replace BK721 := bb_ BK721 hb
              replace BK722 := bb_ BK722 hb
              replace BK729 := bb_ BK729 hb
              replace BK730 := bb_ BK730 hb
              replace BK740 := bb_ BK740 hb
              replace BK746 := bb_ BK746 hb
              replace BK754 := bb_ BK754 hb
              replace HB := bs_ HB hb
              (try clear hb)
              (try clear hb2)
              (try clear hk)
              (try clear hi)
              refine hK.out _ _ ⟨kc_ BK754 0, kc_ BK754 1, kc_ BK754 2, kc_ BK754 3, kc_ BK721 0, kc_ BK721 1, kc_ BK721 2, kc_ BK721 3, kc_ BK729 0, kc_ BK729 1, kc_ BK722 0, kc_ BK722 1, kc_ BK730 0, kc_ BK730 1⟩ (fun hHeld => ?_)
              clear hK K
              refine norm_ (a' := ?_) ?_ ?_
              rotate_left
              ·
               show Act.put _ (some 124) _ = _
               simp only [Act.put, List.setIfInBounds_toArray, List.set_cons_zero, List.set_cons_succ, i64_w, i32_w]
               rfl
              refine pu_ 11 (some 125) (bm_ 15 4095) rfl HT_ ⟨by rfl, by intro w'; go_simp; with_reducible rfl⟩ ?_
              refine pu_ 12 (some 126) (bm_ 15 8191) rfl HT_ ⟨by rfl, by intro w'; go_simp; with_reducible rfl⟩ ?_
              refine pu_ 13 (some 127) (bm_ 15 16383) rfl HT_ ⟨by rfl, by intro w'; go_simp; with_reducible rfl⟩ ?_
              refine pu_ 14 (some 8) (bm_ 15 32767) rfl HT_ ⟨by rfl, by intro w'; go_simp; with_reducible rfl⟩ ?_
              refine done_ (done_of HT_.out (by kernel_rfl)) ?_
              try go_wp2
              go_ret
              exact ⟨by first | rfl | (simp [errW_none, errW_some] <;> rfl) | (simp [*, errW_none, errW_some] <;> rfl), pb_ HB⟩
             ·
              rw [if_neg c166] at H
              have c166b0 : decide (t756 ≤ 0) = false := decide_eq_false c166
              clear c166
              obtain rfl := Option.some.inj H
              have hnb196 := NB720_721.out
              have hnc196 := NB721_720.out
              have hnb197 := NB720_722.out
              have hnc197 := NB722_720.out
              have hnb198 := NB720_729.out
              have hnc198 := NB729_720.out
              have hnb199 := NB720_730.out
              have hnc199 := NB730_720.out
              have hnb200 := NB720_740.out
              have hnc200 := NB740_720.out
              have hnb201 := NB720_746.out
              have hnc201 := NB746_720.out
              obtain ⟨hcz202_0, hcz202_1, hcz202_2, hcz202_3, hfz202_0, hfz202_1, hfz202_2, hfz202_3⟩ := c4_ BK720
              have hnb203 := NB722_721.out
              have hnc203 := NB721_722.out
              have hnb204 := NB722_729.out
              have hnc204 := NB729_722.out
              have hnb205 := NB722_730.out
              have hnc205 := NB730_722.out
              have hnb206 := NB722_740.out
              have hnc206 := NB740_722.out
              have hnb207 := NB722_746.out
              have hnc207 := NB746_722.out
              obtain ⟨hcz208_0, hcz208_1, hfz208_0, hfz208_1⟩ := c2_ BK722
              try go_wp2_with (first | ((with_reducible refine gate_callee (f := 49) rfl ?_); refine gl_ (some 109) Tryz.func49 #[.agg #[.bool a0_0, .int .u64 a0_1, .int .u64 a0_2, .int .i64 a0_3], .int .i64 a1, .agg #[.int .u64 a3_0, .int .u64 a3_1]] ?_; (with_reducible refine (carve_Block.calls a0_0 a0_1 a0_2 a0_3 a1 a3_0 a3_1 t749 t750 t751 t752 t753 _ A162.out).mono ?_); rintro e w209 ⟨rfl, hb⟩; refine ⟨_, rfl, ?_⟩; replace BK720 := bb_ BK720 hb; replace BK721 := bb_ BK721 hb; replace BK722 := bb_ BK722 hb; replace BK729 := bb_ BK729 hb; replace BK730 := bb_ BK730 hb; replace BK740 := bb_ BK740 hb; replace BK746 := bb_ BK746 hb; replace HB := bs_ HB hb; (try clear hb); (try clear hb2); (try clear hk); (try clear hi)) | ((with_reducible refine gate_dst (N := 16) rfl ?_); refine bx_ 16 #[.bool false, .int .u64 0, .int .u64 0, .int .i64 0] 38 ?_; intro gb754 hg w210 hbox hb; have BK754 := Aside0.mk (hbox); have GW754 := gw_ HB hg; have GE754 := gw_ HB hg; have NB720_754 := nl_ BK720 hg; have NB754_720 := ng_ BK720 hg; have NB721_754 := nl_ BK721 hg; have NB754_721 := ng_ BK721 hg; have NB722_754 := nl_ BK722 hg; have NB754_722 := ng_ BK722 hg; have NB729_754 := nl_ BK729 hg; have NB754_729 := ng_ BK729 hg; have NB730_754 := nl_ BK730 hg; have NB754_730 := ng_ BK730 hg; have NB740_754 := nl_ BK740 hg; have NB754_740 := ng_ BK740 hg; have NB746_754 := nl_ BK746 hg; have NB754_746 := ng_ BK746 hg; replace BK720 := bb_ BK720 hb; replace BK721 := bb_ BK721 hb; replace BK722 := bb_ BK722 hb; replace BK729 := bb_ BK729 hb; replace BK730 := bb_ BK730 hb; replace BK740 := bb_ BK740 hb; replace BK746 := bb_ BK746 hb; replace HB := bs_ HB hb; clear hb hbox hg; have hnb211 := NB754_720.out; have hnc211 := NB720_754.out; have hnb212 := NB754_721.out; have hnc212 := NB721_754.out; have hnb213 := NB754_722.out; have hnc213 := NB722_754.out; have hnb214 := NB754_729.out; have hnc214 := NB729_754.out; have hnb215 := NB754_730.out; have hnc215 := NB730_754.out; have hnb216 := NB754_740.out; have hnc216 := NB740_754.out; have hnb217 := NB754_746.out; have hnc217 := NB746_754.out; obtain ⟨hcz218_0, hcz218_1, hcz218_2, hcz218_3, hfz218_0, hfz218_1, hfz218_2, hfz218_3⟩ := c4_ BK754))
              have n0_ : Aside0 (((((w210.setCell ⟨gb754, 0, none⟩ (.bool t749)).setCell ⟨gb754, 1, none⟩ (.int .u64 t750)).setCell ⟨gb754, 2, none⟩ (.int .u64 t751)).setCell ⟨gb754, 3, none⟩ (.int .i64 t752)).heap[gb720]? = some (.cells #[.bool a0_0, .int .u64 a0_1, .int .u64 a0_2, .int .i64 a0_3] 38 (0, 0))) := ⟨by refine pw_ ?_; refine blk_far ?_ NB720_754.out _; refine pw_ ?_; refine blk_far ?_ NB720_754.out _; refine pw_ ?_; refine blk_far ?_ NB720_754.out _; refine pw_ ?_; refine blk_far ?_ NB720_754.out _; refine pw_ ?_; exact BK720.out⟩
              have n1_ : Aside0 (((((w210.setCell ⟨gb754, 0, none⟩ (.bool t749)).setCell ⟨gb754, 1, none⟩ (.int .u64 t750)).setCell ⟨gb754, 2, none⟩ (.int .u64 t751)).setCell ⟨gb754, 3, none⟩ (.int .i64 t752)).heap[gb721]? = some (.cells #[.bool a2_0, .int .u64 a2_1, .int .u64 a2_2, .int .i64 a2_3] 38 (0, 0))) := ⟨by refine pw_ ?_; refine blk_far ?_ NB721_754.out _; refine pw_ ?_; refine blk_far ?_ NB721_754.out _; refine pw_ ?_; refine blk_far ?_ NB721_754.out _; refine pw_ ?_; refine blk_far ?_ NB721_754.out _; refine pw_ ?_; exact BK721.out⟩
              have n2_ : Aside0 (((((w210.setCell ⟨gb754, 0, none⟩ (.bool t749)).setCell ⟨gb754, 1, none⟩ (.int .u64 t750)).setCell ⟨gb754, 2, none⟩ (.int .u64 t751)).setCell ⟨gb754, 3, none⟩ (.int .i64 t752)).heap[gb722]? = some (.cells #[.int .u64 a3_0, .int .u64 a3_1] 24 (0, 0))) := ⟨by refine pw_ ?_; refine blk_far ?_ NB722_754.out _; refine pw_ ?_; refine blk_far ?_ NB722_754.out _; refine pw_ ?_; refine blk_far ?_ NB722_754.out _; refine pw_ ?_; refine blk_far ?_ NB722_754.out _; refine pw_ ?_; exact BK722.out⟩
              have n3_ : Aside0 (((((w210.setCell ⟨gb754, 0, none⟩ (.bool t749)).setCell ⟨gb754, 1, none⟩ (.int .u64 t750)).setCell ⟨gb754, 2, none⟩ (.int .u64 t751)).setCell ⟨gb754, 3, none⟩ (.int .i64 t752)).heap[gb729]? = some (.cells #[.int .u64 t724, .int .u64 t725] 24 (0, 0))) := ⟨by refine pw_ ?_; refine blk_far ?_ NB729_754.out _; refine pw_ ?_; refine blk_far ?_ NB729_754.out _; refine pw_ ?_; refine blk_far ?_ NB729_754.out _; refine pw_ ?_; refine blk_far ?_ NB729_754.out _; refine pw_ ?_; exact BK729.out⟩
              have n4_ : Aside0 (((((w210.setCell ⟨gb754, 0, none⟩ (.bool t749)).setCell ⟨gb754, 1, none⟩ (.int .u64 t750)).setCell ⟨gb754, 2, none⟩ (.int .u64 t751)).setCell ⟨gb754, 3, none⟩ (.int .i64 t752)).heap[gb730]? = some (.cells #[.int .u64 t726, .int .u64 t727] 24 (0, 0))) := ⟨by refine pw_ ?_; refine blk_far ?_ NB730_754.out _; refine pw_ ?_; refine blk_far ?_ NB730_754.out _; refine pw_ ?_; refine blk_far ?_ NB730_754.out _; refine pw_ ?_; refine blk_far ?_ NB730_754.out _; refine pw_ ?_; exact BK730.out⟩
              have n5_ : Aside0 (((((w210.setCell ⟨gb754, 0, none⟩ (.bool t749)).setCell ⟨gb754, 1, none⟩ (.int .u64 t750)).setCell ⟨gb754, 2, none⟩ (.int .u64 t751)).setCell ⟨gb754, 3, none⟩ (.int .i64 t752)).heap[gb740]? = some (.cells #[.bool t735, .int .u64 t736, .int .u64 t737, .int .i64 t738] 38 (0, 0))) := ⟨by refine pw_ ?_; refine blk_far ?_ NB740_754.out _; refine pw_ ?_; refine blk_far ?_ NB740_754.out _; refine pw_ ?_; refine blk_far ?_ NB740_754.out _; refine pw_ ?_; refine blk_far ?_ NB740_754.out _; refine pw_ ?_; exact BK740.out⟩
              have n6_ : Aside0 (((((w210.setCell ⟨gb754, 0, none⟩ (.bool t749)).setCell ⟨gb754, 1, none⟩ (.int .u64 t750)).setCell ⟨gb754, 2, none⟩ (.int .u64 t751)).setCell ⟨gb754, 3, none⟩ (.int .i64 t752)).heap[gb746]? = some (.cells #[.bool t741, .int .u64 t742, .int .u64 t743, .int .i64 t744] 38 (0, 0))) := ⟨by refine pw_ ?_; refine blk_far ?_ NB746_754.out _; refine pw_ ?_; refine blk_far ?_ NB746_754.out _; refine pw_ ?_; refine blk_far ?_ NB746_754.out _; refine pw_ ?_; refine blk_far ?_ NB746_754.out _; refine pw_ ?_; exact BK746.out⟩
              have n7_ : Aside0 (((((w210.setCell ⟨gb754, 0, none⟩ (.bool t749)).setCell ⟨gb754, 1, none⟩ (.int .u64 t750)).setCell ⟨gb754, 2, none⟩ (.int .u64 t751)).setCell ⟨gb754, 3, none⟩ (.int .i64 t752)).heap[gb754]? = some (.cells #[.bool t749, .int .u64 t750, .int .u64 t751, .int .i64 t752] 38 (0, 0))) := ⟨by refine pw_ ?_; refine blk_put (cs := #[.bool t749, .int .u64 t750, .int .u64 t751, .int .i64 0]) ?_ 3 _ rfl; refine pw_ ?_; refine blk_put (cs := #[.bool t749, .int .u64 t750, .int .u64 0, .int .i64 0]) ?_ 2 _ rfl; refine pw_ ?_; refine blk_put (cs := #[.bool t749, .int .u64 0, .int .u64 0, .int .i64 0]) ?_ 1 _ rfl; refine pw_ ?_; refine blk_put (cs := #[.bool false, .int .u64 0, .int .u64 0, .int .i64 0]) ?_ 0 _ rfl; refine pw_ ?_; exact BK754.out⟩
              have n8_ : Aside0 (Below w.heap.size w ((((w210.setCell ⟨gb754, 0, none⟩ (.bool t749)).setCell ⟨gb754, 1, none⟩ (.int .u64 t750)).setCell ⟨gb754, 2, none⟩ (.int .u64 t751)).setCell ⟨gb754, 3, none⟩ (.int .i64 t752))) := ⟨pb_ HB⟩
              (try clear BK720)
              (try clear BK721)
              (try clear BK722)
              (try clear BK729)
              (try clear BK730)
              (try clear BK740)
              (try clear BK746)
              (try clear BK754)
              (try clear HB)
              generalize ((((w210.setCell ⟨gb754, 0, none⟩ (.bool t749)).setCell ⟨gb754, 1, none⟩ (.int .u64 t750)).setCell ⟨gb754, 2, none⟩ (.int .u64 t751)).setCell ⟨gb754, 3, none⟩ (.int .i64 t752)) = w219 at n0_ n1_ n2_ n3_ n4_ n5_ n6_ n7_ n8_ ⊢
              have BK720 := n0_
              have BK721 := n1_
              have BK722 := n2_
              have BK729 := n3_
              have BK730 := n4_
              have BK740 := n5_
              have BK746 := n6_
              have BK754 := n7_
              have HB := n8_
              clear n0_ n1_ n2_ n3_ n4_ n5_ n6_ n7_ n8_
              replace BK720 := Aside0.mk (blk_drew BK720.out)
              replace BK721 := Aside0.mk (blk_drew BK721.out)
              replace BK722 := Aside0.mk (blk_drew BK722.out)
              replace BK729 := Aside0.mk (blk_drew BK729.out)
              replace BK730 := Aside0.mk (blk_drew BK730.out)
              replace BK740 := Aside0.mk (blk_drew BK740.out)
              replace BK746 := Aside0.mk (blk_drew BK746.out)
              replace BK754 := Aside0.mk (blk_drew BK754.out)
              replace HB := Aside0.mk (below_drew1 HB.out)
              refine start_ (n := 15) (S := fun w' => w'.cell? ⟨gb754, 0, none⟩ = some (.bool t749) ∧ w'.cell? ⟨gb754, 1, none⟩ = some (.int .u64 t750) ∧ w'.cell? ⟨gb754, 2, none⟩ = some (.int .u64 t751) ∧ w'.cell? ⟨gb754, 3, none⟩ = some (.int .i64 t752) ∧ w'.cell? ⟨gb721, 0, none⟩ = some (.bool a2_0) ∧ w'.cell? ⟨gb721, 1, none⟩ = some (.int .u64 a2_1) ∧ w'.cell? ⟨gb721, 2, none⟩ = some (.int .u64 a2_2) ∧ w'.cell? ⟨gb721, 3, none⟩ = some (.int .i64 a2_3) ∧ w'.cell? ⟨gb729, 0, none⟩ = some (.int .u64 t724) ∧ w'.cell? ⟨gb729, 1, none⟩ = some (.int .u64 t725) ∧ w'.cell? ⟨gb722, 0, none⟩ = some (.int .u64 a3_0) ∧ w'.cell? ⟨gb722, 1, none⟩ = some (.int .u64 a3_1)) (ds := []) (bm_ 15 0) (by kernel_rfl) rfl rfl ⟨kc_ BK754 0, kc_ BK754 1, kc_ BK754 2, kc_ BK754 3, kc_ BK721 0, kc_ BK721 1, kc_ BK721 2, kc_ BK721 3, kc_ BK729 0, kc_ BK729 1, kc_ BK722 0, kc_ BK722 1⟩ (fun hHeld => ?_); refine with_tabW platbooklaw04_CarveSpans.tab17 platbooklaw04_CarveSpans.bits17 (fun HT_ HW_ => ?_)
              generalize w219.drew = w220 at BK720 BK721 BK722 BK729 BK730 BK740 BK746 BK754 HB hHeld ⊢
              refine ta_ 0 (some 114) (bm_ 15 1) rfl HT_ HW_ ⟨by rfl, by rintro w' ⟨s0, s1, s2, s3, s4, s5, s6, s7, s8, s9, s10, s11⟩; go_simp; with_reducible rfl⟩ hHeld ?_
              refine ta_ 1 (some 115) (bm_ 15 3) rfl HT_ HW_ ⟨by rfl, by rintro w' ⟨s0, s1, s2, s3, s4, s5, s6, s7, s8, s9, s10, s11⟩; go_simp; with_reducible rfl⟩ hHeld ?_
              refine ta_ 3 (some 117) (bm_ 15 11) rfl HT_ HW_ ⟨by rfl, by rintro w' ⟨s0, s1, s2, s3, s4, s5, s6, s7, s8, s9, s10, s11⟩; go_simp; with_reducible rfl⟩ hHeld ?_
              refine ta_ 4 (some 118) (bm_ 15 27) rfl HT_ HW_ ⟨by rfl, by rintro w' ⟨s0, s1, s2, s3, s4, s5, s6, s7, s8, s9, s10, s11⟩; go_simp; with_reducible rfl⟩ hHeld ?_
              refine one_ (i := 2) (N := some 116) (bm_ 15 31) rfl rfl (one_of HT_.out (by kernel_rfl)) (by decide) (fun K hK => ?_)
              refine gr_ Tryz.func43 #[.agg #[.bool t749, .int .u64 t750, .int .u64 t751, .int .i64 t752], .agg #[.bool a2_0, .int .u64 a2_1, .int .u64 a2_2, .int .i64 a2_3]] ?_
              with_reducible refine (prefix_Overlap.calls kj89 t749 t750 t751 t752 a2_0 a2_1 a2_2 a2_3 t755 _ A164.out).mono ?_
              rintro e w221 ⟨rfl, hb⟩
              refine ⟨_, rfl, ?_⟩
              replace BK720 := bb_ BK720 hb
              replace BK721 := bb_ BK721 hb
              replace BK722 := bb_ BK722 hb
              replace BK729 := bb_ BK729 hb
              replace BK730 := bb_ BK730 hb
              replace BK740 := bb_ BK740 hb
              replace BK746 := bb_ BK746 hb
              replace BK754 := bb_ BK754 hb
              replace HB := bs_ HB hb
              (try clear hb)
              (try clear hb2)
              (try clear hk)
              (try clear hi)
              refine hK.out _ _ ⟨kc_ BK754 0, kc_ BK754 1, kc_ BK754 2, kc_ BK754 3, kc_ BK721 0, kc_ BK721 1, kc_ BK721 2, kc_ BK721 3, kc_ BK729 0, kc_ BK729 1, kc_ BK722 0, kc_ BK722 1⟩ (fun hHeld => ?_)
              clear hK K
              refine norm_ (a' := ?_) ?_ ?_
              rotate_left
              ·
               show Act.put _ (some 116) _ = _
               simp only [Act.put, List.setIfInBounds_toArray, List.set_cons_zero, List.set_cons_succ, i64_w, i32_w]
               rfl
              refine one_ (i := 5) (N := some 119) (bm_ 15 63) rfl rfl (one_of HT_.out (by kernel_rfl)) (by decide) (fun K hK => ?_)
              refine gr_ Tryz.func53 #[.agg #[.int .u64 t724, .int .u64 t725], .agg #[.int .u64 a3_0, .int .u64 a3_1]] ?_
              with_reducible refine (num_Cmp.calls t724 t725 a3_0 a3_1 t756 _ A165.out).mono ?_
              rintro e w222 ⟨rfl, hb⟩
              refine ⟨_, rfl, ?_⟩
              replace BK720 := bb_ BK720 hb
              replace BK721 := bb_ BK721 hb
              replace BK722 := bb_ BK722 hb
              replace BK729 := bb_ BK729 hb
              replace BK730 := bb_ BK730 hb
              replace BK740 := bb_ BK740 hb
              replace BK746 := bb_ BK746 hb
              replace BK754 := bb_ BK754 hb
              replace HB := bs_ HB hb
              (try clear hb)
              (try clear hb2)
              (try clear hk)
              (try clear hi)
              refine hK.out _ _ ⟨kc_ BK754 0, kc_ BK754 1, kc_ BK754 2, kc_ BK754 3, kc_ BK721 0, kc_ BK721 1, kc_ BK721 2, kc_ BK721 3, kc_ BK729 0, kc_ BK729 1, kc_ BK722 0, kc_ BK722 1⟩ (fun hHeld => ?_)
              clear hK K
              refine norm_ (a' := ?_) ?_ ?_
              rotate_left
              ·
               show Act.put _ (some 119) _ = _
               simp only [Act.put, List.setIfInBounds_toArray, List.set_cons_zero, List.set_cons_succ, i64_w, i32_w]
               rfl
              refine pu_ 6 (some 120) (bm_ 15 127) rfl HT_ ⟨by rfl, by intro w'; go_simp; with_reducible rfl⟩ ?_
              refine pu_ 7 (some 121) (bm_ 15 255) rfl HT_ ⟨by rfl, by intro w'; go_simp; with_reducible rfl⟩ ?_
              refine pure_ (i := 8) (N := some 122) (v := undef) (a' := ?_) (bm_ 15 511) rfl rfl (any_of HT_.out (by kernel_rfl)) (fun _ _ _ h => h) (Or.inr ⟨by rfl, rfl⟩) ?_ ?_
              rotate_left
              ·
               simp only [Act.put, List.setIfInBounds_toArray, List.set_cons_zero, List.set_cons_succ, i64_w, i32_w]
               rfl
              refine pure_ (i := 9) (N := some 123) (v := undef) (a' := ?_) (bm_ 15 1023) rfl rfl (any_of HT_.out (by kernel_rfl)) (fun _ _ _ h => h) (Or.inr ⟨by rfl, rfl⟩) ?_ ?_
              rotate_left
              ·
               simp only [Act.put, List.setIfInBounds_toArray, List.set_cons_zero, List.set_cons_succ, i64_w, i32_w]
               rfl
              refine pure_ (i := 10) (N := some 124) (v := undef) (a' := ?_) (bm_ 15 2047) rfl rfl (any_of HT_.out (by kernel_rfl)) (fun _ _ _ h => h) (Or.inr ⟨by rfl, rfl⟩) ?_ ?_
              rotate_left
              ·
               simp only [Act.put, List.setIfInBounds_toArray, List.set_cons_zero, List.set_cons_succ, i64_w, i32_w]
               rfl
              refine pure_ (i := 11) (N := some 125) (v := undef) (a' := ?_) (bm_ 15 4095) rfl rfl (any_of HT_.out (by kernel_rfl)) (fun _ _ _ h => h) (Or.inr ⟨by rfl, rfl⟩) ?_ ?_
              rotate_left
              ·
               simp only [Act.put, List.setIfInBounds_toArray, List.set_cons_zero, List.set_cons_succ, i64_w, i32_w]
               rfl
              refine pu_ 12 (some 126) (bm_ 15 8191) rfl HT_ ⟨by rfl, by intro w'; go_simp; with_reducible rfl⟩ ?_
              refine pu_ 13 (some 127) (bm_ 15 16383) rfl HT_ ⟨by rfl, by intro w'; go_simp; with_reducible rfl⟩ ?_
              refine pu_ 14 (some 8) (bm_ 15 32767) rfl HT_ ⟨by rfl, by intro w'; go_simp; with_reducible rfl⟩ ?_
              refine done_ (done_of HT_.out (by kernel_rfl)) ?_
              try go_wp2
              go_ret
              exact ⟨by first | rfl | (simp [errW_none, errW_some] <;> rfl) | (simp [*, errW_none, errW_some] <;> rfl), pb_ HB⟩
            ·
             rw [if_neg c163] at H
             have c163b0 : (t753 == 0) = false := beq_eq_false_iff_ne.mpr c163
             have c163b1 : (t753 != 0) = true := bne_iff_ne.mpr c163
             obtain rfl := Option.some.inj H
             have hnb223 := NB720_721.out
             have hnc223 := NB721_720.out
             have hnb224 := NB720_722.out
             have hnc224 := NB722_720.out
             have hnb225 := NB720_729.out
             have hnc225 := NB729_720.out
             have hnb226 := NB720_730.out
             have hnc226 := NB730_720.out
             have hnb227 := NB720_740.out
             have hnc227 := NB740_720.out
             have hnb228 := NB720_746.out
             have hnc228 := NB746_720.out
             obtain ⟨hcz229_0, hcz229_1, hcz229_2, hcz229_3, hfz229_0, hfz229_1, hfz229_2, hfz229_3⟩ := c4_ BK720
             have hnb230 := NB722_721.out
             have hnc230 := NB721_722.out
             have hnb231 := NB722_729.out
             have hnc231 := NB729_722.out
             have hnb232 := NB722_730.out
             have hnc232 := NB730_722.out
             have hnb233 := NB722_740.out
             have hnc233 := NB740_722.out
             have hnb234 := NB722_746.out
             have hnc234 := NB746_722.out
             obtain ⟨hcz235_0, hcz235_1, hfz235_0, hfz235_1⟩ := c2_ BK722
             go_wp2_with (first | ((with_reducible refine gate_callee (f := 49) rfl ?_); refine gl_ (some 109) Tryz.func49 #[.agg #[.bool a0_0, .int .u64 a0_1, .int .u64 a0_2, .int .i64 a0_3], .int .i64 a1, .agg #[.int .u64 a3_0, .int .u64 a3_1]] ?_; (with_reducible refine (carve_Block.calls a0_0 a0_1 a0_2 a0_3 a1 a3_0 a3_1 t749 t750 t751 t752 t753 _ A162.out).mono ?_); rintro e w236 ⟨rfl, hb⟩; refine ⟨_, rfl, ?_⟩; replace BK720 := bb_ BK720 hb; replace BK721 := bb_ BK721 hb; replace BK722 := bb_ BK722 hb; replace BK729 := bb_ BK729 hb; replace BK730 := bb_ BK730 hb; replace BK740 := bb_ BK740 hb; replace BK746 := bb_ BK746 hb; replace HB := bs_ HB hb; (try clear hb); (try clear hb2); (try clear hk); (try clear hi)) | ((with_reducible refine gate_dst (N := 16) rfl ?_); refine bx_ 16 #[.bool false, .int .u64 0, .int .u64 0, .int .i64 0] 38 ?_; intro gb754 hg w237 hbox hb; have BK754 := Aside0.mk (hbox); have GW754 := gw_ HB hg; have GE754 := gw_ HB hg; have NB720_754 := nl_ BK720 hg; have NB754_720 := ng_ BK720 hg; have NB721_754 := nl_ BK721 hg; have NB754_721 := ng_ BK721 hg; have NB722_754 := nl_ BK722 hg; have NB754_722 := ng_ BK722 hg; have NB729_754 := nl_ BK729 hg; have NB754_729 := ng_ BK729 hg; have NB730_754 := nl_ BK730 hg; have NB754_730 := ng_ BK730 hg; have NB740_754 := nl_ BK740 hg; have NB754_740 := ng_ BK740 hg; have NB746_754 := nl_ BK746 hg; have NB754_746 := ng_ BK746 hg; replace BK720 := bb_ BK720 hb; replace BK721 := bb_ BK721 hb; replace BK722 := bb_ BK722 hb; replace BK729 := bb_ BK729 hb; replace BK730 := bb_ BK730 hb; replace BK740 := bb_ BK740 hb; replace BK746 := bb_ BK746 hb; replace HB := bs_ HB hb; clear hb hbox hg; have hnb238 := NB754_720.out; have hnc238 := NB720_754.out; have hnb239 := NB754_721.out; have hnc239 := NB721_754.out; have hnb240 := NB754_722.out; have hnc240 := NB722_754.out; have hnb241 := NB754_729.out; have hnc241 := NB729_754.out; have hnb242 := NB754_730.out; have hnc242 := NB730_754.out; have hnb243 := NB754_740.out; have hnc243 := NB740_754.out; have hnb244 := NB754_746.out; have hnc244 := NB746_754.out; obtain ⟨hcz245_0, hcz245_1, hcz245_2, hcz245_3, hfz245_0, hfz245_1, hfz245_2, hfz245_3⟩ := c4_ BK754))
             go_ret
             exact ⟨by first | rfl | (simp [errW_none, errW_some] <;> rfl) | (simp [*, errW_none, errW_some] <;> rfl), pb_ HB⟩
     ·
      replace c63 := Bool.eq_false_iff.mpr c63
      subst c63
      have H1 : (if t728 = 12 then (if (t724 == 0 && (t725 == 0)) = true then (some (t726 == 0 && (t727 == 0))) else (some false)) else (some false)) = some r := by rw [if_neg (show ¬ (false = true) by decide)] at H; exact H
      clear H
      have H := H1
      clear H1
      by_cases c246 : t728 = 12
      ·
       rw [if_pos c246] at H
       have c246b0 : (t728 == 12) = true := beq_iff_eq.mpr c246
       have c246b1 : (t728 != 12) = false := bne_eq_false_iff_eq.mpr c246
       clear c246
       by_cases c247 : (t724 == 0 && (t725 == 0)) = true
       ·
        rw [if_pos c247] at H
        have c247b0 : (t724 == 0 && (t725 == 0)) = true := c247
        (try (have c247b1 : decide (t724 = 0 && (t725 == 0)) = true := by simpa using c247))
        (try (have c247b2 : (t724 == 0 && (t725 == 0)) = true := by simpa using c247))
        clear c247
        obtain rfl := Option.some.inj H
        have hnb248 := NB720_721.out
        have hnc248 := NB721_720.out
        have hnb249 := NB720_722.out
        have hnc249 := NB722_720.out
        have hnb250 := NB720_729.out
        have hnc250 := NB729_720.out
        have hnb251 := NB720_730.out
        have hnc251 := NB730_720.out
        obtain ⟨hcz252_0, hcz252_1, hcz252_2, hcz252_3, hfz252_0, hfz252_1, hfz252_2, hfz252_3⟩ := c4_ BK720
        have hnb253 := NB721_722.out
        have hnc253 := NB722_721.out
        have hnb254 := NB721_729.out
        have hnc254 := NB729_721.out
        have hnb255 := NB721_730.out
        have hnc255 := NB730_721.out
        obtain ⟨hcz256_0, hcz256_1, hcz256_2, hcz256_3, hfz256_0, hfz256_1, hfz256_2, hfz256_3⟩ := c4_ BK721
        go_wp2_with (first | ((with_reducible refine gate_callee (f := 44) rfl ?_); refine gl_ (some 51) Tryz.func44 #[.agg #[.bool a0_0, .int .u64 a0_1, .int .u64 a0_2, .int .i64 a0_3], .agg #[.bool a2_0, .int .u64 a2_1, .int .u64 a2_2, .int .i64 a2_3]] ?_; (with_reducible refine (platbookref03_Overlap.calls kj7 a0_0 a0_1 a0_2 a0_3 a2_0 a2_1 a2_2 a2_3 false _ A62.out).mono ?_); rintro e w257 ⟨rfl, hb⟩; refine ⟨_, rfl, ?_⟩; replace BK720 := bb_ BK720 hb; replace BK721 := bb_ BK721 hb; replace BK722 := bb_ BK722 hb; replace BK729 := bb_ BK729 hb; replace BK730 := bb_ BK730 hb; replace HB := bs_ HB hb; (try clear hb); (try clear hb2); (try clear hk); (try clear hi); have hnb258 := NB729_722.out; have hnc258 := NB722_729.out; have hnb259 := NB729_730.out; have hnc259 := NB730_729.out; obtain ⟨hcz260_0, hcz260_1, hfz260_0, hfz260_1⟩ := c2_ BK729; have hnb261 := NB730_722.out; have hnc261 := NB722_730.out; obtain ⟨hcz262_0, hcz262_1, hfz262_0, hfz262_1⟩ := c2_ BK730))
        go_ret
        exact ⟨by first | rfl | (simp [errW_none, errW_some] <;> rfl) | (simp [*, errW_none, errW_some] <;> rfl), pb_ HB⟩
       ·
        rw [if_neg c247] at H
        have c247b0 : (t724 == 0 && (t725 == 0)) = false := by simpa using c247
        (try (have c247b1 : decide (t724 = 0 && (t725 == 0)) = false := by simpa using c247))
        (try (have c247b2 : (t724 == 0 && (t725 == 0)) = false := by simpa using c247))
        (try (have c247b3 : ¬ (t724 = 0 && (t725 == 0)) := by simpa using c247))
        clear c247
        obtain rfl := Option.some.inj H
        exact absurd HRT.out (by decide)
      ·
       rw [if_neg c246] at H
       have c246b0 : (t728 == 12) = false := beq_eq_false_iff_ne.mpr c246
       have c246b1 : (t728 != 12) = true := bne_iff_ne.mpr c246
       obtain rfl := Option.some.inj H
       exact absurd HRT.out (by decide)
 ·
  replace c6 := Bool.eq_false_iff.mpr c6
  subst c6
  have H1 : (some false) = some r := by rw [if_neg (show ¬ (false = true) by decide)] at H; exact H
  clear H
  have H := H1
  clear H1
  obtain rfl := Option.some.inj H
  exact absurd HRT.out (by decide)

end Go.Proofs.YtgdgklibilddgaaGreatDoor.PPr

namespace Go.Proofs.YtgdgklibilddgaaGreatDoor.PPr
open Go.RowKit Go.Proofs.YtgdgklibilddgaaGreatDoorW.PrintWords Go.Proofs.YtgdgklibilddgaaGreatDoorW.PrintLast Go.Proofs.YtgdgklibilddgaaGreatDoorW.PrintMore
attribute [local go_sem] max2_int min2_int max_two min_two max_three min_three max_four min_four   -- for this text's walks alone

end Go.Proofs.YtgdgklibilddgaaGreatDoor.PPr

namespace Go.Proofs.YtgdgklibilddgaaGreatDoor.PPr
open Go.RowKit Go.Proofs.YtgdgklibilddgaaGreatDoorW.PrintWords Go.Proofs.YtgdgklibilddgaaGreatDoorW.PrintLast Go.Proofs.YtgdgklibilddgaaGreatDoorW.PrintMore
attribute [local go_sem] max2_int min2_int max_two min_two max_three min_three max_four min_four   -- for this text's walks alone

attribute [local go_sem high] eqA24
end Go.Proofs.YtgdgklibilddgaaGreatDoor.PPr

namespace Go.Proofs.YtgdgklibilddgaaGreatDoor.PPr
open Go.RowKit Go.Proofs.YtgdgklibilddgaaGreatDoorW.PrintWords Go.Proofs.YtgdgklibilddgaaGreatDoorW.PrintLast Go.Proofs.YtgdgklibilddgaaGreatDoorW.PrintMore
attribute [local go_sem] max2_int min2_int max_two min_two max_three min_three max_four min_four   -- for this text's walks alone

end Go.Proofs.YtgdgklibilddgaaGreatDoor.PPr

namespace Go.Proofs.YtgdgklibilddgaaGreatDoor.PPr
open Go.RowKit Go.Proofs.YtgdgklibilddgaaGreatDoorW.PrintWords Go.Proofs.YtgdgklibilddgaaGreatDoorW.PrintLast Go.Proofs.YtgdgklibilddgaaGreatDoorW.PrintMore
attribute [local go_sem] max2_int min2_int max_two min_two max_three min_three max_four min_four   -- for this text's walks alone

end Go.Proofs.YtgdgklibilddgaaGreatDoor.PPr

namespace Go.Proofs.YtgdgklibilddgaaGreatDoor.PPr
open Go.RowKit Go.Proofs.YtgdgklibilddgaaGreatDoorW.PrintWords Go.Proofs.YtgdgklibilddgaaGreatDoorW.PrintLast Go.Proofs.YtgdgklibilddgaaGreatDoorW.PrintMore
attribute [local go_sem] max2_int min2_int max_two min_two max_three min_three max_four min_four   -- for this text's walks alone

attribute [local go_sem high] eqA24 eqA26 eqA38
end Go.Proofs.YtgdgklibilddgaaGreatDoor.PPr

namespace Go.Proofs.YtgdgklibilddgaaGreatDoor.PPr
open Go.RowKit Go.Proofs.YtgdgklibilddgaaGreatDoorW.PrintWords Go.Proofs.YtgdgklibilddgaaGreatDoorW.PrintLast Go.Proofs.YtgdgklibilddgaaGreatDoorW.PrintMore
attribute [local go_sem] max2_int min2_int max_two min_two max_three min_three max_four min_four   -- for this text's walks alone

attribute [local go_sem high] eqA26 eqA38
end Go.Proofs.YtgdgklibilddgaaGreatDoor.PPr

