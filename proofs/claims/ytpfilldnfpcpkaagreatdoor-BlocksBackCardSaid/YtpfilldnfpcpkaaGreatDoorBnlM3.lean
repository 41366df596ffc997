/-
A part of the proof of blocksNil_card: its lemmas and walks, part 3. No condition.
-/
import Derived.Lib.TrailingZeros
import Derived.Test.YtpfilldnfpcpkaaGreatDoorBnlM2
set_option linter.unusedVariables false
set_option linter.unusedSimpArgs false
namespace Go.Proofs.YtpfilldnfpcpkaaGreatDoor.PPo
open Go.RowKit Go.Proofs.YtpfilldnfpcpkaaGreatDoorW.PrintWords Go.Proofs.YtpfilldnfpcpkaaGreatDoorW.PrintLast Go.Proofs.YtpfilldnfpcpkaaGreatDoorW.PrintMore
attribute [local go_sem] max2_int min2_int max_two min_two max_three min_three max_four min_four   -- for this text's walks alone

def num_Small.f (a0_0 : Int) (a0_1 : Int) : Option (Int × Bool) := if a0_0 > 0 then (some (0, false)) else (some (a0_1, true))
set_option maxHeartbeats 8000000 in
set_option maxRecDepth 100000 in
theorem num_Small.calls (a0_0 : Int) (a0_1 : Int) (r1 : Int) (r2 : Bool) (w : World) (h : num_Small.f a0_0 a0_1 = some (r1, r2)) :
  Calls Tryz.prog 96 #[.agg #[.int .u64 a0_0, .int .u64 a0_1]] w fun e w' => e = .returned (.tuple #[.int .u64 r1, .bool r2]) ∧ Below w.heap.size w w' := by
 have hu24 := Tryz.underlying24
 have HB := Aside0.mk (Below.refl w.heap.size w)
 have H : (if a0_0 > 0 then (some (0, false)) else (some (a0_1, true))) = some (r1, r2) := h
 clear h
 by_cases c2 : a0_0 > 0
 ·
  rw [if_pos c2] at H
  have c2b0 : decide (0 < a0_0) = true := decide_eq_true c2
  clear c2
  simp only [Option.some.injEq, Prod.mk.injEq] at H
  obtain ⟨rfl, rfl⟩ := H
  go_enter Tryz.func96, Tryz.ntmps96
  go_wp2_with (first | ((with_reducible refine gate_dst (N := 1) rfl ?_); refine bx_ 1 #[.int .u64 a0_0, .int .u64 a0_1] 24 ?_; intro gb101 hg w3 hbox hb; have BK101 := Aside0.mk (hbox); have GW101 := gw_ HB hg; have GE101 := gw_ HB hg; replace HB := bs_ HB hb; clear hb hbox hg; obtain ⟨hcz4_0, hcz4_1, hfz4_0, hfz4_1⟩ := c2_ BK101))
  go_ret2
  exact ⟨by first | rfl | (simp [errW_none, errW_some] <;> rfl) | (simp [*, errW_none, errW_some] <;> rfl), pb_ HB⟩
 ·
  rw [if_neg c2] at H
  have c2b0 : decide (0 < a0_0) = false := decide_eq_false c2
  clear c2
  simp only [Option.some.injEq, Prod.mk.injEq] at H
  obtain ⟨rfl, rfl⟩ := H
  go_enter Tryz.func96, Tryz.ntmps96
  go_wp2_with (first | ((with_reducible refine gate_dst (N := 1) rfl ?_); refine bx_ 1 #[.int .u64 a0_0, .int .u64 a0_1] 24 ?_; intro gb101 hg w5 hbox hb; have BK101 := Aside0.mk (hbox); have GW101 := gw_ HB hg; have GE101 := gw_ HB hg; replace HB := bs_ HB hb; clear hb hbox hg; obtain ⟨hcz6_0, hcz6_1, hfz6_0, hfz6_1⟩ := c2_ BK101))
  go_ret2
  exact ⟨by first | rfl | (simp [errW_none, errW_some] <;> rfl) | (simp [*, errW_none, errW_some] <;> rfl), pb_ HB⟩

def carve_cuts.f (a0_0 : Bool) (a0_1 : Int) (a0_2 : Int) (a0_3 : Int) (a1 : Int) : Option (Bool) := (prefix_Right.f a0_0 a0_1 a0_2 a0_3).bind fun t103 => (if t103 = true then (if a1 ≥ a0_3 then ((addr_Width.f a0_0 a0_1 a0_2).bind fun t104 => (some (decide (a1 ≤ t104)))) else (some false)) else (some false))
set_option maxHeartbeats 8000000 in
set_option maxRecDepth 100000 in
theorem carve_cuts.calls (a0_0 : Bool) (a0_1 : Int) (a0_2 : Int) (a0_3 : Int) (a1 : Int) (r : Bool) (w : World) (h : carve_cuts.f a0_0 a0_1 a0_2 a0_3 a1 = some r) :
  Calls Tryz.prog 137 #[.agg #[.bool a0_0, .int .u64 a0_1, .int .u64 a0_2, .int .i64 a0_3], .int .i64 a1] w fun e w' => e = .returned (.bool r) ∧ Below w.heap.size w w' := by
 have hu28 := Tryz.underlying28
 have hu26 := Tryz.underlying26
 have HB := Aside0.mk (Below.refl w.heap.size w)
 have H : ((prefix_Right.f a0_0 a0_1 a0_2 a0_3).bind fun t103 => (if t103 = true then (if a1 ≥ a0_3 then ((addr_Width.f a0_0 a0_1 a0_2).bind fun t104 => (some (decide (a1 ≤ t104)))) else (some false)) else (some false))) = some r := h
 clear h
 replace H := Option.bind_eq_some_iff.mp H
 obtain ⟨t103, A30, H⟩ := H
 replace H : (if t103 = true then (if a1 ≥ a0_3 then ((addr_Width.f a0_0 a0_1 a0_2).bind fun t104 => (some (decide (a1 ≤ t104)))) else (some false)) else (some false)) = some r := H
 have A3 := Aside0.mk A30
 clear A30
 by_cases c4 : t103 = true
 ·
  subst c4
  rw [if_pos rfl] at H
  by_cases c5 : a1 ≥ a0_3
  ·
   rw [if_pos c5] at H
   have c5b0 : decide (a0_3 ≤ a1) = true := decide_eq_true c5
   clear c5
   replace H := Option.bind_eq_some_iff.mp H
   obtain ⟨t104, A60, H⟩ := H
   replace H : (some (decide (a1 ≤ t104))) = some r := H
   have A6 := Aside0.mk A60
   clear A60
   obtain rfl := Option.some.inj H
   go_enter Tryz.func137, Tryz.ntmps137
   go_wp2_with (first | ((with_reducible refine gate_dst (N := 2) rfl ?_); refine bx_ 2 #[.bool a0_0, .int .u64 a0_1, .int .u64 a0_2, .int .i64 a0_3] 28 ?_; intro gb102 hg w7 hbox hb; have BK102 := Aside0.mk (hbox); have GW102 := gw_ HB hg; have GE102 := gw_ HB hg; replace HB := bs_ HB hb; clear hb hbox hg; obtain ⟨hcz8_0, hcz8_1, hcz8_2, hcz8_3, hfz8_0, hfz8_1, hfz8_2, hfz8_3⟩ := c4_ BK102) | ((with_reducible refine gate_callee (f := 90) rfl ?_); refine gl_ (some 6) Tryz.func90 #[.agg #[.bool a0_0, .int .u64 a0_1, .int .u64 a0_2, .int .i64 a0_3]] ?_; (with_reducible refine (prefix_Right.calls a0_0 a0_1 a0_2 a0_3 true _ A3.out).mono ?_); rintro e w9 ⟨rfl, hb⟩; refine ⟨_, rfl, ?_⟩; replace BK102 := bb_ BK102 hb; replace HB := bs_ HB hb; (try clear hb); (try clear hb2); (try clear hk); (try clear hi); obtain ⟨hcz10_0, hcz10_1, hcz10_2, hcz10_3, hfz10_0, hfz10_1, hfz10_2, hfz10_3⟩ := c4_ BK102) | (go_at_call 132; (with_reducible refine (addr_Width.calls a0_0 a0_1 a0_2 t104 _ A6.out).mono ?_); rintro e w11 ⟨rfl, hb⟩; replace BK102 := bb_ BK102 hb; replace HB := bs_ HB hb; (try clear hb); (try clear hb2); (try clear hk); (try clear hi)))
   go_ret
   exact ⟨by first | rfl | (simp [errW_none, errW_some] <;> rfl) | (simp [*, errW_none, errW_some] <;> rfl), pb_ HB⟩
  ·
   rw [if_neg c5] at H
   have c5b0 : decide (a0_3 ≤ a1) = false := decide_eq_false c5
   clear c5
   obtain rfl := Option.some.inj H
   go_enter Tryz.func137, Tryz.ntmps137
   go_wp2_with (first | ((with_reducible refine gate_dst (N := 2) rfl ?_); refine bx_ 2 #[.bool a0_0, .int .u64 a0_1, .int .u64 a0_2, .int .i64 a0_3] 28 ?_; intro gb102 hg w12 hbox hb; have BK102 := Aside0.mk (hbox); have GW102 := gw_ HB hg; have GE102 := gw_ HB hg; replace HB := bs_ HB hb; clear hb hbox hg; obtain ⟨hcz13_0, hcz13_1, hcz13_2, hcz13_3, hfz13_0, hfz13_1, hfz13_2, hfz13_3⟩ := c4_ BK102) | ((with_reducible refine gate_callee (f := 90) rfl ?_); refine gl_ (some 6) Tryz.func90 #[.agg #[.bool a0_0, .int .u64 a0_1, .int .u64 a0_2, .int .i64 a0_3]] ?_; (with_reducible refine (prefix_Right.calls a0_0 a0_1 a0_2 a0_3 true _ A3.out).mono ?_); rintro e w14 ⟨rfl, hb⟩; refine ⟨_, rfl, ?_⟩; replace BK102 := bb_ BK102 hb; replace HB := bs_ HB hb; (try clear hb); (try clear hb2); (try clear hk); (try clear hi); obtain ⟨hcz15_0, hcz15_1, hcz15_2, hcz15_3, hfz15_0, hfz15_1, hfz15_2, hfz15_3⟩ := c4_ BK102))
   go_ret
   exact ⟨by first | rfl | (simp [errW_none, errW_some] <;> rfl) | (simp [*, errW_none, errW_some] <;> rfl), pb_ HB⟩
 ·
  replace c4 := Bool.eq_false_iff.mpr c4
  subst c4
  have H1 : (some false) = some r := by rw [if_neg (show ¬ (false = true) by decide)] at H; exact H
  clear H
  have H := H1
  clear H1
  obtain rfl := Option.some.inj H
  go_enter Tryz.func137, Tryz.ntmps137
  go_wp2_with (first | ((with_reducible refine gate_dst (N := 2) rfl ?_); refine bx_ 2 #[.bool a0_0, .int .u64 a0_1, .int .u64 a0_2, .int .i64 a0_3] 28 ?_; intro gb102 hg w16 hbox hb; have BK102 := Aside0.mk (hbox); have GW102 := gw_ HB hg; have GE102 := gw_ HB hg; replace HB := bs_ HB hb; clear hb hbox hg; obtain ⟨hcz17_0, hcz17_1, hcz17_2, hcz17_3, hfz17_0, hfz17_1, hfz17_2, hfz17_3⟩ := c4_ BK102) | ((with_reducible refine gate_callee (f := 90) rfl ?_); refine gl_ (some 6) Tryz.func90 #[.agg #[.bool a0_0, .int .u64 a0_1, .int .u64 a0_2, .int .i64 a0_3]] ?_; (with_reducible refine (prefix_Right.calls a0_0 a0_1 a0_2 a0_3 false _ A3.out).mono ?_); rintro e w18 ⟨rfl, hb⟩; refine ⟨_, rfl, ?_⟩; replace BK102 := bb_ BK102 hb; replace HB := bs_ HB hb; (try clear hb); (try clear hb2); (try clear hk); (try clear hi)))
  go_ret
  exact ⟨by first | rfl | (simp [errW_none, errW_some] <;> rfl) | (simp [*, errW_none, errW_some] <;> rfl), pb_ HB⟩

def num_Of.f (a0 : Int) : Option (Int × Int) := some (0, a0)
set_option maxHeartbeats 8000000 in
set_option maxRecDepth 100000 in
theorem num_Of.calls (a0 : Int) (r1 : Int) (r2 : Int) (w : World) (h : num_Of.f a0 = some (r1, r2)) :
  Calls Tryz.prog 126 #[.int .u64 a0] w fun e w' => e = .returned (.agg #[.int .u64 r1, .int .u64 r2]) ∧ Below w.heap.size w w' := by
 have hu24 := Tryz.underlying24
 have HB := Aside0.mk (Below.refl w.heap.size w)
 have H : (some (0, a0)) = some (r1, r2) := h
 clear h
 simp only [Option.some.injEq, Prod.mk.injEq] at H
 obtain ⟨rfl, rfl⟩ := H
 go_enter Tryz.func126, Tryz.ntmps126
 go_wp2_with (first | ((with_reducible refine gate_dst (N := 2) rfl ?_); refine bx_ 2 #[.int .u64 0, .int .u64 0] 24 ?_; intro gb105 hg w2 hbox hb; have BK105 := Aside0.mk (hbox); have GW105 := gw_ HB hg; have GE105 := gw_ HB hg; replace HB := bs_ HB hb; clear hb hbox hg; obtain ⟨hcz3_0, hcz3_1, hfz3_0, hfz3_1⟩ := c2_ BK105))
 refine bodyPost_ret (results_cell_row rfl _ _ gb105 24 #[.int .u64 0, .int .u64 a0] (0, 0) _ rfl (by refine pw_ ?_; refine blk_put (cs := #[.int .u64 0, .int .u64 0]) ?_ 1 _ rfl; refine pw_ ?_; refine blk_put (cs := #[.int .u64 0, .int .u64 0]) ?_ 0 _ rfl; refine pw_ ?_; exact BK105.out) Tryz.underlying24 rfl (by kernel_rfl)) rfl ?_
 exact ⟨by first | rfl | (simp [errW_none, errW_some] <;> rfl) | (simp [*, errW_none, errW_some] <;> rfl), pb_ HB⟩

def carve_power.f (a0 : Int) : Option (Int × Int × Bool) := if a0 ≥ 128 then (some (0, 0, false)) else ((num_Of.f 1).bind fun bt107 => ((num_Shl.f bt107.1 bt107.2 a0).bind fun bt109 => (some (bt109.1, bt109.2, true))))
set_option maxHeartbeats 8000000 in
set_option maxRecDepth 100000 in
theorem carve_power.calls (a0 : Int) (r1 : Int) (r2 : Int) (r3 : Bool) (w : World) (h : carve_power.f a0 = some (r1, r2, r3)) :
  Calls Tryz.prog 138 #[.int .i64 a0] w fun e w' => e = .returned (.tuple #[.agg #[.int .u64 r1, .int .u64 r2], .bool r3]) ∧ Below w.heap.size w w' := by
 have hu24 := Tryz.underlying24
 have HB := Aside0.mk (Below.refl w.heap.size w)
 have H : (if a0 ≥ 128 then (some (0, 0, false)) else ((num_Of.f 1).bind fun bt107 => ((num_Shl.f bt107.1 bt107.2 a0).bind fun bt109 => (some (bt109.1, bt109.2, true))))) = some (r1, r2, r3) := h
 clear h
 by_cases c2 : a0 ≥ 128
 ·
  rw [if_pos c2] at H
  have c2b0 : decide (128 ≤ a0) = true := decide_eq_true c2
  clear c2
  simp only [Option.some.injEq, Prod.mk.injEq] at H
  obtain ⟨rfl, rfl, rfl⟩ := H
  go_enter Tryz.func138, Tryz.ntmps138
  go_wp2_with (first | ((with_reducible refine gate_dst (N := 2) rfl ?_); refine bx_ 2 #[.int .u64 0, .int .u64 0] 24 ?_; intro gb106 hg w3 hbox hb; have BK106 := Aside0.mk (hbox); have GW106 := gw_ HB hg; have GE106 := gw_ HB hg; replace HB := bs_ HB hb; clear hb hbox hg; obtain ⟨hcz4_0, hcz4_1, hfz4_0, hfz4_1⟩ := c2_ BK106))
  refine bodyPost_ret (results_ct rfl _ _ gb106 24 #[.int .u64 0, .int .u64 0] (0, 0) _ rfl (by refine pw_ ?_; refine blk_put (cs := #[.int .u64 0, .int .u64 0]) ?_ 1 _ rfl; refine pw_ ?_; refine blk_put (cs := #[.int .u64 0, .int .u64 0]) ?_ 0 _ rfl; refine pw_ ?_; exact BK106.out) Tryz.underlying24 rfl (by kernel_rfl)) rfl ?_
  exact ⟨by first | rfl | (simp [errW_none, errW_some] <;> rfl) | (simp [*, errW_none, errW_some] <;> rfl), pb_ HB⟩
 ·
  rw [if_neg c2] at H
  have c2b0 : decide (128 ≤ a0) = false := decide_eq_false c2
  clear c2
  replace H := Option.bind_eq_some_iff.mp H
  obtain ⟨⟨t107, t108⟩, A50, H⟩ := H
  replace H : ((num_Shl.f t107 t108 a0).bind fun bt109 => (some (bt109.1, bt109.2, true))) = some (r1, r2, r3) := H
  have A5 := Aside0.mk A50
  clear A50
  replace H := Option.bind_eq_some_iff.mp H
  obtain ⟨⟨t109, t110⟩, A60, H⟩ := H
  replace H : (some (t109, t110, true)) = some (r1, r2, r3) := H
  have A6 := Aside0.mk A60
  clear A60
  simp only [Option.some.injEq, Prod.mk.injEq] at H
  obtain ⟨rfl, rfl, rfl⟩ := H
  go_enter Tryz.func138, Tryz.ntmps138
  go_wp2_with (first | ((with_reducible refine gate_dst (N := 2) rfl ?_); refine bx_ 2 #[.int .u64 0, .int .u64 0] 24 ?_; intro gb106 hg w7 hbox hb; have BK106 := Aside0.mk (hbox); have GW106 := gw_ HB hg; have GE106 := gw_ HB hg; replace HB := bs_ HB hb; clear hb hbox hg) | ((with_reducible refine gate_callee (f := 126) rfl ?_); refine gl_ (some 7) Tryz.func126 #[.int .u64 1] ?_; (with_reducible refine (num_Of.calls 1 t107 t108 _ A5.out).mono ?_); rintro e w8 ⟨rfl, hb⟩; refine ⟨_, rfl, ?_⟩; replace BK106 := bb_ BK106 hb; replace HB := bs_ HB hb; (try clear hb); (try clear hb2); (try clear hk); (try clear hi)) | ((with_reducible refine gate_callee (f := 167) rfl ?_); refine gl_ (some 9) Tryz.func167 #[.agg #[.int .u64 t107, .int .u64 t108], .int .i64 a0] ?_; (with_reducible refine (num_Shl.calls t107 t108 a0 t109 t110 _ A6.out).mono ?_); rintro e w9 ⟨rfl, hb⟩; refine ⟨_, rfl, ?_⟩; replace BK106 := bb_ BK106 hb; replace HB := bs_ HB hb; (try clear hb); (try clear hb2); (try clear hk); (try clear hi); obtain ⟨hcz10_0, hcz10_1, hfz10_0, hfz10_1⟩ := c2_ BK106))
  refine bodyPost_ret (results_ct rfl _ _ gb106 24 #[.int .u64 t109, .int .u64 t110] (0, 0) _ rfl (by refine pw_ ?_; refine blk_put (cs := #[.int .u64 t109, .int .u64 0]) ?_ 1 _ rfl; refine pw_ ?_; refine blk_put (cs := #[.int .u64 0, .int .u64 0]) ?_ 0 _ rfl; refine pw_ ?_; exact BK106.out) Tryz.underlying24 rfl (by kernel_rfl)) rfl ?_
  exact ⟨by first | rfl | (simp [errW_none, errW_some] <;> rfl) | (simp [*, errW_none, errW_some] <;> rfl), pb_ HB⟩

def carve_Blocks.f (a0_0 : Bool) (a0_1 : Int) (a0_2 : Int) (a0_3 : Int) (a1 : Int) : Option (Int × Int × Bool × Int) := (carve_cuts.f a0_0 a0_1 a0_2 a0_3 a1).bind fun t113 => (if t113 = true then ((carve_power.f (wrap64 (a1 - a0_3))).bind fun bt114 => (some (bt114.1, bt114.2.1, bt114.2.2, 0))) else (some (0, 0, false, 1)))
set_option maxHeartbeats 8000000 in
set_option maxRecDepth 100000 in
theorem carve_Blocks.calls (a0_0 : Bool) (a0_1 : Int) (a0_2 : Int) (a0_3 : Int) (a1 : Int) (r1 : Int) (r2 : Int) (r3 : Bool) (r4 : Int) (w : World) (h : carve_Blocks.f a0_0 a0_1 a0_2 a0_3 a1 = some (r1, r2, r3, r4)) :
  Calls Tryz.prog 95 #[.agg #[.bool a0_0, .int .u64 a0_1, .int .u64 a0_2, .int .i64 a0_3], .int .i64 a1] w fun e w' => e = .returned (.tuple #[.agg #[.int .u64 r1, .int .u64 r2], .bool r3, .int .i64 r4]) ∧ Below w.heap.size w w' := by
 have hu28 := Tryz.underlying28
 have hu24 := Tryz.underlying24
 have HB := Aside0.mk (Below.refl w.heap.size w)
 have H : ((carve_cuts.f a0_0 a0_1 a0_2 a0_3 a1).bind fun t113 => (if t113 = true then ((carve_power.f (wrap64 (a1 - a0_3))).bind fun bt114 => (some (bt114.1, bt114.2.1, bt114.2.2, 0))) else (some (0, 0, false, 1)))) = some (r1, r2, r3, r4) := h
 clear h
 replace H := Option.bind_eq_some_iff.mp H
 obtain ⟨t113, A30, H⟩ := H
 replace H : (if t113 = true then ((carve_power.f (wrap64 (a1 - a0_3))).bind fun bt114 => (some (bt114.1, bt114.2.1, bt114.2.2, 0))) else (some (0, 0, false, 1))) = some (r1, r2, r3, r4) := H
 have A3 := Aside0.mk A30
 clear A30
 by_cases c4 : t113 = true
 ·
  subst c4
  rw [if_pos rfl] at H
  replace H := Option.bind_eq_some_iff.mp H
  obtain ⟨⟨t114, t115, t116⟩, A50, H⟩ := H
  replace H : (some (t114, t115, t116, 0)) = some (r1, r2, r3, r4) := H
  have A5 := Aside0.mk A50
  clear A50
  simp only [Option.some.injEq, Prod.mk.injEq] at H
  obtain ⟨rfl, rfl, rfl, rfl⟩ := H
  go_enter Tryz.func95, Tryz.ntmps95
  go_wp2_with (first | ((with_reducible refine gate_dst (N := 2) rfl ?_); refine bx_ 2 #[.bool a0_0, .int .u64 a0_1, .int .u64 a0_2, .int .i64 a0_3] 28 ?_; intro gb111 hg w6 hbox hb; have BK111 := Aside0.mk (hbox); have GW111 := gw_ HB hg; have GE111 := gw_ HB hg; replace HB := bs_ HB hb; clear hb hbox hg) | ((with_reducible refine gate_dst (N := 4) rfl ?_); refine bx_ 4 #[.int .u64 0, .int .u64 0] 24 ?_; intro gb112 hg w7 hbox hb; have BK112 := Aside0.mk (hbox); have GW112 := gw_ HB hg; have GE112 := gw_ HB hg; have NB111_112 := nl_ BK111 hg; have NB112_111 := ng_ BK111 hg; replace BK111 := bb_ BK111 hb; replace HB := bs_ HB hb; clear hb hbox hg; have hnb8 := NB111_112.out; have hnc8 := NB112_111.out; obtain ⟨hcz9_0, hcz9_1, hcz9_2, hcz9_3, hfz9_0, hfz9_1, hfz9_2, hfz9_3⟩ := c4_ BK111) | ((with_reducible refine gate_callee (f := 137) rfl ?_); refine gl_ (some 11) Tryz.func137 #[.agg #[.bool a0_0, .int .u64 a0_1, .int .u64 a0_2, .int .i64 a0_3], .int .i64 a1] ?_; (with_reducible refine (carve_cuts.calls a0_0 a0_1 a0_2 a0_3 a1 true _ A3.out).mono ?_); rintro e w10 ⟨rfl, hb⟩; refine ⟨_, rfl, ?_⟩; replace BK111 := bb_ BK111 hb; replace BK112 := bb_ BK112 hb; replace HB := bs_ HB hb; (try clear hb); (try clear hb2); (try clear hk); (try clear hi); obtain ⟨hcz11_0, hcz11_1, hcz11_2, hcz11_3, hfz11_0, hfz11_1, hfz11_2, hfz11_3⟩ := c4_ BK111) | ((with_reducible refine gate_callee (f := 138) rfl ?_); refine gl_ (some 19) Tryz.func138 #[.int .i64 (wrap64 (a1 - a0_3))] ?_; (with_reducible refine (carve_power.calls (wrap64 (a1 - a0_3)) t114 t115 t116 _ A5.out).mono ?_); rintro e w12 ⟨rfl, hb⟩; refine ⟨_, rfl, ?_⟩; replace BK111 := bb_ BK111 hb; replace BK112 := bb_ BK112 hb; replace HB := bs_ HB hb; (try clear hb); (try clear hb2); (try clear hk); (try clear hi)) | ((with_reducible refine gate_dst (N := 7) rfl ?_); refine bx_ 7 #[.int .u64 0, .int .u64 0] 24 ?_; intro gb117 hg w13 hbox hb; have BK117 := Aside0.mk (hbox); have GW117 := gw_ HB hg; have GE117 := gw_ HB hg; have NB111_117 := nl_ BK111 hg; have NB117_111 := ng_ BK111 hg; have NB112_117 := nl_ BK112 hg; have NB117_112 := ng_ BK112 hg; replace BK111 := bb_ BK111 hb; replace BK112 := bb_ BK112 hb; replace HB := bs_ HB hb; clear hb hbox hg; have hnb14 := NB117_111.out; have hnc14 := NB111_117.out; have hnb15 := NB117_112.out; have hnc15 := NB112_117.out; obtain ⟨hcz16_0, hcz16_1, hfz16_0, hfz16_1⟩ := c2_ BK117; obtain ⟨hcz17_0, hcz17_1, hfz17_0, hfz17_1⟩ := c2_ BK112))
  refine bodyPost_ret (results_ctt rfl _ _ gb112 24 #[.int .u64 t114, .int .u64 t115] (0, 0) _ rfl (by refine pw_ ?_; refine blk_put (cs := #[.int .u64 t114, .int .u64 0]) ?_ 1 _ rfl; refine pw_ ?_; refine blk_put (cs := #[.int .u64 0, .int .u64 0]) ?_ 0 _ rfl; refine pw_ ?_; refine blk_far ?_ NB112_117.out _; refine pw_ ?_; refine blk_far ?_ NB112_117.out _; refine pw_ ?_; exact BK112.out) Tryz.underlying24 rfl (by kernel_rfl)) rfl ?_
  exact ⟨by first | rfl | (simp [errW_none, errW_some] <;> rfl) | (simp [*, errW_none, errW_some] <;> rfl), pb_ HB⟩
 ·
  replace c4 := Bool.eq_false_iff.mpr c4
  subst c4
  have H1 : (some (0, 0, false, 1)) = some (r1, r2, r3, r4) := by rw [if_neg (show ¬ (false = true) by decide)] at H; exact H
  clear H
  have H := H1
  clear H1
  simp only [Option.some.injEq, Prod.mk.injEq] at H
  obtain ⟨rfl, rfl, rfl, rfl⟩ := H
  go_enter Tryz.func95, Tryz.ntmps95
  go_wp2_with (first | ((with_reducible refine gate_dst (N := 2) rfl ?_); refine bx_ 2 #[.bool a0_0, .int .u64 a0_1, .int .u64 a0_2, .int .i64 a0_3] 28 ?_; intro gb111 hg w18 hbox hb; have BK111 := Aside0.mk (hbox); have GW111 := gw_ HB hg; have GE111 := gw_ HB hg; replace HB := bs_ HB hb; clear hb hbox hg) | ((with_reducible refine gate_dst (N := 4) rfl ?_); refine bx_ 4 #[.int .u64 0, .int .u64 0] 24 ?_; intro gb112 hg w19 hbox hb; have BK112 := Aside0.mk (hbox); have GW112 := gw_ HB hg; have GE112 := gw_ HB hg; have NB111_112 := nl_ BK111 hg; have NB112_111 := ng_ BK111 hg; replace BK111 := bb_ BK111 hb; replace HB := bs_ HB hb; clear hb hbox hg; have hnb20 := NB111_112.out; have hnc20 := NB112_111.out; obtain ⟨hcz21_0, hcz21_1, hcz21_2, hcz21_3, hfz21_0, hfz21_1, hfz21_2, hfz21_3⟩ := c4_ BK111) | ((with_reducible refine gate_callee (f := 137) rfl ?_); refine gl_ (some 11) Tryz.func137 #[.agg #[.bool a0_0, .int .u64 a0_1, .int .u64 a0_2, .int .i64 a0_3], .int .i64 a1] ?_; (with_reducible refine (carve_cuts.calls a0_0 a0_1 a0_2 a0_3 a1 false _ A3.out).mono ?_); rintro e w22 ⟨rfl, hb⟩; refine ⟨_, rfl, ?_⟩; replace BK111 := bb_ BK111 hb; replace BK112 := bb_ BK112 hb; replace HB := bs_ HB hb; (try clear hb); (try clear hb2); (try clear hk); (try clear hi); obtain ⟨hcz23_0, hcz23_1, hfz23_0, hfz23_1⟩ := c2_ BK112))
  refine bodyPost_ret (results_ctt rfl _ _ gb112 24 #[.int .u64 0, .int .u64 0] (0, 0) _ rfl (by refine pw_ ?_; refine blk_put (cs := #[.int .u64 0, .int .u64 0]) ?_ 1 _ rfl; refine pw_ ?_; refine blk_put (cs := #[.int .u64 0, .int .u64 0]) ?_ 0 _ rfl; refine pw_ ?_; exact BK112.out) Tryz.underlying24 rfl (by kernel_rfl)) rfl ?_
  exact ⟨by first | rfl | (simp [errW_none, errW_some] <;> rfl) | (simp [*, errW_none, errW_some] <;> rfl), pb_ HB⟩

def prefix_Last.f (a0_0 : Bool) (a0_1 : Int) (a0_2 : Int) (a0_3 : Int) : Option (Bool × Int × Int) := (prefix_Right.f a0_0 a0_1 a0_2 a0_3).bind fun t135 => (if t135 = true then ((prefix_free.f a0_0 a0_1 a0_2 a0_3).bind fun bt136 => ((num_Or.f a0_1 a0_2 bt136.1 bt136.2).bind fun bt138 => (some (a0_0, bt138.1, bt138.2)))) else (some (false, 0, 0)))
def prefix_Last.T3 : Bool × List (List Nat × List Nat) := (true, [([], []), ([0], [0]), ([1], [1]), ([], []), ([3], [3]), ([4], [4]), ([], []), ([6], [6]), ([5, 7, 7], [5, 7]), ([2, 8], [2, 8]), ([9, 8, 0, 1, 2, 3, 4, 5, 6, 7, 8, 9], [9])])
def prefix_Last.B3 : List Nat := [0, 1, 3, 0, 8, 24, 0, 64, 248, 511, 1023]
theorem prefix_Last.tab3 : rtab .any (opsOf Tryz.f34 3) = prefix_Last.T3 := by kernel_rfl
theorem prefix_Last.bits3 : waitsOk prefix_Last.T3.2 prefix_Last.B3 = true := by kernel_rfl
set_option maxHeartbeats 8000000 in
set_option maxRecDepth 100000 in
theorem prefix_Last.calls (a0_0 : Bool) (a0_1 : Int) (a0_2 : Int) (a0_3 : Int) (r1 : Bool) (r2 : Int) (r3 : Int) (w : World) (h : prefix_Last.f a0_0 a0_1 a0_2 a0_3 = some (r1, r2, r3)) :
  Calls Tryz.prog 34 #[.agg #[.bool a0_0, .int .u64 a0_1, .int .u64 a0_2, .int .i64 a0_3]] w fun e w' => e = .returned (.agg #[.bool r1, .int .u64 r2, .int .u64 r3]) ∧ Below w.heap.size w w' := by
 have hu28 := Tryz.underlying28
 have hu26 := Tryz.underlying26
 have hu24 := Tryz.underlying24
 have HB := Aside0.mk (Below.refl w.heap.size w)
 have H : ((prefix_Right.f a0_0 a0_1 a0_2 a0_3).bind fun t135 => (if t135 = true then ((prefix_free.f a0_0 a0_1 a0_2 a0_3).bind fun bt136 => ((num_Or.f a0_1 a0_2 bt136.1 bt136.2).bind fun bt138 => (some (a0_0, bt138.1, bt138.2)))) else (some (false, 0, 0)))) = some (r1, r2, r3) := h
 clear h
 replace H := Option.bind_eq_some_iff.mp H
 obtain ⟨t135, A20, H⟩ := H
 replace H : (if t135 = true then ((prefix_free.f a0_0 a0_1 a0_2 a0_3).bind fun bt136 => ((num_Or.f a0_1 a0_2 bt136.1 bt136.2).bind fun bt138 => (some (a0_0, bt138.1, bt138.2)))) else (some (false, 0, 0))) = some (r1, r2, r3) := H
 have A2 := Aside0.mk A20
 clear A20
 by_cases c3 : t135 = true
 ·
  subst c3
  rw [if_pos rfl] at H
  replace H := Option.bind_eq_some_iff.mp H
  obtain ⟨⟨t136, t137⟩, A40, H⟩ := H
  replace H : ((num_Or.f a0_1 a0_2 t136 t137).bind fun bt138 => (some (a0_0, bt138.1, bt138.2))) = some (r1, r2, r3) := H
  have A4 := Aside0.mk A40
  clear A40
  replace H := Option.bind_eq_some_iff.mp H
  obtain ⟨⟨t138, t139⟩, A50, H⟩ := H
  replace H : (some (a0_0, t138, t139)) = some (r1, r2, r3) := H
  have A5 := Aside0.mk A50
  clear A50
  simp only [Option.some.injEq, Prod.mk.injEq] at H
  obtain ⟨rfl, rfl, rfl⟩ := H
  go_enter Tryz.func34, Tryz.ntmps34
  try go_wp2_with (first | ((with_reducible refine gate_dst (N := 1) rfl ?_); refine bx_ 1 #[.bool a0_0, .int .u64 a0_1, .int .u64 a0_2, .int .i64 a0_3] 28 ?_; intro gb133 hg w6 hbox hb; have BK133 := Aside0.mk (hbox); have GW133 := gw_ HB hg; have GE133 := gw_ HB hg; replace HB := bs_ HB hb; clear hb hbox hg) | ((with_reducible refine gate_dst (N := 2) rfl ?_); refine bx_ 2 #[.bool false, .int .u64 0, .int .u64 0] 26 ?_; intro gb134 hg w7 hbox hb; have BK134 := Aside0.mk (hbox); have GW134 := gw_ HB hg; have GE134 := gw_ HB hg; have NB133_134 := nl_ BK133 hg; have NB134_133 := ng_ BK133 hg; replace BK133 := bb_ BK133 hb; replace HB := bs_ HB hb; clear hb hbox hg; have hnb8 := NB133_134.out; have hnc8 := NB134_133.out; obtain ⟨hcz9_0, hcz9_1, hcz9_2, hcz9_3, hfz9_0, hfz9_1, hfz9_2, hfz9_3⟩ := c4_ BK133) | ((with_reducible refine gate_callee (f := 90) rfl ?_); refine gl_ (some 4) Tryz.func90 #[.agg #[.bool a0_0, .int .u64 a0_1, .int .u64 a0_2, .int .i64 a0_3]] ?_; (with_reducible refine (prefix_Right.calls a0_0 a0_1 a0_2 a0_3 true _ A2.out).mono ?_); rintro e w10 ⟨rfl, hb⟩; refine ⟨_, rfl, ?_⟩; replace BK133 := bb_ BK133 hb; replace BK134 := bb_ BK134 hb; replace HB := bs_ HB hb; (try clear hb); (try clear hb2); (try clear hk); (try clear hi)))
  replace BK133 := Aside0.mk (blk_drew BK133.out)
  replace BK134 := Aside0.mk (blk_drew BK134.out)
  replace HB := Aside0.mk (below_drew1 HB.out)
  refine start_ (n := 11) (S := fun w' => w'.cell? ⟨gb133, 0, none⟩ = some (.bool a0_0) ∧ w'.cell? ⟨gb133, 1, none⟩ = some (.int .u64 a0_1) ∧ w'.cell? ⟨gb133, 2, none⟩ = some (.int .u64 a0_2) ∧ w'.cell? ⟨gb133, 3, none⟩ = some (.int .i64 a0_3)) (ds := []) (bm_ 11 0) (by kernel_rfl) rfl rfl ⟨kc_ BK133 0, kc_ BK133 1, kc_ BK133 2, kc_ BK133 3⟩ (fun hHeld => ?_); refine with_tabW prefix_Last.tab3 prefix_Last.bits3 (fun HT_ HW_ => ?_)
  generalize w10.drew = w11 at BK133 BK134 HB hHeld ⊢
  refine pu_ 0 (some 7) (bm_ 11 1) rfl HT_ ⟨by rfl, by intro w'; go_simp; with_reducible rfl⟩ ?_
  refine pu_ 1 (some 8) (bm_ 11 3) rfl HT_ ⟨by rfl, by intro w'; go_simp; with_reducible rfl⟩ ?_
  refine pu_ 3 (some 10) (bm_ 11 11) rfl HT_ ⟨by rfl, by intro w'; go_simp; with_reducible rfl⟩ ?_
  refine pu_ 4 (some 11) (bm_ 11 27) rfl HT_ ⟨by rfl, by intro w'; go_simp; with_reducible rfl⟩ ?_
  refine ta_ 2 (some 9) (bm_ 11 31) rfl HT_ HW_ ⟨by rfl, by rintro w' ⟨s0, s1, s2, s3⟩; go_simp; with_reducible rfl⟩ hHeld ?_
  refine ta_ 5 (some 12) (bm_ 11 63) rfl HT_ HW_ ⟨by rfl, by rintro w' ⟨s0, s1, s2, s3⟩; go_simp; with_reducible rfl⟩ hHeld ?_
  refine ta_ 6 (some 13) (bm_ 11 127) rfl HT_ HW_ ⟨by rfl, by rintro w' ⟨s0, s1, s2, s3⟩; go_simp; with_reducible rfl⟩ hHeld ?_
  refine one_ (i := 7) (N := some 14) (bm_ 11 255) rfl rfl (one_of HT_.out (by kernel_rfl)) (by decide) (fun K hK => ?_)
  refine gr_ Tryz.func94 #[.agg #[.bool a0_0, .int .u64 a0_1, .int .u64 a0_2, .int .i64 a0_3]] ?_
  with_reducible refine (prefix_free.calls a0_0 a0_1 a0_2 a0_3 t136 t137 _ A4.out).mono ?_
  rintro e w12 ⟨rfl, hb⟩
  refine ⟨_, rfl, ?_⟩
  replace BK133 := bb_ BK133 hb
  replace BK134 := bb_ BK134 hb
  replace HB := bs_ HB hb
  (try clear hb)
  (try clear hb2)
  (try clear hk)
  (try clear hi)
  refine hK.out _ _ ⟨kc_ BK133 0, kc_ BK133 1, kc_ BK133 2, kc_ BK133 3⟩ (fun hHeld => ?_)
  clear hK K
  refine norm_ (a' := ?_) ?_ ?_
  rotate_left
  ·
   show Act.put _ (some 14) _ = _
   simp only [Act.put, List.setIfInBounds_toArray, List.set_cons_zero, List.set_cons_succ, i64_w, i32_w]
   rfl
  refine one_ (i := 8) (N := some 15) (bm_ 11 511) rfl rfl (one_of HT_.out (by kernel_rfl)) (by decide) (fun K hK => ?_)
  refine gr_ Tryz.func93 #[.agg #[.int .u64 a0_1, .int .u64 a0_2], .agg #[.int .u64 t136, .int .u64 t137]] ?_
  with_reducible refine (num_Or.calls a0_1 a0_2 t136 t137 t138 t139 _ A5.out).mono ?_
  rintro e w13 ⟨rfl, hb⟩
  refine ⟨_, rfl, ?_⟩
  replace BK133 := bb_ BK133 hb
  replace BK134 := bb_ BK134 hb
  replace HB := bs_ HB hb
  (try clear hb)
  (try clear hb2)
  (try clear hk)
  (try clear hi)
  refine hK.out _ _ ⟨kc_ BK133 0, kc_ BK133 1, kc_ BK133 2, kc_ BK133 3⟩ (fun hHeld => ?_)
  clear hK K
  refine norm_ (a' := ?_) ?_ ?_
  rotate_left
  ·
   show Act.put _ (some 15) _ = _
   simp only [Act.put, List.setIfInBounds_toArray, List.set_cons_zero, List.set_cons_succ, i64_w, i32_w]
   rfl
  refine pu_ 9 (some 16) (bm_ 11 1023) rfl HT_ ⟨by rfl, by intro w'; go_simp; with_reducible rfl⟩ ?_
  refine one_ (i := 10) (N := none) (bm_ 11 2047) rfl rfl (one_of HT_.out (by kernel_rfl)) (by decide) (fun K hK => ?_)
  have hs14 : w13.cell? ⟨gb134, 0, none⟩ = some (.bool false) := kc_ BK134 0
  have hfs14 := blk_frozen BK134.out 0
  have hns14_0 := NB133_134.out
  have hms14_0 := NB134_133.out
  have hs15 : w13.cell? ⟨gb134, 1, none⟩ = some (.int .u64 0) := kc_ BK134 1
  have hfs15 := blk_frozen BK134.out 1
  have hns15_0 := NB133_134.out
  have hms15_0 := NB134_133.out
  have hs16 : w13.cell? ⟨gb134, 2, none⟩ = some (.int .u64 0) := kc_ BK134 2
  have hfs16 := blk_frozen BK134.out 2
  have hns16_0 := NB133_134.out
  have hms16_0 := NB134_133.out
  refine skip_ (w1 := ?_) (by rfl) rfl ?_ ?_
  rotate_left
  ·
   go_simp
   rfl
  refine hK.out _ _ ⟨((cell_far (p := ⟨gb134, _, none⟩) NB133_134.out _).trans (((cell_far (p := ⟨gb134, _, none⟩) NB133_134.out _).trans (((cell_far (p := ⟨gb134, _, none⟩) NB133_134.out _).trans (hHeld.1)))))), ((cell_far (p := ⟨gb134, _, none⟩) NB133_134.out _).trans (((cell_far (p := ⟨gb134, _, none⟩) NB133_134.out _).trans (((cell_far (p := ⟨gb134, _, none⟩) NB133_134.out _).trans (hHeld.2.1)))))), ((cell_far (p := ⟨gb134, _, none⟩) NB133_134.out _).trans (((cell_far (p := ⟨gb134, _, none⟩) NB133_134.out _).trans (((cell_far (p := ⟨gb134, _, none⟩) NB133_134.out _).trans (hHeld.2.2.1)))))), ((cell_far (p := ⟨gb134, _, none⟩) NB133_134.out _).trans (((cell_far (p := ⟨gb134, _, none⟩) NB133_134.out _).trans (((cell_far (p := ⟨gb134, _, none⟩) NB133_134.out _).trans (hHeld.2.2.2))))))⟩ (fun hHeld => ?_)
  clear hK K
  refine done_ (done_of HT_.out (by kernel_rfl)) ?_
  try go_wp2
  refine bodyPost_ret (results_cell_row rfl _ _ gb134 26 #[.bool a0_0, .int .u64 t138, .int .u64 t139] (0, 0) _ rfl (by refine pw_ ?_; refine blk_put (cs := #[.bool a0_0, .int .u64 t138, .int .u64 0]) ?_ 2 _ rfl; refine pw_ ?_; refine blk_put (cs := #[.bool a0_0, .int .u64 0, .int .u64 0]) ?_ 1 _ rfl; refine pw_ ?_; refine blk_put (cs := #[.bool false, .int .u64 0, .int .u64 0]) ?_ 0 _ rfl; refine pw_ ?_; exact BK134.out) Tryz.underlying26 rfl (by kernel_rfl)) rfl ?_
  exact ⟨by first | rfl | (simp [errW_none, errW_some] <;> rfl) | (simp [*, errW_none, errW_some] <;> rfl), pb_ HB⟩
 ·
  replace c3 := Bool.eq_false_iff.mpr c3
  subst c3
  have H1 : (some (false, 0, 0)) = some (r1, r2, r3) := by rw [if_neg (show ¬ (false = true) by decide)] at H; exact H
  clear H
  have H := H1
  clear H1
  simp only [Option.some.injEq, Prod.mk.injEq] at H
  obtain ⟨rfl, rfl, rfl⟩ := H
  go_enter Tryz.func34, Tryz.ntmps34
  go_wp2_with (first | ((with_reducible refine gate_dst (N := 1) rfl ?_); refine bx_ 1 #[.bool a0_0, .int .u64 a0_1, .int .u64 a0_2, .int .i64 a0_3] 28 ?_; intro gb133 hg w17 hbox hb; have BK133 := Aside0.mk (hbox); have GW133 := gw_ HB hg; have GE133 := gw_ HB hg; replace HB := bs_ HB hb; clear hb hbox hg) | ((with_reducible refine gate_dst (N := 2) rfl ?_); refine bx_ 2 #[.bool false, .int .u64 0, .int .u64 0] 26 ?_; intro gb134 hg w18 hbox hb; have BK134 := Aside0.mk (hbox); have GW134 := gw_ HB hg; have GE134 := gw_ HB hg; have NB133_134 := nl_ BK133 hg; have NB134_133 := ng_ BK133 hg; replace BK133 := bb_ BK133 hb; replace HB := bs_ HB hb; clear hb hbox hg; have hnb19 := NB133_134.out; have hnc19 := NB134_133.out; obtain ⟨hcz20_0, hcz20_1, hcz20_2, hcz20_3, hfz20_0, hfz20_1, hfz20_2, hfz20_3⟩ := c4_ BK133) | ((with_reducible refine gate_callee (f := 90) rfl ?_); refine gl_ (some 4) Tryz.func90 #[.agg #[.bool a0_0, .int .u64 a0_1, .int .u64 a0_2, .int .i64 a0_3]] ?_; (with_reducible refine (prefix_Right.calls a0_0 a0_1 a0_2 a0_3 false _ A2.out).mono ?_); rintro e w21 ⟨rfl, hb⟩; refine ⟨_, rfl, ?_⟩; replace BK133 := bb_ BK133 hb; replace BK134 := bb_ BK134 hb; replace HB := bs_ HB hb; (try clear hb); (try clear hb2); (try clear hk); (try clear hi); obtain ⟨hcz22_0, hcz22_1, hcz22_2, hfz22_0, hfz22_1, hfz22_2⟩ := c3_ BK134))
  refine bodyPost_ret (results_cell_row rfl _ _ gb134 26 #[.bool false, .int .u64 0, .int .u64 0] (0, 0) _ rfl (by refine pw_ ?_; refine blk_put (cs := #[.bool false, .int .u64 0, .int .u64 0]) ?_ 2 _ rfl; refine pw_ ?_; refine blk_put (cs := #[.bool false, .int .u64 0, .int .u64 0]) ?_ 1 _ rfl; refine pw_ ?_; refine blk_put (cs := #[.bool false, .int .u64 0, .int .u64 0]) ?_ 0 _ rfl; refine pw_ ?_; exact BK134.out) Tryz.underlying26 rfl (by kernel_rfl)) rfl ?_
  exact ⟨by first | rfl | (simp [errW_none, errW_some] <;> rfl) | (simp [*, errW_none, errW_some] <;> rfl), pb_ HB⟩

def prefix_Of.j0 : Nat → Int → Bool → Bool → Int → Int → Option (Bool × Int × Int × Int × Int)
 | 0, _, _, _, _, _ => none
 | k + 1, x1, x19, x141000, x141001, x141002 => if x19 = true then (some (false, 0, 0, 0, 1)) else ((prefix_free.f x141000 x141001 x141002 x1).bind fun bt145 => ((num_Not.f bt145.1 bt145.2).bind fun bt147 => ((num_And.f x141001 x141002 bt147.1 bt147.2).bind fun bt149 => (some (x141000, bt149.1, bt149.2, x1, 0)))))
def prefix_Of.f (k : Nat) (a0_0 : Bool) (a0_1 : Int) (a0_2 : Int) (a1 : Int) : Option (Bool × Int × Int × Int × Int) := (addr_Right.f a0_0 a0_1 a0_2).bind fun t142 => (if t142 = true then (if a1 < 0 then (prefix_Of.j0 k a1 true a0_0 a0_1 a0_2) else ((addr_Width.f a0_0 a0_1 a0_2).bind fun t143 => (prefix_Of.j0 k a1 (decide (a1 > t143)) a0_0 a0_1 a0_2))) else (prefix_Of.j0 k a1 true a0_0 a0_1 a0_2))
def prefix_Of.T4 : Bool × List (List Nat × List Nat) := (true, [([], []), ([0], [0]), ([], []), ([2], [2]), ([3, 3], [3]), ([1, 4, 4], [1, 4]), ([0, 1, 2, 3, 4, 5], []), ([6, 0, 1, 2, 3, 4, 5], [6]), ([7, 5, 5, 0, 1, 2, 3, 4, 5], [5, 7])])
def prefix_Of.B4 : List Nat := [0, 1, 0, 4, 12, 31, 63, 127, 255]
theorem prefix_Of.tab4 : rtab .any (opsOf Tryz.f92 4) = prefix_Of.T4 := by kernel_rfl
theorem prefix_Of.bits4 : waitsOk prefix_Of.T4.2 prefix_Of.B4 = true := by kernel_rfl
set_option maxHeartbeats 8000000 in
set_option maxRecDepth 100000 in
theorem prefix_Of.calls (k : Nat) (a0_0 : Bool) (a0_1 : Int) (a0_2 : Int) (a1 : Int) (r1 : Bool) (r2 : Int) (r3 : Int) (r4 : Int) (r5 : Int) (w : World) (h : prefix_Of.f k a0_0 a0_1 a0_2 a1 = some (r1, r2, r3, r4, r5)) :
  Calls Tryz.prog 92 #[.agg #[.bool a0_0, .int .u64 a0_1, .int .u64 a0_2], .int .i64 a1] w fun e w' => e = .returned (.tuple #[.agg #[.bool r1, .int .u64 r2, .int .u64 r3, .int .i64 r4], .int .i64 r5]) ∧ Below w.heap.size w w' := by
 have hu26 := Tryz.underlying26
 have hu28 := Tryz.underlying28
 have hu24 := Tryz.underlying24
 have HB := Aside0.mk (Below.refl w.heap.size w)
 have H : ((addr_Right.f a0_0 a0_1 a0_2).bind fun t142 => (if t142 = true then (if a1 < 0 then (prefix_Of.j0 k a1 true a0_0 a0_1 a0_2) else ((addr_Width.f a0_0 a0_1 a0_2).bind fun t143 => (prefix_Of.j0 k a1 (decide (a1 > t143)) a0_0 a0_1 a0_2))) else (prefix_Of.j0 k a1 true a0_0 a0_1 a0_2))) = some (r1, r2, r3, r4, r5) := h
 clear h
 have HC3 := Aside0.mk H
 clear H
 go_enter Tryz.func92, Tryz.ntmps92
 go_upto_region 1 with (first | ((with_reducible refine gate_dst (N := 2) rfl ?_); refine bx_ 2 #[.bool a0_0, .int .u64 a0_1, .int .u64 a0_2] 26 ?_; intro gb140 hg w4 hbox hb; have BK140 := Aside0.mk (hbox); have GW140 := gw_ HB hg; have GE140 := gw_ HB hg; replace HB := bs_ HB hb; clear hb hbox hg) | ((with_reducible refine gate_dst (N := 4) rfl ?_); refine bx_ 4 #[.bool false, .int .u64 0, .int .u64 0, .int .i64 0] 28 ?_; intro gb141 hg w5 hbox hb; have BK141 := Aside0.mk (hbox); have GW141 := gw_ HB hg; have GE141 := gw_ HB hg; have NB140_141 := nl_ BK140 hg; have NB141_140 := ng_ BK140 hg; replace BK140 := bb_ BK140 hb; replace HB := bs_ HB hb; clear hb hbox hg))
 (try simp only [Act.put, List.setIfInBounds_toArray, List.set_cons_zero, List.set_cons_succ])
 go_cut [19] (fun v19 wc => ∃ (kq : Nat) (x19_2 : Bool), v19 = .bool x19_2 ∧ Aside0 (prefix_Of.j0 kq a1 x19_2 a0_0 a0_1 a0_2 = some (r1, r2, r3, r4, r5)) ∧ Aside0 (kq ≤ k) ∧ Aside0 (wc.heap[gb140]? = some (.cells #[.bool a0_0, .int .u64 a0_1, .int .u64 a0_2] 26 (0, 0))) ∧ Aside0 (wc.heap[gb141]? = some (.cells #[.bool false, .int .u64 0, .int .u64 0, .int .i64 0] 28 (0, 0))) ∧ Aside0 (Below w.heap.size w wc))
 case first =>
  have H := HC3.out
  clear HC3
  replace H := Option.bind_eq_some_iff.mp H
  obtain ⟨t142, A60, H⟩ := H
  replace H : (if t142 = true then (if a1 < 0 then (prefix_Of.j0 k a1 true a0_0 a0_1 a0_2) else ((addr_Width.f a0_0 a0_1 a0_2).bind fun t143 => (prefix_Of.j0 k a1 (decide (a1 > t143)) a0_0 a0_1 a0_2))) else (prefix_Of.j0 k a1 true a0_0 a0_1 a0_2)) = some (r1, r2, r3, r4, r5) := H
  have A6 := Aside0.mk A60
  clear A60
  by_cases c7 : t142 = true
  ·
   subst c7
   rw [if_pos rfl] at H
   by_cases c8 : a1 < 0
   ·
    rw [if_pos c8] at H
    have c8b0 : decide (a1 < 0) = true := decide_eq_true c8
    clear c8
    (first | rw [c8b0] | (simp only [i64_w, i32_w]; rw [c8b0]) | skip)
    have H' := Aside0.mk H
    clear H
    have hnb9 := NB140_141.out
    have hnc9 := NB141_140.out
    obtain ⟨hcz10_0, hcz10_1, hcz10_2, hfz10_0, hfz10_1, hfz10_2⟩ := c3_ BK140
    go_wp2_with (first | ((with_reducible refine gate_callee (f := 91) rfl ?_); refine gl_ (some 8) Tryz.func91 #[.agg #[.bool a0_0, .int .u64 a0_1, .int .u64 a0_2]] ?_; (with_reducible refine (addr_Right.calls a0_0 a0_1 a0_2 true _ A6.out).mono ?_); rintro e w11 ⟨rfl, hb⟩; refine ⟨_, rfl, ?_⟩; replace BK140 := bb_ BK140 hb; replace BK141 := bb_ BK141 hb; replace HB := bs_ HB hb; (try clear hb); (try clear hb2); (try clear hk); (try clear hi)))
    go_meet
    case rel => exact ⟨_, (true), (by first | rfl | (simp; done) | (simp [*]; done)), H', ⟨by first | omega | exact Nat.le_refl _⟩, ⟨by refine pw_ ?_; exact BK140.out⟩, ⟨by refine pw_ ?_; exact BK141.out⟩, ⟨pb_ HB⟩⟩
   ·
    rw [if_neg c8] at H
    have c8b0 : decide (a1 < 0) = false := decide_eq_false c8
    clear c8
    (first | rw [c8b0] | (simp only [i64_w, i32_w]; rw [c8b0]) | skip)
    replace H := Option.bind_eq_some_iff.mp H
    obtain ⟨t143, A120, H⟩ := H
    replace H : (prefix_Of.j0 k a1 (decide (a1 > t143)) a0_0 a0_1 a0_2) = some (r1, r2, r3, r4, r5) := H
    have A12 := Aside0.mk A120
    clear A120
    have H' := Aside0.mk H
    clear H
    have hnb13 := NB140_141.out
    have hnc13 := NB141_140.out
    obtain ⟨hcz14_0, hcz14_1, hcz14_2, hfz14_0, hfz14_1, hfz14_2⟩ := c3_ BK140
    go_wp2_with (first | ((with_reducible refine gate_callee (f := 91) rfl ?_); refine gl_ (some 8) Tryz.func91 #[.agg #[.bool a0_0, .int .u64 a0_1, .int .u64 a0_2]] ?_; (with_reducible refine (addr_Right.calls a0_0 a0_1 a0_2 true _ A6.out).mono ?_); rintro e w15 ⟨rfl, hb⟩; refine ⟨_, rfl, ?_⟩; replace BK140 := bb_ BK140 hb; replace BK141 := bb_ BK141 hb; replace HB := bs_ HB hb; (try clear hb); (try clear hb2); (try clear hk); (try clear hi); obtain ⟨hcz16_0, hcz16_1, hcz16_2, hfz16_0, hfz16_1, hfz16_2⟩ := c3_ BK140) | (go_at_call 132; (with_reducible refine (addr_Width.calls a0_0 a0_1 a0_2 t143 _ A12.out).mono ?_); rintro e w17 ⟨rfl, hb⟩; replace BK140 := bb_ BK140 hb; replace BK141 := bb_ BK141 hb; replace HB := bs_ HB hb; (try clear hb); (try clear hb2); (try clear hk); (try clear hi)))
    go_meet
    case rel => exact ⟨_, (decide (a1 > t143)), (by first | rfl | (simp; done) | (simp [*]; done)), H', ⟨by first | omega | exact Nat.le_refl _⟩, ⟨by refine pw_ ?_; exact BK140.out⟩, ⟨by refine pw_ ?_; exact BK141.out⟩, ⟨pb_ HB⟩⟩
  ·
   replace c7 := Bool.eq_false_iff.mpr c7
   subst c7
   have H1 : (prefix_Of.j0 k a1 true a0_0 a0_1 a0_2) = some (r1, r2, r3, r4, r5) := by rw [if_neg (show ¬ (false = true) by decide)] at H; exact H
   clear H
   have H := H1
   clear H1
   have H' := Aside0.mk H
   clear H
   have hnb18 := NB140_141.out
   have hnc18 := NB141_140.out
   obtain ⟨hcz19_0, hcz19_1, hcz19_2, hfz19_0, hfz19_1, hfz19_2⟩ := c3_ BK140
   go_wp2_with (first | ((with_reducible refine gate_callee (f := 91) rfl ?_); refine gl_ (some 8) Tryz.func91 #[.agg #[.bool a0_0, .int .u64 a0_1, .int .u64 a0_2]] ?_; (with_reducible refine (addr_Right.calls a0_0 a0_1 a0_2 false _ A6.out).mono ?_); rintro e w20 ⟨rfl, hb⟩; refine ⟨_, rfl, ?_⟩; replace BK140 := bb_ BK140 hb; replace BK141 := bb_ BK141 hb; replace HB := bs_ HB hb; (try clear hb); (try clear hb2); (try clear hk); (try clear hi)))
   go_meet
   case rel => exact ⟨_, (true), (by first | rfl | (simp; done) | (simp [*]; done)), H', ⟨by first | omega | exact Nat.le_refl _⟩, ⟨by refine pw_ ?_; exact BK140.out⟩, ⟨by refine pw_ ?_; exact BK141.out⟩, ⟨pb_ HB⟩⟩
 case rest =>
  clear HC3
  try clear c1
  try clear p2
  try clear c7
  try clear c8
  try clear c8b0
  try clear c9
  try clear c13
  try clear c18
  try clear hcz10_0
  try clear hcz10_1
  try clear hcz10_2
  try clear hcz14_0
  try clear hcz14_1
  try clear hcz14_2
  try clear hcz16_0
  try clear hcz16_1
  try clear hcz16_2
  try clear hcz19_0
  try clear hcz19_1
  try clear hcz19_2
  try clear hfz10_0
  try clear hfz10_1
  try clear hfz10_2
  try clear hfz14_0
  try clear hfz14_1
  try clear hfz14_2
  try clear hfz16_0
  try clear hfz16_1
  try clear hfz16_2
  try clear hfz19_0
  try clear hfz19_1
  try clear hfz19_2
  obtain ⟨kq, x19_2, rfl, HA, HJ2, BK140, BK141, HB⟩ := hcut
  cases kq with
  | zero => exact absurd HA.out (by simp [prefix_Of.j0])
  | succ kj2 =>
   have H := HA.out
   clear HA
   simp only [prefix_Of.j0] at H
   by_cases c21 : x19_2 = true
   ·
    subst c21
    rw [if_pos rfl] at H
    simp only [Option.some.injEq, Prod.mk.injEq] at H
    obtain ⟨rfl, rfl, rfl, rfl, rfl⟩ := H
    have hnb22 := NB141_140.out
    have hnc22 := NB140_141.out
    obtain ⟨hcz23_0, hcz23_1, hcz23_2, hcz23_3, hfz23_0, hfz23_1, hfz23_2, hfz23_3⟩ := c4_ BK141
    go_wp2
    refine bodyPost_ret (results_ct rfl _ _ gb141 28 #[.bool false, .int .u64 0, .int .u64 0, .int .i64 0] (0, 0) _ rfl (by refine pw_ ?_; refine blk_put (cs := #[.bool false, .int .u64 0, .int .u64 0, .int .i64 0]) ?_ 3 _ rfl; refine pw_ ?_; refine blk_put (cs := #[.bool false, .int .u64 0, .int .u64 0, .int .i64 0]) ?_ 2 _ rfl; refine pw_ ?_; refine blk_put (cs := #[.bool false, .int .u64 0, .int .u64 0, .int .i64 0]) ?_ 1 _ rfl; refine pw_ ?_; refine blk_put (cs := #[.bool false, .int .u64 0, .int .u64 0, .int .i64 0]) ?_ 0 _ rfl; refine pw_ ?_; exact BK141.out) Tryz.underlying28 rfl (by kernel_rfl)) rfl ?_
    exact ⟨by first | rfl | (simp [errW_none, errW_some] <;> rfl) | (simp [*, errW_none, errW_some] <;> rfl), pb_ HB⟩
   ·
    replace c21 := Bool.eq_false_iff.mpr c21
    subst c21
    have H1 : ((prefix_free.f a0_0 a0_1 a0_2 a1).bind fun bt145 => ((num_Not.f bt145.1 bt145.2).bind fun bt147 => ((num_And.f a0_1 a0_2 bt147.1 bt147.2).bind fun bt149 => (some (a0_0, bt149.1, bt149.2, a1, 0))))) = some (r1, r2, r3, r4, r5) := by rw [if_neg (show ¬ (false = true) by decide)] at H; exact H
    clear H
    have H := H1
    clear H1
    replace H := Option.bind_eq_some_iff.mp H
    obtain ⟨⟨t145, t146⟩, A240, H⟩ := H
    replace H : ((num_Not.f t145 t146).bind fun bt147 => ((num_And.f a0_1 a0_2 bt147.1 bt147.2).bind fun bt149 => (some (a0_0, bt149.1, bt149.2, a1, 0)))) = some (r1, r2, r3, r4, r5) := H
    have A24 := Aside0.mk A240
    clear A240
    replace H := Option.bind_eq_some_iff.mp H
    obtain ⟨⟨t147, t148⟩, A250, H⟩ := H
    replace H : ((num_And.f a0_1 a0_2 t147 t148).bind fun bt149 => (some (a0_0, bt149.1, bt149.2, a1, 0))) = some (r1, r2, r3, r4, r5) := H
    have A25 := Aside0.mk A250
    clear A250
    replace H := Option.bind_eq_some_iff.mp H
    obtain ⟨⟨t149, t150⟩, A260, H⟩ := H
    replace H : (some (a0_0, t149, t150, a1, 0)) = some (r1, r2, r3, r4, r5) := H
    have A26 := Aside0.mk A260
    clear A260
    simp only [Option.some.injEq, Prod.mk.injEq] at H
    obtain ⟨rfl, rfl, rfl, rfl, rfl⟩ := H
    have hnb27 := NB140_141.out
    have hnc27 := NB141_140.out
    obtain ⟨hcz28_0, hcz28_1, hcz28_2, hfz28_0, hfz28_1, hfz28_2⟩ := c3_ BK140
    try go_wp2_with (first | ((with_reducible refine gate_dst (N := 6) rfl ?_); refine bx_ 6 #[.bool false, .int .u64 0, .int .u64 0, .int .i64 0] 28 ?_; intro gb144 hg w29 hbox hb; have BK144 := Aside0.mk (hbox); have GW144 := gw_ HB hg; have GE144 := gw_ HB hg; have NB140_144 := nl_ BK140 hg; have NB144_140 := ng_ BK140 hg; have NB141_144 := nl_ BK141 hg; have NB144_141 := ng_ BK141 hg; replace BK140 := bb_ BK140 hb; replace BK141 := bb_ BK141 hb; replace HB := bs_ HB hb; clear hb hbox hg; have hnb30 := NB144_140.out; have hnc30 := NB140_144.out; have hnb31 := NB144_141.out; have hnc31 := NB141_144.out; obtain ⟨hcz32_0, hcz32_1, hcz32_2, hcz32_3, hfz32_0, hfz32_1, hfz32_2, hfz32_3⟩ := c4_ BK144))
    have n0_ : Aside0 (((((w29.setCell ⟨gb144, 0, none⟩ (.bool a0_0)).setCell ⟨gb144, 1, none⟩ (.int .u64 a0_1)).setCell ⟨gb144, 2, none⟩ (.int .u64 a0_2)).setCell ⟨gb144, 3, none⟩ (.int .i64 a1)).heap[gb140]? = some (.cells #[.bool a0_0, .int .u64 a0_1, .int .u64 a0_2] 26 (0, 0))) := ⟨by refine pw_ ?_; refine blk_far ?_ NB140_144.out _; refine pw_ ?_; refine blk_far ?_ NB140_144.out _; refine pw_ ?_; refine blk_far ?_ NB140_144.out _; refine pw_ ?_; refine blk_far ?_ NB140_144.out _; refine pw_ ?_; exact BK140.out⟩
    have n1_ : Aside0 (((((w29.setCell ⟨gb144, 0, none⟩ (.bool a0_0)).setCell ⟨gb144, 1, none⟩ (.int .u64 a0_1)).setCell ⟨gb144, 2, none⟩ (.int .u64 a0_2)).setCell ⟨gb144, 3, none⟩ (.int .i64 a1)).heap[gb141]? = some (.cells #[.bool false, .int .u64 0, .int .u64 0, .int .i64 0] 28 (0, 0))) := ⟨by refine pw_ ?_; refine blk_far ?_ NB141_144.out _; refine pw_ ?_; refine blk_far ?_ NB141_144.out _; refine pw_ ?_; refine blk_far ?_ NB141_144.out _; refine pw_ ?_; refine blk_far ?_ NB141_144.out _; refine pw_ ?_; exact BK141.out⟩
    have n2_ : Aside0 (((((w29.setCell ⟨gb144, 0, none⟩ (.bool a0_0)).setCell ⟨gb144, 1, none⟩ (.int .u64 a0_1)).setCell ⟨gb144, 2, none⟩ (.int .u64 a0_2)).setCell ⟨gb144, 3, none⟩ (.int .i64 a1)).heap[gb144]? = some (.cells #[.bool a0_0, .int .u64 a0_1, .int .u64 a0_2, .int .i64 a1] 28 (0, 0))) := ⟨by refine pw_ ?_; refine blk_put (cs := #[.bool a0_0, .int .u64 a0_1, .int .u64 a0_2, .int .i64 0]) ?_ 3 _ rfl; refine pw_ ?_; refine blk_put (cs := #[.bool a0_0, .int .u64 a0_1, .int .u64 0, .int .i64 0]) ?_ 2 _ rfl; refine pw_ ?_; refine blk_put (cs := #[.bool a0_0, .int .u64 0, .int .u64 0, .int .i64 0]) ?_ 1 _ rfl; refine pw_ ?_; refine blk_put (cs := #[.bool false, .int .u64 0, .int .u64 0, .int .i64 0]) ?_ 0 _ rfl; refine pw_ ?_; exact BK144.out⟩
    have n3_ : Aside0 (Below w.heap.size w ((((w29.setCell ⟨gb144, 0, none⟩ (.bool a0_0)).setCell ⟨gb144, 1, none⟩ (.int .u64 a0_1)).setCell ⟨gb144, 2, none⟩ (.int .u64 a0_2)).setCell ⟨gb144, 3, none⟩ (.int .i64 a1))) := ⟨pb_ HB⟩
    (try clear BK140)
    (try clear BK141)
    (try clear BK144)
    (try clear HB)
    generalize ((((w29.setCell ⟨gb144, 0, none⟩ (.bool a0_0)).setCell ⟨gb144, 1, none⟩ (.int .u64 a0_1)).setCell ⟨gb144, 2, none⟩ (.int .u64 a0_2)).setCell ⟨gb144, 3, none⟩ (.int .i64 a1)) = w33 at n0_ n1_ n2_ n3_ ⊢
    have BK140 := n0_
    have BK141 := n1_
    have BK144 := n2_
    have HB := n3_
    clear n0_ n1_ n2_ n3_
    replace BK140 := Aside0.mk (blk_drew BK140.out)
    replace BK141 := Aside0.mk (blk_drew BK141.out)
    replace BK144 := Aside0.mk (blk_drew BK144.out)
    replace HB := Aside0.mk (below_drew1 HB.out)
    refine start_ (n := 9) (S := fun w' => w'.cell? ⟨gb140, 0, none⟩ = some (.bool a0_0) ∧ w'.cell? ⟨gb140, 1, none⟩ = some (.int .u64 a0_1) ∧ w'.cell? ⟨gb140, 2, none⟩ = some (.int .u64 a0_2) ∧ w'.cell? ⟨gb144, 0, none⟩ = some (.bool a0_0) ∧ w'.cell? ⟨gb144, 1, none⟩ = some (.int .u64 a0_1) ∧ w'.cell? ⟨gb144, 2, none⟩ = some (.int .u64 a0_2) ∧ w'.cell? ⟨gb144, 3, none⟩ = some (.int .i64 a1)) (ds := [8]) (bm_ 9 0) (by kernel_rfl) rfl rfl ⟨kc_ BK140 0, kc_ BK140 1, kc_ BK140 2, kc_ BK144 0, kc_ BK144 1, kc_ BK144 2, kc_ BK144 3⟩ (fun hHeld => ?_); refine with_tabW prefix_Of.tab4 prefix_Of.bits4 (fun HT_ HW_ => ?_)
    generalize w33.drew = w34 at BK140 BK141 BK144 HB hHeld ⊢
    refine pu_ 0 (some 24) (bm_ 9 1) rfl HT_ ⟨by rfl, by intro w'; go_simp; with_reducible rfl⟩ ?_
    refine ta_ 1 (some 25) (bm_ 9 3) rfl HT_ HW_ ⟨by rfl, by rintro w' ⟨s0, s1, s2, s3, s4, s5, s6⟩; go_simp; with_reducible rfl⟩ hHeld ?_
    refine ta_ 2 (some 26) (bm_ 9 7) rfl HT_ HW_ ⟨by rfl, by rintro w' ⟨s0, s1, s2, s3, s4, s5, s6⟩; go_simp; with_reducible rfl⟩ hHeld ?_
    refine one_ (i := 3) (N := some 27) (bm_ 9 15) rfl rfl (one_of HT_.out (by kernel_rfl)) (by decide) (fun K hK => ?_)
    refine gr_ Tryz.func94 #[.agg #[.bool a0_0, .int .u64 a0_1, .int .u64 a0_2, .int .i64 a1]] ?_
    with_reducible refine (prefix_free.calls a0_0 a0_1 a0_2 a1 t145 t146 _ A24.out).mono ?_
    rintro e w35 ⟨rfl, hb⟩
    refine ⟨_, rfl, ?_⟩
    replace BK140 := bb_ BK140 hb
    replace BK141 := bb_ BK141 hb
    replace BK144 := bb_ BK144 hb
    replace HB := bs_ HB hb
    (try clear hb)
    (try clear hb2)
    (try clear hk)
    (try clear hi)
    refine hK.out _ _ ⟨kc_ BK140 0, kc_ BK140 1, kc_ BK140 2, kc_ BK144 0, kc_ BK144 1, kc_ BK144 2, kc_ BK144 3⟩ (fun hHeld => ?_)
    clear hK K
    refine norm_ (a' := ?_) ?_ ?_
    rotate_left
    ·
     show Act.put _ (some 27) _ = _
     simp only [Act.put, List.setIfInBounds_toArray, List.set_cons_zero, List.set_cons_succ, i64_w, i32_w]
     rfl
    refine one_ (i := 4) (N := some 28) (bm_ 9 31) rfl rfl (one_of HT_.out (by kernel_rfl)) (by decide) (fun K hK => ?_)
    refine gr_ Tryz.func135 #[.agg #[.int .u64 t145, .int .u64 t146]] ?_
    with_reducible refine (num_Not.calls t145 t146 t147 t148 _ A25.out).mono ?_
    rintro e w36 ⟨rfl, hb⟩
    refine ⟨_, rfl, ?_⟩
    replace BK140 := bb_ BK140 hb
    replace BK141 := bb_ BK141 hb
    replace BK144 := bb_ BK144 hb
    replace HB := bs_ HB hb
    (try clear hb)
    (try clear hb2)
    (try clear hk)
    (try clear hi)
    refine hK.out _ _ ⟨kc_ BK140 0, kc_ BK140 1, kc_ BK140 2, kc_ BK144 0, kc_ BK144 1, kc_ BK144 2, kc_ BK144 3⟩ (fun hHeld => ?_)
    clear hK K
    refine norm_ (a' := ?_) ?_ ?_
    rotate_left
    ·
     show Act.put _ (some 28) _ = _
     simp only [Act.put, List.setIfInBounds_toArray, List.set_cons_zero, List.set_cons_succ, i64_w, i32_w]
     rfl
    refine one_ (i := 5) (N := some 29) (bm_ 9 63) rfl rfl (one_of HT_.out (by kernel_rfl)) (by decide) (fun K hK => ?_)
    refine gr_ Tryz.func133 #[.agg #[.int .u64 a0_1, .int .u64 a0_2], .agg #[.int .u64 t147, .int .u64 t148]] ?_
    with_reducible refine (num_And.calls a0_1 a0_2 t147 t148 t149 t150 _ A26.out).mono ?_
    rintro e w37 ⟨rfl, hb⟩
    refine ⟨_, rfl, ?_⟩
    replace BK140 := bb_ BK140 hb
    replace BK141 := bb_ BK141 hb
    replace BK144 := bb_ BK144 hb
    replace HB := bs_ HB hb
    (try clear hb)
    (try clear hb2)
    (try clear hk)
    (try clear hi)
    refine hK.out _ _ ⟨kc_ BK140 0, kc_ BK140 1, kc_ BK140 2, kc_ BK144 0, kc_ BK144 1, kc_ BK144 2, kc_ BK144 3⟩ (fun hHeld => ?_)
    clear hK K
    refine norm_ (a' := ?_) ?_ ?_
    rotate_left
    ·
     show Act.put _ (some 29) _ = _
     simp only [Act.put, List.setIfInBounds_toArray, List.set_cons_zero, List.set_cons_succ, i64_w, i32_w]
     rfl
    refine pu_ 6 (some 30) (bm_ 9 127) rfl HT_ ⟨by rfl, by intro w'; go_simp; with_reducible rfl⟩ ?_
    refine pu_ 7 (some 31) (bm_ 9 255) rfl HT_ ⟨by rfl, by intro w'; go_simp; with_reducible rfl⟩ ?_
    refine last_ (i := 8) (N := none) (bm_ 9 511) rfl rfl (one_of HT_.out (by kernel_rfl)) (by decide) (fun K hK => ?_)
    have hs38 : w37.cell? ⟨gb144, 1, none⟩ = some (.int .u64 a0_1) := kc_ BK144 1
    have hfs38 := blk_frozen BK144.out 1
    have hns38_0 := NB140_144.out
    have hns38_1 := NB141_144.out
    have hms38_0 := NB144_140.out
    have hms38_1 := NB144_141.out
    have hs39 : w37.cell? ⟨gb144, 2, none⟩ = some (.int .u64 a0_2) := kc_ BK144 2
    have hfs39 := blk_frozen BK144.out 2
    have hns39_0 := NB140_144.out
    have hns39_1 := NB141_144.out
    have hms39_0 := NB144_140.out
    have hms39_1 := NB144_141.out
    refine skip_ (w1 := ?_) (by rfl) rfl ?_ ?_
    rotate_left
    ·
     go_simp
     rfl
    refine hK.out _ _ ?_
    clear hK K
    refine done_ (done_of HT_.out (by kernel_rfl)) ?_
    obtain ⟨hcz40_0, hcz40_1, hcz40_2, hcz40_3, hfz40_0, hfz40_1, hfz40_2, hfz40_3⟩ := c4_ BK144
    obtain ⟨hcz41_0, hcz41_1, hcz41_2, hcz41_3, hfz41_0, hfz41_1, hfz41_2, hfz41_3⟩ := c4_ BK141
    try go_wp2
    refine bodyPost_ret (results_ct rfl _ _ gb141 28 #[.bool a0_0, .int .u64 t149, .int .u64 t150, .int .i64 a1] (0, 0) _ rfl (by refine pw_ ?_; refine blk_put (cs := #[.bool a0_0, .int .u64 t149, .int .u64 t150, .int .i64 0]) ?_ 3 _ rfl; refine pw_ ?_; refine blk_put (cs := #[.bool a0_0, .int .u64 t149, .int .u64 0, .int .i64 0]) ?_ 2 _ rfl; refine pw_ ?_; refine blk_put (cs := #[.bool a0_0, .int .u64 0, .int .u64 0, .int .i64 0]) ?_ 1 _ rfl; refine pw_ ?_; refine blk_put (cs := #[.bool false, .int .u64 0, .int .u64 0, .int .i64 0]) ?_ 0 _ rfl; refine pw_ ?_; refine blk_far ?_ NB141_144.out _; refine pw_ ?_; refine blk_far ?_ NB141_144.out _; refine pw_ ?_; exact BK141.out) Tryz.underlying28 rfl (by kernel_rfl)) rfl ?_
    exact ⟨by first | rfl | (simp [errW_none, errW_some] <;> rfl) | (simp [*, errW_none, errW_some] <;> rfl), pb_ HB⟩

end Go.Proofs.YtpfilldnfpcpkaaGreatDoor.PPo

namespace Go.Proofs.YtpfilldnfpcpkaaGreatDoor.PPo
open Go.RowKit Go.Proofs.YtpfilldnfpcpkaaGreatDoorW.PrintWords Go.Proofs.YtpfilldnfpcpkaaGreatDoorW.PrintLast Go.Proofs.YtpfilldnfpcpkaaGreatDoorW.PrintMore
attribute [local go_sem] max2_int min2_int max_two min_two max_three min_three max_four min_four   -- for this text's walks alone

theorem eqA24 (d : Nat) (w : World) (x0 y0 : Int) (x1 y1 : Int) :
    (Op.equalIn (d + 2) 24 (.agg #[.int .u64 x0, .int .u64 x1]) (.agg #[.int .u64 y0, .int .u64 y1])).run Tryz.prog w = .ok (x0 == y0 && (x1 == y1)) w := by
  refine eqA_of Tryz.underlying24 (by kernel_rfl) ?_
  refine eqf_cons (by rfl) (by go_simp; rfl) (by go_simp; rfl) (by go_simp) ?_
  exact eqf_last (by rfl) (by go_simp; rfl) (by go_simp; rfl) (by go_simp)
theorem eqA26 (d : Nat) (w : World) (x0 y0 : Bool) (x1 y1 : Int) (x2 y2 : Int) :
    (Op.equalIn (d + 3) 26 (.agg #[.bool x0, .int .u64 x1, .int .u64 x2]) (.agg #[.bool y0, .int .u64 y1, .int .u64 y2])).run Tryz.prog w = .ok (x0 == y0 && ((x1 == y1 && (x2 == y2)))) w := by
  refine eqA_of Tryz.underlying26 (by kernel_rfl) ?_
  refine eqf_cons (by rfl) (by go_simp; rfl) (by go_simp; rfl) (by go_simp) ?_
  exact eqf_last (by rfl) (by go_simp) (by go_simp) (eqA24 (d + 0) w _ _ _ _)
end Go.Proofs.YtpfilldnfpcpkaaGreatDoor.PPo

namespace Go.Proofs.YtpfilldnfpcpkaaGreatDoor.PPo
open Go.RowKit Go.Proofs.YtpfilldnfpcpkaaGreatDoorW.PrintWords Go.Proofs.YtpfilldnfpcpkaaGreatDoorW.PrintLast Go.Proofs.YtpfilldnfpcpkaaGreatDoorW.PrintMore
attribute [local go_sem] max2_int min2_int max_two min_two max_three min_three max_four min_four   -- for this text's walks alone

theorem eqA28 (d : Nat) (w : World) (x0 y0 : Bool) (x1 y1 : Int) (x2 y2 : Int) (x3 y3 : Int) :
    (Op.equalIn (d + 4) 28 (.agg #[.bool x0, .int .u64 x1, .int .u64 x2, .int .i64 x3]) (.agg #[.bool y0, .int .u64 y1, .int .u64 y2, .int .i64 y3])).run Tryz.prog w = .ok ((x0 == y0 && ((x1 == y1 && (x2 == y2)))) && (x3 == y3)) w := by
  refine eqA_of Tryz.underlying28 (by kernel_rfl) ?_
  refine eqf_cons (by rfl) (by go_simp) (by go_simp) (eqA26 (d + 0) w _ _ _ _ _ _) ?_
  exact eqf_last (by rfl) (by go_simp; rfl) (by go_simp; rfl) (by go_simp)
end Go.Proofs.YtpfilldnfpcpkaaGreatDoor.PPo

namespace Go.Proofs.YtpfilldnfpcpkaaGreatDoor.PPo
open Go.RowKit Go.Proofs.YtpfilldnfpcpkaaGreatDoorW.PrintWords Go.Proofs.YtpfilldnfpcpkaaGreatDoorW.PrintLast Go.Proofs.YtpfilldnfpcpkaaGreatDoorW.PrintMore
attribute [local go_sem] max2_int min2_int max_two min_two max_three min_three max_four min_four   -- for this text's walks alone

attribute [local go_sem high] eqA28
def prefix_Has.f (k : Nat) (a0_0 : Bool) (a0_1 : Int) (a0_2 : Int) (a0_3 : Int) (a1_0 : Bool) (a1_1 : Int) (a1_2 : Int) : Option (Bool) := (prefix_Right.f a0_0 a0_1 a0_2 a0_3).bind fun t153 => (if t153 = true then ((addr_Right.f a1_0 a1_1 a1_2).bind fun t154 => (if t154 = true then (if (a1_0 != a0_0) = true then (some false) else ((prefix_Of.f k a1_0 a1_1 a1_2 a0_3).bind fun bt155 => (some ((bt155.1 == a0_0 && ((bt155.2.1 == a0_1 && (bt155.2.2.1 == a0_2)))) && (bt155.2.2.2.1 == a0_3))))) else (some false))) else (some false))
set_option maxHeartbeats 8000000 in
set_option maxRecDepth 100000 in
theorem prefix_Has.calls (k : Nat) (a0_0 : Bool) (a0_1 : Int) (a0_2 : Int) (a0_3 : Int) (a1_0 : Bool) (a1_1 : Int) (a1_2 : Int) (r : Bool) (w : World) (h : prefix_Has.f k a0_0 a0_1 a0_2 a0_3 a1_0 a1_1 a1_2 = some r) :
  Calls Tryz.prog 32 #[.agg #[.bool a0_0, .int .u64 a0_1, .int .u64 a0_2, .int .i64 a0_3], .agg #[.bool a1_0, .int .u64 a1_1, .int .u64 a1_2]] w fun e w' => e = .returned (.bool r) ∧ Below w.heap.size w w' := by
 have hu28 := Tryz.underlying28
 have hu26 := Tryz.underlying26
 have HB := Aside0.mk (Below.refl w.heap.size w)
 have H : ((prefix_Right.f a0_0 a0_1 a0_2 a0_3).bind fun t153 => (if t153 = true then ((addr_Right.f a1_0 a1_1 a1_2).bind fun t154 => (if t154 = true then (if (a1_0 != a0_0) = true then (some false) else ((prefix_Of.f k a1_0 a1_1 a1_2 a0_3).bind fun bt155 => (some ((bt155.1 == a0_0 && ((bt155.2.1 == a0_1 && (bt155.2.2.1 == a0_2)))) && (bt155.2.2.2.1 == a0_3))))) else (some false))) else (some false))) = some r := h
 clear h
 replace H := Option.bind_eq_some_iff.mp H
 obtain ⟨t153, A30, H⟩ := H
 replace H : (if t153 = true then ((addr_Right.f a1_0 a1_1 a1_2).bind fun t154 => (if t154 = true then (if (a1_0 != a0_0) = true then (some false) else ((prefix_Of.f k a1_0 a1_1 a1_2 a0_3).bind fun bt155 => (some ((bt155.1 == a0_0 && ((bt155.2.1 == a0_1 && (bt155.2.2.1 == a0_2)))) && (bt155.2.2.2.1 == a0_3))))) else (some false))) else (some false)) = some r := H
 have A3 := Aside0.mk A30
 clear A30
 by_cases c4 : t153 = true
 ·
  subst c4
  rw [if_pos rfl] at H
  replace H := Option.bind_eq_some_iff.mp H
  obtain ⟨t154, A50, H⟩ := H
  replace H : (if t154 = true then (if (a1_0 != a0_0) = true then (some false) else ((prefix_Of.f k a1_0 a1_1 a1_2 a0_3).bind fun bt155 => (some ((bt155.1 == a0_0 && ((bt155.2.1 == a0_1 && (bt155.2.2.1 == a0_2)))) && (bt155.2.2.2.1 == a0_3))))) else (some false)) = some r := H
  have A5 := Aside0.mk A50
  clear A50
  by_cases c6 : t154 = true
  ·
   subst c6
   rw [if_pos rfl] at H
   by_cases c7 : (a1_0 != a0_0) = true
   ·
    rw [if_pos c7] at H
    have c7b0 : (a1_0 != a0_0) = true := c7
    (try (have c7b1 : decide (a1_0 = a0_0) = false := by simpa using c7))
    (try (have c7b2 : (a1_0 == a0_0) = false := by simpa using c7))
    (try (have c7b3 : ¬ (a1_0 = a0_0) := by simpa using c7))
    clear c7
    obtain rfl := Option.some.inj H
    go_enter Tryz.func32, Tryz.ntmps32
    go_wp2_with (first | ((with_reducible refine gate_dst (N := 2) rfl ?_); refine bx_ 2 #[.bool a0_0, .int .u64 a0_1, .int .u64 a0_2, .int .i64 a0_3] 28 ?_; intro gb151 hg w8 hbox hb; have BK151 := Aside0.mk (hbox); have GW151 := gw_ HB hg; have GE151 := gw_ HB hg; replace HB := bs_ HB hb; clear hb hbox hg) | ((with_reducible refine gate_dst (N := 3) rfl ?_); refine bx_ 3 #[.bool a1_0, .int .u64 a1_1, .int .u64 a1_2] 26 ?_; intro gb152 hg w9 hbox hb; have BK152 := Aside0.mk (hbox); have GW152 := gw_ HB hg; have GE152 := gw_ HB hg; have NB151_152 := nl_ BK151 hg; have NB152_151 := ng_ BK151 hg; replace BK151 := bb_ BK151 hb; replace HB := bs_ HB hb; clear hb hbox hg; have hnb10 := NB151_152.out; have hnc10 := NB152_151.out; obtain ⟨hcz11_0, hcz11_1, hcz11_2, hcz11_3, hfz11_0, hfz11_1, hfz11_2, hfz11_3⟩ := c4_ BK151) | ((with_reducible refine gate_callee (f := 90) rfl ?_); refine gl_ (some 8) Tryz.func90 #[.agg #[.bool a0_0, .int .u64 a0_1, .int .u64 a0_2, .int .i64 a0_3]] ?_; (with_reducible refine (prefix_Right.calls a0_0 a0_1 a0_2 a0_3 true _ A3.out).mono ?_); rintro e w12 ⟨rfl, hb⟩; refine ⟨_, rfl, ?_⟩; replace BK151 := bb_ BK151 hb; replace BK152 := bb_ BK152 hb; replace HB := bs_ HB hb; (try clear hb); (try clear hb2); (try clear hk); (try clear hi); obtain ⟨hcz13_0, hcz13_1, hcz13_2, hfz13_0, hfz13_1, hfz13_2⟩ := c3_ BK152) | (go_at_call 91; (with_reducible refine (addr_Right.calls a1_0 a1_1 a1_2 true _ A5.out).mono ?_); rintro e w14 ⟨rfl, hb⟩; replace BK151 := bb_ BK151 hb; replace BK152 := bb_ BK152 hb; replace HB := bs_ HB hb; (try clear hb); (try clear hb2); (try clear hk); (try clear hi); obtain ⟨hcz15_0, hcz15_1, hcz15_2, hfz15_0, hfz15_1, hfz15_2⟩ := c3_ BK152; obtain ⟨hcz16_0, hcz16_1, hcz16_2, hcz16_3, hfz16_0, hfz16_1, hfz16_2, hfz16_3⟩ := c4_ BK151))
    go_ret
    exact ⟨by first | rfl | (simp [errW_none, errW_some] <;> rfl) | (simp [*, errW_none, errW_some] <;> rfl), pb_ HB⟩
   ·
    rw [if_neg c7] at H
    have c7b0 : (a1_0 != a0_0) = false := by simpa using c7
    (try (have c7b1 : decide (a1_0 = a0_0) = true := by simpa using c7))
    (try (have c7b2 : (a1_0 == a0_0) = true := by simpa using c7))
    clear c7
    replace H := Option.bind_eq_some_iff.mp H
    obtain ⟨⟨t155, t156, t157, t158, t159⟩, A170, H⟩ := H
    replace H : (some ((t155 == a0_0 && ((t156 == a0_1 && (t157 == a0_2)))) && (t158 == a0_3))) = some r := H
    have A17 := Aside0.mk A170
    clear A170
    obtain rfl := Option.some.inj H
    go_enter Tryz.func32, Tryz.ntmps32
    go_wp2_with (first | ((with_reducible refine gate_dst (N := 2) rfl ?_); refine bx_ 2 #[.bool a0_0, .int .u64 a0_1, .int .u64 a0_2, .int .i64 a0_3] 28 ?_; intro gb151 hg w18 hbox hb; have BK151 := Aside0.mk (hbox); have GW151 := gw_ HB hg; have GE151 := gw_ HB hg; replace HB := bs_ HB hb; clear hb hbox hg) | ((with_reducible refine gate_dst (N := 3) rfl ?_); refine bx_ 3 #[.bool a1_0, .int .u64 a1_1, .int .u64 a1_2] 26 ?_; intro gb152 hg w19 hbox hb; have BK152 := Aside0.mk (hbox); have GW152 := gw_ HB hg; have GE152 := gw_ HB hg; have NB151_152 := nl_ BK151 hg; have NB152_151 := ng_ BK151 hg; replace BK151 := bb_ BK151 hb; replace HB := bs_ HB hb; clear hb hbox hg; have hnb20 := NB151_152.out; have hnc20 := NB152_151.out; obtain ⟨hcz21_0, hcz21_1, hcz21_2, hcz21_3, hfz21_0, hfz21_1, hfz21_2, hfz21_3⟩ := c4_ BK151) | ((with_reducible refine gate_callee (f := 90) rfl ?_); refine gl_ (some 8) Tryz.func90 #[.agg #[.bool a0_0, .int .u64 a0_1, .int .u64 a0_2, .int .i64 a0_3]] ?_; (with_reducible refine (prefix_Right.calls a0_0 a0_1 a0_2 a0_3 true _ A3.out).mono ?_); rintro e w22 ⟨rfl, hb⟩; refine ⟨_, rfl, ?_⟩; replace BK151 := bb_ BK151 hb; replace BK152 := bb_ BK152 hb; replace HB := bs_ HB hb; (try clear hb); (try clear hb2); (try clear hk); (try clear hi); obtain ⟨hcz23_0, hcz23_1, hcz23_2, hfz23_0, hfz23_1, hfz23_2⟩ := c3_ BK152) | (go_at_call 91; (with_reducible refine (addr_Right.calls a1_0 a1_1 a1_2 true _ A5.out).mono ?_); rintro e w24 ⟨rfl, hb⟩; replace BK151 := bb_ BK151 hb; replace BK152 := bb_ BK152 hb; replace HB := bs_ HB hb; (try clear hb); (try clear hb2); (try clear hk); (try clear hi); obtain ⟨hcz25_0, hcz25_1, hcz25_2, hfz25_0, hfz25_1, hfz25_2⟩ := c3_ BK152; obtain ⟨hcz26_0, hcz26_1, hcz26_2, hcz26_3, hfz26_0, hfz26_1, hfz26_2, hfz26_3⟩ := c4_ BK151) | ((with_reducible refine gate_callee (f := 92) rfl ?_); refine gl_ (some 27) Tryz.func92 #[.agg #[.bool a1_0, .int .u64 a1_1, .int .u64 a1_2], .int .i64 a0_3] ?_; (with_reducible refine (prefix_Of.calls k a1_0 a1_1 a1_2 a0_3 t155 t156 t157 t158 t159 _ A17.out).mono ?_); rintro e w27 ⟨rfl, hb⟩; refine ⟨_, rfl, ?_⟩; replace BK151 := bb_ BK151 hb; replace BK152 := bb_ BK152 hb; replace HB := bs_ HB hb; (try clear hb); (try clear hb2); (try clear hk); (try clear hi)) | ((with_reducible refine gate_dst (N := 5) rfl ?_); refine bx_ 5 #[.bool false, .int .u64 0, .int .u64 0, .int .i64 0] 28 ?_; intro gb160 hg w28 hbox hb; have BK160 := Aside0.mk (hbox); have GW160 := gw_ HB hg; have GE160 := gw_ HB hg; have NB151_160 := nl_ BK151 hg; have NB160_151 := ng_ BK151 hg; have NB152_160 := nl_ BK152 hg; have NB160_152 := ng_ BK152 hg; replace BK151 := bb_ BK151 hb; replace BK152 := bb_ BK152 hb; replace HB := bs_ HB hb; clear hb hbox hg; have hnb29 := NB160_151.out; have hnc29 := NB151_160.out; have hnb30 := NB160_152.out; have hnc30 := NB152_160.out; obtain ⟨hcz31_0, hcz31_1, hcz31_2, hcz31_3, hfz31_0, hfz31_1, hfz31_2, hfz31_3⟩ := c4_ BK160; obtain ⟨hcz32_0, hcz32_1, hcz32_2, hcz32_3, hfz32_0, hfz32_1, hfz32_2, hfz32_3⟩ := c4_ BK151))
    go_ret
    exact ⟨by first | rfl | (simp [errW_none, errW_some] <;> rfl) | (simp [*, errW_none, errW_some] <;> rfl), pb_ HB⟩
  ·
   replace c6 := Bool.eq_false_iff.mpr c6
   subst c6
   have H1 : (some false) = some r := by rw [if_neg (show ¬ (false = true) by decide)] at H; exact H
   clear H
   have H := H1
   clear H1
   obtain rfl := Option.some.inj H
   go_enter Tryz.func32, Tryz.ntmps32
   go_wp2_with (first | ((with_reducible refine gate_dst (N := 2) rfl ?_); refine bx_ 2 #[.bool a0_0, .int .u64 a0_1, .int .u64 a0_2, .int .i64 a0_3] 28 ?_; intro gb151 hg w33 hbox hb; have BK151 := Aside0.mk (hbox); have GW151 := gw_ HB hg; have GE151 := gw_ HB hg; replace HB := bs_ HB hb; clear hb hbox hg) | ((with_reducible refine gate_dst (N := 3) rfl ?_); refine bx_ 3 #[.bool a1_0, .int .u64 a1_1, .int .u64 a1_2] 26 ?_; intro gb152 hg w34 hbox hb; have BK152 := Aside0.mk (hbox); have GW152 := gw_ HB hg; have GE152 := gw_ HB hg; have NB151_152 := nl_ BK151 hg; have NB152_151 := ng_ BK151 hg; replace BK151 := bb_ BK151 hb; replace HB := bs_ HB hb; clear hb hbox hg; have hnb35 := NB151_152.out; have hnc35 := NB152_151.out; obtain ⟨hcz36_0, hcz36_1, hcz36_2, hcz36_3, hfz36_0, hfz36_1, hfz36_2, hfz36_3⟩ := c4_ BK151) | ((with_reducible refine gate_callee (f := 90) rfl ?_); refine gl_ (some 8) Tryz.func90 #[.agg #[.bool a0_0, .int .u64 a0_1, .int .u64 a0_2, .int .i64 a0_3]] ?_; (with_reducible refine (prefix_Right.calls a0_0 a0_1 a0_2 a0_3 true _ A3.out).mono ?_); rintro e w37 ⟨rfl, hb⟩; refine ⟨_, rfl, ?_⟩; replace BK151 := bb_ BK151 hb; replace BK152 := bb_ BK152 hb; replace HB := bs_ HB hb; (try clear hb); (try clear hb2); (try clear hk); (try clear hi); obtain ⟨hcz38_0, hcz38_1, hcz38_2, hfz38_0, hfz38_1, hfz38_2⟩ := c3_ BK152) | (go_at_call 91; (with_reducible refine (addr_Right.calls a1_0 a1_1 a1_2 false _ A5.out).mono ?_); rintro e w39 ⟨rfl, hb⟩; replace BK151 := bb_ BK151 hb; replace BK152 := bb_ BK152 hb; replace HB := bs_ HB hb; (try clear hb); (try clear hb2); (try clear hk); (try clear hi)))
   go_ret
   exact ⟨by first | rfl | (simp [errW_none, errW_some] <;> rfl) | (simp [*, errW_none, errW_some] <;> rfl), pb_ HB⟩
 ·
  replace c4 := Bool.eq_false_iff.mpr c4
  subst c4
  have H1 : (some false) = some r := by rw [if_neg (show ¬ (false = true) by decide)] at H; exact H
  clear H
  have H := H1
  clear H1
  obtain rfl := Option.some.inj H
  go_enter Tryz.func32, Tryz.ntmps32
  go_wp2_with (first | ((with_reducible refine gate_dst (N := 2) rfl ?_); refine bx_ 2 #[.bool a0_0, .int .u64 a0_1, .int .u64 a0_2, .int .i64 a0_3] 28 ?_; intro gb151 hg w40 hbox hb; have BK151 := Aside0.mk (hbox); have GW151 := gw_ HB hg; have GE151 := gw_ HB hg; replace HB := bs_ HB hb; clear hb hbox hg) | ((with_reducible refine gate_dst (N := 3) rfl ?_); refine bx_ 3 #[.bool a1_0, .int .u64 a1_1, .int .u64 a1_2] 26 ?_; intro gb152 hg w41 hbox hb; have BK152 := Aside0.mk (hbox); have GW152 := gw_ HB hg; have GE152 := gw_ HB hg; have NB151_152 := nl_ BK151 hg; have NB152_151 := ng_ BK151 hg; replace BK151 := bb_ BK151 hb; replace HB := bs_ HB hb; clear hb hbox hg; have hnb42 := NB151_152.out; have hnc42 := NB152_151.out; obtain ⟨hcz43_0, hcz43_1, hcz43_2, hcz43_3, hfz43_0, hfz43_1, hfz43_2, hfz43_3⟩ := c4_ BK151) | ((with_reducible refine gate_callee (f := 90) rfl ?_); refine gl_ (some 8) Tryz.func90 #[.agg #[.bool a0_0, .int .u64 a0_1, .int .u64 a0_2, .int .i64 a0_3]] ?_; (with_reducible refine (prefix_Right.calls a0_0 a0_1 a0_2 a0_3 false _ A3.out).mono ?_); rintro e w44 ⟨rfl, hb⟩; refine ⟨_, rfl, ?_⟩; replace BK151 := bb_ BK151 hb; replace BK152 := bb_ BK152 hb; replace HB := bs_ HB hb; (try clear hb); (try clear hb2); (try clear hk); (try clear hi)))
  go_ret
  exact ⟨by first | rfl | (simp [errW_none, errW_some] <;> rfl) | (simp [*, errW_none, errW_some] <;> rfl), pb_ HB⟩

def carve_below.f (a0_0 : Bool) (a0_1 : Int) (a0_2 : Int) (a0_3 : Int) (a1_0 : Bool) (a1_1 : Int) (a1_2 : Int) (a2 : Int) : Option (Int × Int) := (addr_Width.f a1_0 a1_1 a1_2).bind fun t164 => ((num_Ones.f (wrap64 (t164 - a0_3))).bind fun bt165 => ((num_And.f a1_1 a1_2 bt165.1 bt165.2).bind fun bt167 => ((num_Shr.f bt167.1 bt167.2 a2).bind fun bt169 => (some (bt169.1, bt169.2)))))
def carve_below.T1 : Bool × List (List Nat × List Nat) := (true, [([], []), ([0], [0]), ([], []), ([2], [2]), ([], []), ([4], [4]), ([3, 5], [3, 5]), ([6, 3], [6]), ([1, 7, 7], [1, 7]), ([], []), ([8, 9, 8], [8, 9]), ([10, 10, 0, 1, 2, 3, 4, 5, 6, 7, 8, 9, 10], [10])])
def carve_below.B1 : List Nat := [0, 1, 0, 4, 0, 16, 60, 124, 255, 0, 1023, 2047]
theorem carve_below.tab1 : rtab .any (opsOf Tryz.f161 1) = carve_below.T1 := by kernel_rfl
theorem carve_below.bits1 : waitsOk carve_below.T1.2 carve_below.B1 = true := by kernel_rfl
set_option maxHeartbeats 8000000 in
set_option maxRecDepth 100000 in
theorem carve_below.calls (a0_0 : Bool) (a0_1 : Int) (a0_2 : Int) (a0_3 : Int) (a1_0 : Bool) (a1_1 : Int) (a1_2 : Int) (a2 : Int) (r1 : Int) (r2 : Int) (w : World) (h : carve_below.f a0_0 a0_1 a0_2 a0_3 a1_0 a1_1 a1_2 a2 = some (r1, r2)) :
  Calls Tryz.prog 161 #[.agg #[.bool a0_0, .int .u64 a0_1, .int .u64 a0_2, .int .i64 a0_3], .agg #[.bool a1_0, .int .u64 a1_1, .int .u64 a1_2], .int .i64 a2] w fun e w' => e = .returned (.agg #[.int .u64 r1, .int .u64 r2]) ∧ Below w.heap.size w w' := by
 have hu28 := Tryz.underlying28
 have hu26 := Tryz.underlying26
 have hu24 := Tryz.underlying24
 have HB := Aside0.mk (Below.refl w.heap.size w)
 have H : ((addr_Width.f a1_0 a1_1 a1_2).bind fun t164 => ((num_Ones.f (wrap64 (t164 - a0_3))).bind fun bt165 => ((num_And.f a1_1 a1_2 bt165.1 bt165.2).bind fun bt167 => ((num_Shr.f bt167.1 bt167.2 a2).bind fun bt169 => (some (bt169.1, bt169.2)))))) = some (r1, r2) := h
 clear h
 replace H := Option.bind_eq_some_iff.mp H
 obtain ⟨t164, A40, H⟩ := H
 replace H : ((num_Ones.f (wrap64 (t164 - a0_3))).bind fun bt165 => ((num_And.f a1_1 a1_2 bt165.1 bt165.2).bind fun bt167 => ((num_Shr.f bt167.1 bt167.2 a2).bind fun bt169 => (some (bt169.1, bt169.2))))) = some (r1, r2) := H
 have A4 := Aside0.mk A40
 clear A40
 replace H := Option.bind_eq_some_iff.mp H
 obtain ⟨⟨t165, t166⟩, A50, H⟩ := H
 replace H : ((num_And.f a1_1 a1_2 t165 t166).bind fun bt167 => ((num_Shr.f bt167.1 bt167.2 a2).bind fun bt169 => (some (bt169.1, bt169.2)))) = some (r1, r2) := H
 have A5 := Aside0.mk A50
 clear A50
 replace H := Option.bind_eq_some_iff.mp H
 obtain ⟨⟨t167, t168⟩, A60, H⟩ := H
 replace H : ((num_Shr.f t167 t168 a2).bind fun bt169 => (some (bt169.1, bt169.2))) = some (r1, r2) := H
 have A6 := Aside0.mk A60
 clear A60
 replace H := Option.bind_eq_some_iff.mp H
 obtain ⟨⟨t169, t170⟩, A70, H⟩ := H
 replace H : (some (t169, t170)) = some (r1, r2) := H
 have A7 := Aside0.mk A70
 clear A70
 simp only [Option.some.injEq, Prod.mk.injEq] at H
 obtain ⟨rfl, rfl⟩ := H
 go_enter Tryz.func161, Tryz.ntmps161
 try go_wp2_with (first | ((with_reducible refine gate_dst (N := 3) rfl ?_); refine bx_ 3 #[.bool a0_0, .int .u64 a0_1, .int .u64 a0_2, .int .i64 a0_3] 28 ?_; intro gb161 hg w8 hbox hb; have BK161 := Aside0.mk (hbox); have GW161 := gw_ HB hg; have GE161 := gw_ HB hg; replace HB := bs_ HB hb; clear hb hbox hg) | ((with_reducible refine gate_dst (N := 4) rfl ?_); refine bx_ 4 #[.bool a1_0, .int .u64 a1_1, .int .u64 a1_2] 26 ?_; intro gb162 hg w9 hbox hb; have BK162 := Aside0.mk (hbox); have GW162 := gw_ HB hg; have GE162 := gw_ HB hg; have NB161_162 := nl_ BK161 hg; have NB162_161 := ng_ BK161 hg; replace BK161 := bb_ BK161 hb; replace HB := bs_ HB hb; clear hb hbox hg) | ((with_reducible refine gate_dst (N := 6) rfl ?_); refine bx_ 6 #[.int .u64 0, .int .u64 0] 24 ?_; intro gb163 hg w10 hbox hb; have BK163 := Aside0.mk (hbox); have GW163 := gw_ HB hg; have GE163 := gw_ HB hg; have NB161_163 := nl_ BK161 hg; have NB163_161 := ng_ BK161 hg; have NB162_163 := nl_ BK162 hg; have NB163_162 := ng_ BK162 hg; replace BK161 := bb_ BK161 hb; replace BK162 := bb_ BK162 hb; replace HB := bs_ HB hb; clear hb hbox hg))
 replace BK161 := Aside0.mk (blk_drew BK161.out)
 replace BK162 := Aside0.mk (blk_drew BK162.out)
 replace BK163 := Aside0.mk (blk_drew BK163.out)
 replace HB := Aside0.mk (below_drew1 HB.out)
 refine start_ (n := 12) (S := fun w' => w'.cell? ⟨gb162, 0, none⟩ = some (.bool a1_0) ∧ w'.cell? ⟨gb162, 1, none⟩ = some (.int .u64 a1_1) ∧ w'.cell? ⟨gb162, 2, none⟩ = some (.int .u64 a1_2) ∧ w'.cell? ⟨gb161, 0, none⟩ = some (.bool a0_0) ∧ w'.cell? ⟨gb161, 1, none⟩ = some (.int .u64 a0_1) ∧ w'.cell? ⟨gb161, 2, none⟩ = some (.int .u64 a0_2) ∧ w'.cell? ⟨gb161, 3, none⟩ = some (.int .i64 a0_3)) (ds := []) (bm_ 12 0) (by kernel_rfl) rfl rfl ⟨kc_ BK162 0, kc_ BK162 1, kc_ BK162 2, kc_ BK161 0, kc_ BK161 1, kc_ BK161 2, kc_ BK161 3⟩ (fun hHeld => ?_); refine with_tabW carve_below.tab1 carve_below.bits1 (fun HT_ HW_ => ?_)
 generalize w10.drew = w11 at BK161 BK162 BK163 HB hHeld ⊢
 refine pu_ 0 (some 7) (bm_ 12 1) rfl HT_ ⟨by rfl, by intro w'; go_simp; with_reducible rfl⟩ ?_
 refine pu_ 4 (some 11) (bm_ 12 17) rfl HT_ ⟨by rfl, by intro w'; go_simp; with_reducible rfl⟩ ?_
 refine pu_ 9 (some 16) (bm_ 12 529) rfl HT_ ⟨by rfl, by intro w'; go_simp; with_reducible rfl⟩ ?_
 refine ta_ 1 (some 8) (bm_ 12 531) rfl HT_ HW_ ⟨by rfl, by rintro w' ⟨s0, s1, s2, s3, s4, s5, s6⟩; go_simp; with_reducible rfl⟩ hHeld ?_
 refine ta_ 2 (some 9) (bm_ 12 535) rfl HT_ HW_ ⟨by rfl, by rintro w' ⟨s0, s1, s2, s3, s4, s5, s6⟩; go_simp; with_reducible rfl⟩ hHeld ?_
 refine ta_ 5 (some 12) (bm_ 12 567) rfl HT_ HW_ ⟨by rfl, by rintro w' ⟨s0, s1, s2, s3, s4, s5, s6⟩; go_simp; with_reducible rfl⟩ hHeld ?_
 refine one_ (i := 3) (N := some 10) (bm_ 12 575) rfl rfl (one_of HT_.out (by kernel_rfl)) (by decide) (fun K hK => ?_)
 refine gr_ Tryz.func132 #[.agg #[.bool a1_0, .int .u64 a1_1, .int .u64 a1_2]] ?_
 with_reducible refine (addr_Width.calls a1_0 a1_1 a1_2 t164 _ A4.out).mono ?_
 rintro e w12 ⟨rfl, hb⟩
 refine ⟨_, rfl, ?_⟩
 replace BK161 := bb_ BK161 hb
 replace BK162 := bb_ BK162 hb
 replace BK163 := bb_ BK163 hb
 replace HB := bs_ HB hb
 (try clear hb)
 (try clear hb2)
 (try clear hk)
 (try clear hi)
 refine hK.out _ _ ⟨kc_ BK162 0, kc_ BK162 1, kc_ BK162 2, kc_ BK161 0, kc_ BK161 1, kc_ BK161 2, kc_ BK161 3⟩ (fun hHeld => ?_)
 clear hK K
 refine norm_ (a' := ?_) ?_ ?_
 rotate_left
 ·
  show Act.put _ (some 10) _ = _
  simp only [Act.put, List.setIfInBounds_toArray, List.set_cons_zero, List.set_cons_succ, i64_w, i32_w]
  rfl
 refine pu_ 6 (some 13) (bm_ 12 639) rfl HT_ ⟨by rfl, by intro w'; go_simp; with_reducible rfl⟩ ?_
 refine one_ (i := 7) (N := some 14) (bm_ 12 767) rfl rfl (one_of HT_.out (by kernel_rfl)) (by decide) (fun K hK => ?_)
 refine gr_ Tryz.func136 #[.int .i64 (wrap64 (t164 - a0_3))] ?_
 with_reducible refine (num_Ones.calls (wrap64 (t164 - a0_3)) t165 t166 _ A5.out).mono ?_
 rintro e w13 ⟨rfl, hb⟩
 refine ⟨_, rfl, ?_⟩
 replace BK161 := bb_ BK161 hb
 replace BK162 := bb_ BK162 hb
 replace BK163 := bb_ BK163 hb
 replace HB := bs_ HB hb
 (try clear hb)
 (try clear hb2)
 (try clear hk)
 (try clear hi)
 refine hK.out _ _ ⟨kc_ BK162 0, kc_ BK162 1, kc_ BK162 2, kc_ BK161 0, kc_ BK161 1, kc_ BK161 2, kc_ BK161 3⟩ (fun hHeld => ?_)
 clear hK K
 refine norm_ (a' := ?_) ?_ ?_
 rotate_left
 ·
  show Act.put _ (some 14) _ = _
  simp only [Act.put, List.setIfInBounds_toArray, List.set_cons_zero, List.set_cons_succ, i64_w, i32_w]
  rfl
 refine one_ (i := 8) (N := some 15) (bm_ 12 1023) rfl rfl (one_of HT_.out (by kernel_rfl)) (by decide) (fun K hK => ?_)
 refine gr_ Tryz.func133 #[.agg #[.int .u64 a1_1, .int .u64 a1_2], .agg #[.int .u64 t165, .int .u64 t166]] ?_
 with_reducible refine (num_And.calls a1_1 a1_2 t165 t166 t167 t168 _ A6.out).mono ?_
 rintro e w14 ⟨rfl, hb⟩
 refine ⟨_, rfl, ?_⟩
 replace BK161 := bb_ BK161 hb
 replace BK162 := bb_ BK162 hb
 replace BK163 := bb_ BK163 hb
 replace HB := bs_ HB hb
 (try clear hb)
 (try clear hb2)
 (try clear hk)
 (try clear hi)
 refine hK.out _ _ ⟨kc_ BK162 0, kc_ BK162 1, kc_ BK162 2, kc_ BK161 0, kc_ BK161 1, kc_ BK161 2, kc_ BK161 3⟩ (fun hHeld => ?_)
 clear hK K
 refine norm_ (a' := ?_) ?_ ?_
 rotate_left
 ·
  show Act.put _ (some 15) _ = _
  simp only [Act.put, List.setIfInBounds_toArray, List.set_cons_zero, List.set_cons_succ, i64_w, i32_w]
  rfl
 refine one_ (i := 10) (N := some 17) (bm_ 12 2047) rfl rfl (one_of HT_.out (by kernel_rfl)) (by decide) (fun K hK => ?_)
 refine gr_ Tryz.func159 #[.agg #[.int .u64 t167, .int .u64 t168], .int .i64 a2] ?_
 with_reducible refine (num_Shr.calls t167 t168 a2 t169 t170 _ A7.out).mono ?_
 rintro e w15 ⟨rfl, hb⟩
 refine ⟨_, rfl, ?_⟩
 replace BK161 := bb_ BK161 hb
 replace BK162 := bb_ BK162 hb
 replace BK163 := bb_ BK163 hb
 replace HB := bs_ HB hb
 (try clear hb)
 (try clear hb2)
 (try clear hk)
 (try clear hi)
 refine hK.out _ _ ⟨kc_ BK162 0, kc_ BK162 1, kc_ BK162 2, kc_ BK161 0, kc_ BK161 1, kc_ BK161 2, kc_ BK161 3⟩ (fun hHeld => ?_)
 clear hK K
 refine norm_ (a' := ?_) ?_ ?_
 rotate_left
 ·
  show Act.put _ (some 17) _ = _
  simp only [Act.put, List.setIfInBounds_toArray, List.set_cons_zero, List.set_cons_succ, i64_w, i32_w]
  rfl
 refine one_ (i := 11) (N := none) (bm_ 12 4095) rfl rfl (one_of HT_.out (by kernel_rfl)) (by decide) (fun K hK => ?_)
 have hs16 : w15.cell? ⟨gb163, 0, none⟩ = some (.int .u64 0) := kc_ BK163 0
 have hfs16 := blk_frozen BK163.out 0
 have hns16_0 := NB161_163.out
 have hns16_1 := NB162_163.out
 have hms16_0 := NB163_161.out
 have hms16_1 := NB163_162.out
 have hs17 : w15.cell? ⟨gb163, 1, none⟩ = some (.int .u64 0) := kc_ BK163 1
 have hfs17 := blk_frozen BK163.out 1
 have hns17_0 := NB161_163.out
 have hns17_1 := NB162_163.out
 have hms17_0 := NB163_161.out
 have hms17_1 := NB163_162.out
 refine skip_ (w1 := ?_) (by rfl) rfl ?_ ?_
 rotate_left
 ·
  go_simp
  rfl
 refine hK.out _ _ ⟨((cell_far (p := ⟨gb163, _, none⟩) NB162_163.out _).trans (((cell_far (p := ⟨gb163, _, none⟩) NB162_163.out _).trans (hHeld.1)))), ((cell_far (p := ⟨gb163, _, none⟩) NB162_163.out _).trans (((cell_far (p := ⟨gb163, _, none⟩) NB162_163.out _).trans (hHeld.2.1)))), ((cell_far (p := ⟨gb163, _, none⟩) NB162_163.out _).trans (((cell_far (p := ⟨gb163, _, none⟩) NB162_163.out _).trans (hHeld.2.2.1)))), ((cell_far (p := ⟨gb163, _, none⟩) NB161_163.out _).trans (((cell_far (p := ⟨gb163, _, none⟩) NB161_163.out _).trans (hHeld.2.2.2.1)))), ((cell_far (p := ⟨gb163, _, none⟩) NB161_163.out _).trans (((cell_far (p := ⟨gb163, _, none⟩) NB161_163.out _).trans (hHeld.2.2.2.2.1)))), ((cell_far (p := ⟨gb163, _, none⟩) NB161_163.out _).trans (((cell_far (p := ⟨gb163, _, none⟩) NB161_163.out _).trans (hHeld.2.2.2.2.2.1)))), ((cell_far (p := ⟨gb163, _, none⟩) NB161_163.out _).trans (((cell_far (p := ⟨gb163, _, none⟩) NB161_163.out _).trans (hHeld.2.2.2.2.2.2))))⟩ (fun hHeld => ?_)
 clear hK K
 refine done_ (done_of HT_.out (by kernel_rfl)) ?_
 try go_wp2
 refine bodyPost_ret (results_cell_row rfl _ _ gb163 24 #[.int .u64 t169, .int .u64 t170] (0, 0) _ rfl (by refine pw_ ?_; refine blk_put (cs := #[.int .u64 t169, .int .u64 0]) ?_ 1 _ rfl; refine pw_ ?_; refine blk_put (cs := #[.int .u64 0, .int .u64 0]) ?_ 0 _ rfl; refine pw_ ?_; exact BK163.out) Tryz.underlying24 rfl (by kernel_rfl)) rfl ?_
 exact ⟨by first | rfl | (simp [errW_none, errW_some] <;> rfl) | (simp [*, errW_none, errW_some] <;> rfl), pb_ HB⟩

end Go.Proofs.YtpfilldnfpcpkaaGreatDoor.PPo

namespace Go.Proofs.YtpfilldnfpcpkaaGreatDoor.PPo
open Go.RowKit Go.Proofs.YtpfilldnfpcpkaaGreatDoorW.PrintWords Go.Proofs.YtpfilldnfpcpkaaGreatDoorW.PrintLast Go.Proofs.YtpfilldnfpcpkaaGreatDoorW.PrintMore
attribute [local go_sem] max2_int min2_int max_two min_two max_three min_three max_four min_four   -- for this text's walks alone

def carve_Block.f (a0_0 : Bool) (a0_1 : Int) (a0_2 : Int) (a0_3 : Int) (a1 : Int) (a2_0 : Int) (a2_1 : Int) : Option (Bool × Int × Int × Int × Int) := (carve_cuts.f a0_0 a0_1 a0_2 a0_3 a1).bind fun t191 => (if t191 = true then ((num_Len.f a2_0 a2_1).bind fun t192 => (if t192 > (wrap64 (a1 - a0_3)) then (some (false, 0, 0, 0, 12)) else ((addr_Width.f a0_0 a0_1 a0_2).bind fun t194 => ((num_Shl.f a2_0 a2_1 (wrap64 (t194 - a1))).bind fun bt195 => ((num_Or.f a0_1 a0_2 bt195.1 bt195.2).bind fun bt197 => (some (a0_0, bt197.1, bt197.2, a1, 0))))))) else (some (false, 0, 0, 0, 1)))
def carve_Block.T3 : Bool × List (List Nat × List Nat) := (true, [([], []), ([0], [0]), ([], []), ([], []), ([3], [3]), ([2, 4], [2, 4]), ([1, 5], [1, 5]), ([6, 1], [6])])
def carve_Block.B3 : List Nat := [0, 1, 0, 0, 8, 28, 63, 127]
theorem carve_Block.tab3 : rtab .any (opsOf Tryz.f142 3) = carve_Block.T3 := by kernel_rfl
theorem carve_Block.bits3 : waitsOk carve_Block.T3.2 carve_Block.B3 = true := by kernel_rfl
def carve_Block.T6 : Bool × List (List Nat × List Nat) := (true, [([], []), ([0], [0]), ([], []), ([], []), ([3], [3]), ([], []), ([4, 5], [4, 5]), ([2, 6, 4], [2, 6]), ([1, 7, 7], [1, 7]), ([0, 1, 2, 3, 4, 5, 6, 7, 8], []), ([9, 8, 8, 0, 1, 2, 3, 4, 5, 6, 7, 8], [8, 9])])
def carve_Block.B6 : List Nat := [0, 1, 0, 0, 8, 0, 56, 124, 255, 511, 1023]
theorem carve_Block.tab6 : rtab .any (opsOf Tryz.f142 6) = carve_Block.T6 := by kernel_rfl
theorem carve_Block.bits6 : waitsOk carve_Block.T6.2 carve_Block.B6 = true := by kernel_rfl
set_option maxHeartbeats 8000000 in
set_option maxRecDepth 100000 in
theorem carve_Block.calls (a0_0 : Bool) (a0_1 : Int) (a0_2 : Int) (a0_3 : Int) (a1 : Int) (a2_0 : Int) (a2_1 : Int) (r1 : Bool) (r2 : Int) (r3 : Int) (r4 : Int) (r5 : Int) (w : World) (h : carve_Block.f a0_0 a0_1 a0_2 a0_3 a1 a2_0 a2_1 = some (r1, r2, r3, r4, r5)) :
  Calls Tryz.prog 142 #[.agg #[.bool a0_0, .int .u64 a0_1, .int .u64 a0_2, .int .i64 a0_3], .int .i64 a1, .agg #[.int .u64 a2_0, .int .u64 a2_1]] w fun e w' => e = .returned (.tuple #[.agg #[.bool r1, .int .u64 r2, .int .u64 r3, .int .i64 r4], .int .i64 r5]) ∧ Below w.heap.size w w' := by
 have hu28 := Tryz.underlying28
 have hu24 := Tryz.underlying24
 have hu26 := Tryz.underlying26
 have HB := Aside0.mk (Below.refl w.heap.size w)
 have H : ((carve_cuts.f a0_0 a0_1 a0_2 a0_3 a1).bind fun t191 => (if t191 = true then ((num_Len.f a2_0 a2_1).bind fun t192 => (if t192 > (wrap64 (a1 - a0_3)) then (some (false, 0, 0, 0, 12)) else ((addr_Width.f a0_0 a0_1 a0_2).bind fun t194 => ((num_Shl.f a2_0 a2_1 (wrap64 (t194 - a1))).bind fun bt195 => ((num_Or.f a0_1 a0_2 bt195.1 bt195.2).bind fun bt197 => (some (a0_0, bt197.1, bt197.2, a1, 0))))))) else (some (false, 0, 0, 0, 1)))) = some (r1, r2, r3, r4, r5) := h
 clear h
 replace H := Option.bind_eq_some_iff.mp H
 obtain ⟨t191, A40, H⟩ := H
 replace H : (if t191 = true then ((num_Len.f a2_0 a2_1).bind fun t192 => (if t192 > (wrap64 (a1 - a0_3)) then (some (false, 0, 0, 0, 12)) else ((addr_Width.f a0_0 a0_1 a0_2).bind fun t194 => ((num_Shl.f a2_0 a2_1 (wrap64 (t194 - a1))).bind fun bt195 => ((num_Or.f a0_1 a0_2 bt195.1 bt195.2).bind fun bt197 => (some (a0_0, bt197.1, bt197.2, a1, 0))))))) else (some (false, 0, 0, 0, 1))) = some (r1, r2, r3, r4, r5) := H
 have A4 := Aside0.mk A40
 clear A40
 by_cases c5 : t191 = true
 ·
  subst c5
  rw [if_pos rfl] at H
  replace H := Option.bind_eq_some_iff.mp H
  obtain ⟨t192, A60, H⟩ := H
  replace H : (if t192 > (wrap64 (a1 - a0_3)) then (some (false, 0, 0, 0, 12)) else ((addr_Width.f a0_0 a0_1 a0_2).bind fun t194 => ((num_Shl.f a2_0 a2_1 (wrap64 (t194 - a1))).bind fun bt195 => ((num_Or.f a0_1 a0_2 bt195.1 bt195.2).bind fun bt197 => (some (a0_0, bt197.1, bt197.2, a1, 0)))))) = some (r1, r2, r3, r4, r5) := H
  have A6 := Aside0.mk A60
  clear A60
  by_cases c7 : t192 > (wrap64 (a1 - a0_3))
  ·
   rw [if_pos c7] at H
   have c7b0 : decide ((wrap64 (a1 - a0_3)) < t192) = true := decide_eq_true c7
   clear c7
   simp only [Option.some.injEq, Prod.mk.injEq] at H
   obtain ⟨rfl, rfl, rfl, rfl, rfl⟩ := H
   go_enter Tryz.func142, Tryz.ntmps142
   try go_wp2_with (first | ((with_reducible refine gate_dst (N := 3) rfl ?_); refine bx_ 3 #[.bool a0_0, .int .u64 a0_1, .int .u64 a0_2, .int .i64 a0_3] 28 ?_; intro gb188 hg w8 hbox hb; have BK188 := Aside0.mk (hbox); have GW188 := gw_ HB hg; have GE188 := gw_ HB hg; replace HB := bs_ HB hb; clear hb hbox hg) | ((with_reducible refine gate_dst (N := 5) rfl ?_); refine bx_ 5 #[.int .u64 a2_0, .int .u64 a2_1] 24 ?_; intro gb189 hg w9 hbox hb; have BK189 := Aside0.mk (hbox); have GW189 := gw_ HB hg; have GE189 := gw_ HB hg; have NB188_189 := nl_ BK188 hg; have NB189_188 := ng_ BK188 hg; replace BK188 := bb_ BK188 hb; replace HB := bs_ HB hb; clear hb hbox hg) | ((with_reducible refine gate_dst (N := 6) rfl ?_); refine bx_ 6 #[.bool false, .int .u64 0, .int .u64 0, .int .i64 0] 28 ?_; intro gb190 hg w10 hbox hb; have BK190 := Aside0.mk (hbox); have GW190 := gw_ HB hg; have GE190 := gw_ HB hg; have NB188_190 := nl_ BK188 hg; have NB190_188 := ng_ BK188 hg; have NB189_190 := nl_ BK189 hg; have NB190_189 := ng_ BK189 hg; replace BK188 := bb_ BK188 hb; replace BK189 := bb_ BK189 hb; replace HB := bs_ HB hb; clear hb hbox hg; have hnb11 := NB188_189.out; have hnc11 := NB189_188.out; have hnb12 := NB188_190.out; have hnc12 := NB190_188.out; obtain ⟨hcz13_0, hcz13_1, hcz13_2, hcz13_3, hfz13_0, hfz13_1, hfz13_2, hfz13_3⟩ := c4_ BK188) | ((with_reducible refine gate_callee (f := 137) rfl ?_); refine gl_ (some 12) Tryz.func137 #[.agg #[.bool a0_0, .int .u64 a0_1, .int .u64 a0_2, .int .i64 a0_3], .int .i64 a1] ?_; (with_reducible refine (carve_cuts.calls a0_0 a0_1 a0_2 a0_3 a1 true _ A4.out).mono ?_); rintro e w14 ⟨rfl, hb⟩; refine ⟨_, rfl, ?_⟩; replace BK188 := bb_ BK188 hb; replace BK189 := bb_ BK189 hb; replace BK190 := bb_ BK190 hb; replace HB := bs_ HB hb; (try clear hb); (try clear hb2); (try clear hk); (try clear hi)))
   replace BK188 := Aside0.mk (blk_drew BK188.out)
   replace BK189 := Aside0.mk (blk_drew BK189.out)
   replace BK190 := Aside0.mk (blk_drew BK190.out)
   replace HB := Aside0.mk (below_drew1 HB.out)
   refine start_ (n := 8) (S := fun w' => w'.cell? ⟨gb189, 0, none⟩ = some (.int .u64 a2_0) ∧ w'.cell? ⟨gb189, 1, none⟩ = some (.int .u64 a2_1) ∧ w'.cell? ⟨gb188, 0, none⟩ = some (.bool a0_0) ∧ w'.cell? ⟨gb188, 1, none⟩ = some (.int .u64 a0_1) ∧ w'.cell? ⟨gb188, 2, none⟩ = some (.int .u64 a0_2) ∧ w'.cell? ⟨gb188, 3, none⟩ = some (.int .i64 a0_3)) (ds := []) (bm_ 8 0) (by kernel_rfl) rfl rfl ⟨kc_ BK189 0, kc_ BK189 1, kc_ BK188 0, kc_ BK188 1, kc_ BK188 2, kc_ BK188 3⟩ (fun hHeld => ?_); refine with_tabW carve_Block.tab3 carve_Block.bits3 (fun HT_ HW_ => ?_)
   generalize w14.drew = w15 at BK188 BK189 BK190 HB hHeld ⊢
   refine pu_ 2 (some 18) (bm_ 8 4) rfl HT_ ⟨by rfl, by intro w'; go_simp; with_reducible rfl⟩ ?_
   refine pu_ 3 (some 19) (bm_ 8 12) rfl HT_ ⟨by rfl, by intro w'; go_simp; with_reducible rfl⟩ ?_
   refine ta_ 0 (some 16) (bm_ 8 13) rfl HT_ HW_ ⟨by rfl, by rintro w' ⟨s0, s1, s2, s3, s4, s5⟩; go_simp; with_reducible rfl⟩ hHeld ?_
   refine ta_ 4 (some 20) (bm_ 8 29) rfl HT_ HW_ ⟨by rfl, by rintro w' ⟨s0, s1, s2, s3, s4, s5⟩; go_simp; with_reducible rfl⟩ hHeld ?_
   refine pu_ 5 (some 21) (bm_ 8 61) rfl HT_ ⟨by rfl, by intro w'; go_simp; with_reducible rfl⟩ ?_
   refine one_ (i := 1) (N := some 17) (bm_ 8 63) rfl rfl (one_of HT_.out (by kernel_rfl)) (by decide) (fun K hK => ?_)
   refine gr_ Tryz.func134 #[.agg #[.int .u64 a2_0, .int .u64 a2_1]] ?_
   with_reducible refine (num_Len.calls a2_0 a2_1 t192 _ A6.out).mono ?_
   rintro e w16 ⟨rfl, hb⟩
   refine ⟨_, rfl, ?_⟩
   replace BK188 := bb_ BK188 hb
   replace BK189 := bb_ BK189 hb
   replace BK190 := bb_ BK190 hb
   replace HB := bs_ HB hb
   (try clear hb)
   (try clear hb2)
   (try clear hk)
   (try clear hi)
   refine hK.out _ _ ⟨kc_ BK189 0, kc_ BK189 1, kc_ BK188 0, kc_ BK188 1, kc_ BK188 2, kc_ BK188 3⟩ (fun hHeld => ?_)
   clear hK K
   refine norm_ (a' := ?_) ?_ ?_
   rotate_left
   ·
    show Act.put _ (some 17) _ = _
    simp only [Act.put, List.setIfInBounds_toArray, List.set_cons_zero, List.set_cons_succ, i64_w, i32_w]
    rfl
   refine pu_ 6 (some 22) (bm_ 8 127) rfl HT_ ⟨by rfl, by intro w'; go_simp; with_reducible rfl⟩ ?_
   refine pu_ 7 (some 15) (bm_ 8 255) rfl HT_ ⟨by rfl, by intro w'; go_simp; with_reducible rfl⟩ ?_
   refine done_ (done_of HT_.out (by kernel_rfl)) ?_
   have hnb17 := NB190_189.out
   have hnc17 := NB189_190.out
   obtain ⟨hcz18_0, hcz18_1, hcz18_2, hcz18_3, hfz18_0, hfz18_1, hfz18_2, hfz18_3⟩ := c4_ BK190
   try go_wp2
   refine bodyPost_ret (results_ct rfl _ _ gb190 28 #[.bool false, .int .u64 0, .int .u64 0, .int .i64 0] (0, 0) _ rfl (by refine pw_ ?_; refine blk_put (cs := #[.bool false, .int .u64 0, .int .u64 0, .int .i64 0]) ?_ 3 _ rfl; refine pw_ ?_; refine blk_put (cs := #[.bool false, .int .u64 0, .int .u64 0, .int .i64 0]) ?_ 2 _ rfl; refine pw_ ?_; refine blk_put (cs := #[.bool false, .int .u64 0, .int .u64 0, .int .i64 0]) ?_ 1 _ rfl; refine pw_ ?_; refine blk_put (cs := #[.bool false, .int .u64 0, .int .u64 0, .int .i64 0]) ?_ 0 _ rfl; refine pw_ ?_; exact BK190.out) Tryz.underlying28 rfl (by kernel_rfl)) rfl ?_
   exact ⟨by first | rfl | (simp [errW_none, errW_some] <;> rfl) | (simp [*, errW_none, errW_some] <;> rfl), pb_ HB⟩
  ·
   rw [if_neg c7] at H
   have c7b0 : decide ((wrap64 (a1 - a0_3)) < t192) = false := decide_eq_false c7
   clear c7
   replace H := Option.bind_eq_some_iff.mp H
   obtain ⟨t194, A190, H⟩ := H
   replace H : ((num_Shl.f a2_0 a2_1 (wrap64 (t194 - a1))).bind fun bt195 => ((num_Or.f a0_1 a0_2 bt195.1 bt195.2).bind fun bt197 => (some (a0_0, bt197.1, bt197.2, a1, 0)))) = some (r1, r2, r3, r4, r5) := H
   have A19 := Aside0.mk A190
   clear A190
   replace H := Option.bind_eq_some_iff.mp H
   obtain ⟨⟨t195, t196⟩, A200, H⟩ := H
   replace H : ((num_Or.f a0_1 a0_2 t195 t196).bind fun bt197 => (some (a0_0, bt197.1, bt197.2, a1, 0))) = some (r1, r2, r3, r4, r5) := H
   have A20 := Aside0.mk A200
   clear A200
   replace H := Option.bind_eq_some_iff.mp H
   obtain ⟨⟨t197, t198⟩, A210, H⟩ := H
   replace H : (some (a0_0, t197, t198, a1, 0)) = some (r1, r2, r3, r4, r5) := H
   have A21 := Aside0.mk A210
   clear A210
   simp only [Option.some.injEq, Prod.mk.injEq] at H
   obtain ⟨rfl, rfl, rfl, rfl, rfl⟩ := H
   go_enter Tryz.func142, Tryz.ntmps142
   try go_wp2_with (first | ((with_reducible refine gate_dst (N := 3) rfl ?_); refine bx_ 3 #[.bool a0_0, .int .u64 a0_1, .int .u64 a0_2, .int .i64 a0_3] 28 ?_; intro gb188 hg w22 hbox hb; have BK188 := Aside0.mk (hbox); have GW188 := gw_ HB hg; have GE188 := gw_ HB hg; replace HB := bs_ HB hb; clear hb hbox hg) | ((with_reducible refine gate_dst (N := 5) rfl ?_); refine bx_ 5 #[.int .u64 a2_0, .int .u64 a2_1] 24 ?_; intro gb189 hg w23 hbox hb; have BK189 := Aside0.mk (hbox); have GW189 := gw_ HB hg; have GE189 := gw_ HB hg; have NB188_189 := nl_ BK188 hg; have NB189_188 := ng_ BK188 hg; replace BK188 := bb_ BK188 hb; replace HB := bs_ HB hb; clear hb hbox hg) | ((with_reducible refine gate_dst (N := 6) rfl ?_); refine bx_ 6 #[.bool false, .int .u64 0, .int .u64 0, .int .i64 0] 28 ?_; intro gb190 hg w24 hbox hb; have BK190 := Aside0.mk (hbox); have GW190 := gw_ HB hg; have GE190 := gw_ HB hg; have NB188_190 := nl_ BK188 hg; have NB190_188 := ng_ BK188 hg; have NB189_190 := nl_ BK189 hg; have NB190_189 := ng_ BK189 hg; replace BK188 := bb_ BK188 hb; replace BK189 := bb_ BK189 hb; replace HB := bs_ HB hb; clear hb hbox hg; have hnb25 := NB188_189.out; have hnc25 := NB189_188.out; have hnb26 := NB188_190.out; have hnc26 := NB190_188.out; obtain ⟨hcz27_0, hcz27_1, hcz27_2, hcz27_3, hfz27_0, hfz27_1, hfz27_2, hfz27_3⟩ := c4_ BK188) | ((with_reducible refine gate_callee (f := 137) rfl ?_); refine gl_ (some 12) Tryz.func137 #[.agg #[.bool a0_0, .int .u64 a0_1, .int .u64 a0_2, .int .i64 a0_3], .int .i64 a1] ?_; (with_reducible refine (carve_cuts.calls a0_0 a0_1 a0_2 a0_3 a1 true _ A4.out).mono ?_); rintro e w28 ⟨rfl, hb⟩; refine ⟨_, rfl, ?_⟩; replace BK188 := bb_ BK188 hb; replace BK189 := bb_ BK189 hb; replace BK190 := bb_ BK190 hb; replace HB := bs_ HB hb; (try clear hb); (try clear hb2); (try clear hk); (try clear hi)))
   replace BK188 := Aside0.mk (blk_drew BK188.out)
   replace BK189 := Aside0.mk (blk_drew BK189.out)
   replace BK190 := Aside0.mk (blk_drew BK190.out)
   replace HB := Aside0.mk (below_drew1 HB.out)
   refine start_ (n := 8) (S := fun w' => w'.cell? ⟨gb189, 0, none⟩ = some (.int .u64 a2_0) ∧ w'.cell? ⟨gb189, 1, none⟩ = some (.int .u64 a2_1) ∧ w'.cell? ⟨gb188, 0, none⟩ = some (.bool a0_0) ∧ w'.cell? ⟨gb188, 1, none⟩ = some (.int .u64 a0_1) ∧ w'.cell? ⟨gb188, 2, none⟩ = some (.int .u64 a0_2) ∧ w'.cell? ⟨gb188, 3, none⟩ = some (.int .i64 a0_3)) (ds := []) (bm_ 8 0) (by kernel_rfl) rfl rfl ⟨kc_ BK189 0, kc_ BK189 1, kc_ BK188 0, kc_ BK188 1, kc_ BK188 2, kc_ BK188 3⟩ (fun hHeld => ?_); refine with_tabW carve_Block.tab3 carve_Block.bits3 (fun HT_ HW_ => ?_)
   generalize w28.drew = w29 at BK188 BK189 BK190 HB hHeld ⊢
   refine pu_ 2 (some 18) (bm_ 8 4) rfl HT_ ⟨by rfl, by intro w'; go_simp; with_reducible rfl⟩ ?_
   refine pu_ 3 (some 19) (bm_ 8 12) rfl HT_ ⟨by rfl, by intro w'; go_simp; with_reducible rfl⟩ ?_
   refine ta_ 0 (some 16) (bm_ 8 13) rfl HT_ HW_ ⟨by rfl, by rintro w' ⟨s0, s1, s2, s3, s4, s5⟩; go_simp; with_reducible rfl⟩ hHeld ?_
   refine ta_ 4 (some 20) (bm_ 8 29) rfl HT_ HW_ ⟨by rfl, by rintro w' ⟨s0, s1, s2, s3, s4, s5⟩; go_simp; with_reducible rfl⟩ hHeld ?_
   refine pu_ 5 (some 21) (bm_ 8 61) rfl HT_ ⟨by rfl, by intro w'; go_simp; with_reducible rfl⟩ ?_
   refine one_ (i := 1) (N := some 17) (bm_ 8 63) rfl rfl (one_of HT_.out (by kernel_rfl)) (by decide) (fun K hK => ?_)
   refine gr_ Tryz.func134 #[.agg #[.int .u64 a2_0, .int .u64 a2_1]] ?_
   with_reducible refine (num_Len.calls a2_0 a2_1 t192 _ A6.out).mono ?_
   rintro e w30 ⟨rfl, hb⟩
   refine ⟨_, rfl, ?_⟩
   replace BK188 := bb_ BK188 hb
   replace BK189 := bb_ BK189 hb
   replace BK190 := bb_ BK190 hb
   replace HB := bs_ HB hb
   (try clear hb)
   (try clear hb2)
   (try clear hk)
   (try clear hi)
   refine hK.out _ _ ⟨kc_ BK189 0, kc_ BK189 1, kc_ BK188 0, kc_ BK188 1, kc_ BK188 2, kc_ BK188 3⟩ (fun hHeld => ?_)
   clear hK K
   refine norm_ (a' := ?_) ?_ ?_
   rotate_left
   ·
    show Act.put _ (some 17) _ = _
    simp only [Act.put, List.setIfInBounds_toArray, List.set_cons_zero, List.set_cons_succ, i64_w, i32_w]
    rfl
   refine pu_ 6 (some 22) (bm_ 8 127) rfl HT_ ⟨by rfl, by intro w'; go_simp; with_reducible rfl⟩ ?_
   refine pu_ 7 (some 15) (bm_ 8 255) rfl HT_ ⟨by rfl, by intro w'; go_simp; with_reducible rfl⟩ ?_
   refine done_ (done_of HT_.out (by kernel_rfl)) ?_
   obtain ⟨hcz31_0, hcz31_1, hcz31_2, hcz31_3, hfz31_0, hfz31_1, hfz31_2, hfz31_3⟩ := c4_ BK188
   try go_wp2_with (first | ((with_reducible refine gate_dst (N := 8) rfl ?_); refine bx_ 8 #[.bool false, .int .u64 0, .int .u64 0] 26 ?_; intro gb193 hg w32 hbox hb; have BK193 := Aside0.mk (hbox); have GW193 := gw_ HB hg; have GE193 := gw_ HB hg; have NB188_193 := nl_ BK188 hg; have NB193_188 := ng_ BK188 hg; have NB189_193 := nl_ BK189 hg; have NB193_189 := ng_ BK189 hg; have NB190_193 := nl_ BK190 hg; have NB193_190 := ng_ BK190 hg; replace BK188 := bb_ BK188 hb; replace BK189 := bb_ BK189 hb; replace BK190 := bb_ BK190 hb; replace HB := bs_ HB hb; clear hb hbox hg; have hnb33 := NB193_188.out; have hnc33 := NB188_193.out; have hnb34 := NB193_189.out; have hnc34 := NB189_193.out; have hnb35 := NB193_190.out; have hnc35 := NB190_193.out; obtain ⟨hcz36_0, hcz36_1, hcz36_2, hfz36_0, hfz36_1, hfz36_2⟩ := c3_ BK193))
   have n0_ : Aside0 ((((w32.setCell ⟨gb193, 0, none⟩ (.bool a0_0)).setCell ⟨gb193, 1, none⟩ (.int .u64 a0_1)).setCell ⟨gb193, 2, none⟩ (.int .u64 a0_2)).heap[gb188]? = some (.cells #[.bool a0_0, .int .u64 a0_1, .int .u64 a0_2, .int .i64 a0_3] 28 (0, 0))) := ⟨by refine pw_ ?_; refine blk_far ?_ NB188_193.out _; refine pw_ ?_; refine blk_far ?_ NB188_193.out _; refine pw_ ?_; refine blk_far ?_ NB188_193.out _; refine pw_ ?_; exact BK188.out⟩
   have n1_ : Aside0 ((((w32.setCell ⟨gb193, 0, none⟩ (.bool a0_0)).setCell ⟨gb193, 1, none⟩ (.int .u64 a0_1)).setCell ⟨gb193, 2, none⟩ (.int .u64 a0_2)).heap[gb189]? = some (.cells #[.int .u64 a2_0, .int .u64 a2_1] 24 (0, 0))) := ⟨by refine pw_ ?_; refine blk_far ?_ NB189_193.out _; refine pw_ ?_; refine blk_far ?_ NB189_193.out _; refine pw_ ?_; refine blk_far ?_ NB189_193.out _; refine pw_ ?_; exact BK189.out⟩
   have n2_ : Aside0 ((((w32.setCell ⟨gb193, 0, none⟩ (.bool a0_0)).setCell ⟨gb193, 1, none⟩ (.int .u64 a0_1)).setCell ⟨gb193, 2, none⟩ (.int .u64 a0_2)).heap[gb190]? = some (.cells #[.bool false, .int .u64 0, .int .u64 0, .int .i64 0] 28 (0, 0))) := ⟨by refine pw_ ?_; refine blk_far ?_ NB190_193.out _; refine pw_ ?_; refine blk_far ?_ NB190_193.out _; refine pw_ ?_; refine blk_far ?_ NB190_193.out _; refine pw_ ?_; exact BK190.out⟩
   have n3_ : Aside0 ((((w32.setCell ⟨gb193, 0, none⟩ (.bool a0_0)).setCell ⟨gb193, 1, none⟩ (.int .u64 a0_1)).setCell ⟨gb193, 2, none⟩ (.int .u64 a0_2)).heap[gb193]? = some (.cells #[.bool a0_0, .int .u64 a0_1, .int .u64 a0_2] 26 (0, 0))) := ⟨by refine pw_ ?_; refine blk_put (cs := #[.bool a0_0, .int .u64 a0_1, .int .u64 0]) ?_ 2 _ rfl; refine pw_ ?_; refine blk_put (cs := #[.bool a0_0, .int .u64 0, .int .u64 0]) ?_ 1 _ rfl; refine pw_ ?_; refine blk_put (cs := #[.bool false, .int .u64 0, .int .u64 0]) ?_ 0 _ rfl; refine pw_ ?_; exact BK193.out⟩
   have n4_ : Aside0 (Below w.heap.size w (((w32.setCell ⟨gb193, 0, none⟩ (.bool a0_0)).setCell ⟨gb193, 1, none⟩ (.int .u64 a0_1)).setCell ⟨gb193, 2, none⟩ (.int .u64 a0_2))) := ⟨pb_ HB⟩
   (try clear BK188)
   (try clear BK189)
   (try clear BK190)
   (try clear BK193)
   (try clear HB)
   generalize (((w32.setCell ⟨gb193, 0, none⟩ (.bool a0_0)).setCell ⟨gb193, 1, none⟩ (.int .u64 a0_1)).setCell ⟨gb193, 2, none⟩ (.int .u64 a0_2)) = w37 at n0_ n1_ n2_ n3_ n4_ ⊢
   have BK188 := n0_
   have BK189 := n1_
   have BK190 := n2_
   have BK193 := n3_
   have HB := n4_
   clear n0_ n1_ n2_ n3_ n4_
   replace BK188 := Aside0.mk (blk_drew BK188.out)
   replace BK189 := Aside0.mk (blk_drew BK189.out)
   replace BK190 := Aside0.mk (blk_drew BK190.out)
   replace BK193 := Aside0.mk (blk_drew BK193.out)
   replace HB := Aside0.mk (below_drew1 HB.out)
   refine start_ (n := 11) (S := fun w' => w'.cell? ⟨gb193, 0, none⟩ = some (.bool a0_0) ∧ w'.cell? ⟨gb193, 1, none⟩ = some (.int .u64 a0_1) ∧ w'.cell? ⟨gb193, 2, none⟩ = some (.int .u64 a0_2) ∧ w'.cell? ⟨gb189, 0, none⟩ = some (.int .u64 a2_0) ∧ w'.cell? ⟨gb189, 1, none⟩ = some (.int .u64 a2_1)) (ds := [10]) (bm_ 11 0) (by kernel_rfl) rfl rfl ⟨kc_ BK193 0, kc_ BK193 1, kc_ BK193 2, kc_ BK189 0, kc_ BK189 1⟩ (fun hHeld => ?_); refine with_tabW carve_Block.tab6 carve_Block.bits6 (fun HT_ HW_ => ?_)
   generalize w37.drew = w38 at BK188 BK189 BK190 BK193 HB hHeld ⊢
   refine pu_ 0 (some 26) (bm_ 11 1) rfl HT_ ⟨by rfl, by intro w'; go_simp; with_reducible rfl⟩ ?_
   refine pu_ 5 (some 31) (bm_ 11 33) rfl HT_ ⟨by rfl, by intro w'; go_simp; with_reducible rfl⟩ ?_
   refine ta_ 1 (some 27) (bm_ 11 35) rfl HT_ HW_ ⟨by rfl, by rintro w' ⟨s0, s1, s2, s3, s4⟩; go_simp; with_reducible rfl⟩ hHeld ?_
   refine ta_ 2 (some 28) (bm_ 11 39) rfl HT_ HW_ ⟨by rfl, by rintro w' ⟨s0, s1, s2, s3, s4⟩; go_simp; with_reducible rfl⟩ hHeld ?_
   refine ta_ 3 (some 29) (bm_ 11 47) rfl HT_ HW_ ⟨by rfl, by rintro w' ⟨s0, s1, s2, s3, s4⟩; go_simp; with_reducible rfl⟩ hHeld ?_
   refine one_ (i := 4) (N := some 30) (bm_ 11 63) rfl rfl (one_of HT_.out (by kernel_rfl)) (by decide) (fun K hK => ?_)
   refine gr_ Tryz.func132 #[.agg #[.bool a0_0, .int .u64 a0_1, .int .u64 a0_2]] ?_
   with_reducible refine (addr_Width.calls a0_0 a0_1 a0_2 t194 _ A19.out).mono ?_
   rintro e w39 ⟨rfl, hb⟩
   refine ⟨_, rfl, ?_⟩
   replace BK188 := bb_ BK188 hb
   replace BK189 := bb_ BK189 hb
   replace BK190 := bb_ BK190 hb
   replace BK193 := bb_ BK193 hb
   replace HB := bs_ HB hb
   (try clear hb)
   (try clear hb2)
   (try clear hk)
   (try clear hi)
   refine hK.out _ _ ⟨kc_ BK193 0, kc_ BK193 1, kc_ BK193 2, kc_ BK189 0, kc_ BK189 1⟩ (fun hHeld => ?_)
   clear hK K
   refine norm_ (a' := ?_) ?_ ?_
   rotate_left
   ·
    show Act.put _ (some 30) _ = _
    simp only [Act.put, List.setIfInBounds_toArray, List.set_cons_zero, List.set_cons_succ, i64_w, i32_w]
    rfl
   refine pu_ 6 (some 32) (bm_ 11 127) rfl HT_ ⟨by rfl, by intro w'; go_simp; with_reducible rfl⟩ ?_
   refine one_ (i := 7) (N := some 33) (bm_ 11 255) rfl rfl (one_of HT_.out (by kernel_rfl)) (by decide) (fun K hK => ?_)
   refine gr_ Tryz.func167 #[.agg #[.int .u64 a2_0, .int .u64 a2_1], .int .i64 (wrap64 (t194 - a1))] ?_
   with_reducible refine (num_Shl.calls a2_0 a2_1 (wrap64 (t194 - a1)) t195 t196 _ A20.out).mono ?_
   rintro e w40 ⟨rfl, hb⟩
   refine ⟨_, rfl, ?_⟩
   replace BK188 := bb_ BK188 hb
   replace BK189 := bb_ BK189 hb
   replace BK190 := bb_ BK190 hb
   replace BK193 := bb_ BK193 hb
   replace HB := bs_ HB hb
   (try clear hb)
   (try clear hb2)
   (try clear hk)
   (try clear hi)
   refine hK.out _ _ ⟨kc_ BK193 0, kc_ BK193 1, kc_ BK193 2, kc_ BK189 0, kc_ BK189 1⟩ (fun hHeld => ?_)
   clear hK K
   refine norm_ (a' := ?_) ?_ ?_
   rotate_left
   ·
    show Act.put _ (some 33) _ = _
    simp only [Act.put, List.setIfInBounds_toArray, List.set_cons_zero, List.set_cons_succ, i64_w, i32_w]
    rfl
   refine one_ (i := 8) (N := some 34) (bm_ 11 511) rfl rfl (one_of HT_.out (by kernel_rfl)) (by decide) (fun K hK => ?_)
   refine gr_ Tryz.func93 #[.agg #[.int .u64 a0_1, .int .u64 a0_2], .agg #[.int .u64 t195, .int .u64 t196]] ?_
   with_reducible refine (num_Or.calls a0_1 a0_2 t195 t196 t197 t198 _ A21.out).mono ?_
   rintro e w41 ⟨rfl, hb⟩
   refine ⟨_, rfl, ?_⟩
   replace BK188 := bb_ BK188 hb
   replace BK189 := bb_ BK189 hb
   replace BK190 := bb_ BK190 hb
   replace BK193 := bb_ BK193 hb
   replace HB := bs_ HB hb
   (try clear hb)
   (try clear hb2)
   (try clear hk)
   (try clear hi)
   refine hK.out _ _ ⟨kc_ BK193 0, kc_ BK193 1, kc_ BK193 2, kc_ BK189 0, kc_ BK189 1⟩ (fun hHeld => ?_)
   clear hK K
   refine norm_ (a' := ?_) ?_ ?_
   rotate_left
   ·
    show Act.put _ (some 34) _ = _
    simp only [Act.put, List.setIfInBounds_toArray, List.set_cons_zero, List.set_cons_succ, i64_w, i32_w]
    rfl
   refine pu_ 9 (some 35) (bm_ 11 1023) rfl HT_ ⟨by rfl, by intro w'; go_simp; with_reducible rfl⟩ ?_
   refine last_ (i := 10) (N := none) (bm_ 11 2047) rfl rfl (one_of HT_.out (by kernel_rfl)) (by decide) (fun K hK => ?_)
   have hs42 : w41.cell? ⟨gb193, 1, none⟩ = some (.int .u64 a0_1) := kc_ BK193 1
   have hfs42 := blk_frozen BK193.out 1
   have hns42_0 := NB188_193.out
   have hns42_1 := NB189_193.out
   have hns42_2 := NB190_193.out
   have hms42_0 := NB193_188.out
   have hms42_1 := NB193_189.out
   have hms42_2 := NB193_190.out
   have hs43 : w41.cell? ⟨gb193, 2, none⟩ = some (.int .u64 a0_2) := kc_ BK193 2
   have hfs43 := blk_frozen BK193.out 2
   have hns43_0 := NB188_193.out
   have hns43_1 := NB189_193.out
   have hns43_2 := NB190_193.out
   have hms43_0 := NB193_188.out
   have hms43_1 := NB193_189.out
   have hms43_2 := NB193_190.out
   refine skip_ (w1 := ?_) (by rfl) rfl ?_ ?_
   rotate_left
   ·
    go_simp
    rfl
   refine hK.out _ _ ?_
   clear hK K
   refine done_ (done_of HT_.out (by kernel_rfl)) ?_
   obtain ⟨hcz44_0, hcz44_1, hcz44_2, hfz44_0, hfz44_1, hfz44_2⟩ := c3_ BK193
   have hnb45 := NB190_189.out
   have hnc45 := NB189_190.out
   obtain ⟨hcz46_0, hcz46_1, hcz46_2, hcz46_3, hfz46_0, hfz46_1, hfz46_2, hfz46_3⟩ := c4_ BK190
   try go_wp2
   refine bodyPost_ret (results_ct rfl _ _ gb190 28 #[.bool a0_0, .int .u64 t197, .int .u64 t198, .int .i64 a1] (0, 0) _ rfl (by refine pw_ ?_; refine blk_put (cs := #[.bool a0_0, .int .u64 t197, .int .u64 t198, .int .i64 0]) ?_ 3 _ rfl; refine pw_ ?_; refine blk_put (cs := #[.bool a0_0, .int .u64 t197, .int .u64 0, .int .i64 0]) ?_ 2 _ rfl; refine pw_ ?_; refine blk_put (cs := #[.bool a0_0, .int .u64 0, .int .u64 0, .int .i64 0]) ?_ 1 _ rfl; refine pw_ ?_; refine blk_put (cs := #[.bool false, .int .u64 0, .int .u64 0, .int .i64 0]) ?_ 0 _ rfl; refine pw_ ?_; refine blk_far ?_ NB190_193.out _; refine pw_ ?_; refine blk_far ?_ NB190_193.out _; refine pw_ ?_; exact BK190.out) Tryz.underlying28 rfl (by kernel_rfl)) rfl ?_
   exact ⟨by first | rfl | (simp [errW_none, errW_some] <;> rfl) | (simp [*, errW_none, errW_some] <;> rfl), pb_ HB⟩
 ·
  replace c5 := Bool.eq_false_iff.mpr c5
  subst c5
  have H1 : (some (false, 0, 0, 0, 1)) = some (r1, r2, r3, r4, r5) := by rw [if_neg (show ¬ (false = true) by decide)] at H; exact H
  clear H
  have H := H1
  clear H1
  simp only [Option.some.injEq, Prod.mk.injEq] at H
  obtain ⟨rfl, rfl, rfl, rfl, rfl⟩ := H
  go_enter Tryz.func142, Tryz.ntmps142
  go_wp2_with (first | ((with_reducible refine gate_dst (N := 3) rfl ?_); refine bx_ 3 #[.bool a0_0, .int .u64 a0_1, .int .u64 a0_2, .int .i64 a0_3] 28 ?_; intro gb188 hg w47 hbox hb; have BK188 := Aside0.mk (hbox); have GW188 := gw_ HB hg; have GE188 := gw_ HB hg; replace HB := bs_ HB hb; clear hb hbox hg) | ((with_reducible refine gate_dst (N := 5) rfl ?_); refine bx_ 5 #[.int .u64 a2_0, .int .u64 a2_1] 24 ?_; intro gb189 hg w48 hbox hb; have BK189 := Aside0.mk (hbox); have GW189 := gw_ HB hg; have GE189 := gw_ HB hg; have NB188_189 := nl_ BK188 hg; have NB189_188 := ng_ BK188 hg; replace BK188 := bb_ BK188 hb; replace HB := bs_ HB hb; clear hb hbox hg) | ((with_reducible refine gate_dst (N := 6) rfl ?_); refine bx_ 6 #[.bool false, .int .u64 0, .int .u64 0, .int .i64 0] 28 ?_; intro gb190 hg w49 hbox hb; have BK190 := Aside0.mk (hbox); have GW190 := gw_ HB hg; have GE190 := gw_ HB hg; have NB188_190 := nl_ BK188 hg; have NB190_188 := ng_ BK188 hg; have NB189_190 := nl_ BK189 hg; have NB190_189 := ng_ BK189 hg; replace BK188 := bb_ BK188 hb; replace BK189 := bb_ BK189 hb; replace HB := bs_ HB hb; clear hb hbox hg; have hnb50 := NB188_189.out; have hnc50 := NB189_188.out; have hnb51 := NB188_190.out; have hnc51 := NB190_188.out; obtain ⟨hcz52_0, hcz52_1, hcz52_2, hcz52_3, hfz52_0, hfz52_1, hfz52_2, hfz52_3⟩ := c4_ BK188) | ((with_reducible refine gate_callee (f := 137) rfl ?_); refine gl_ (some 12) Tryz.func137 #[.agg #[.bool a0_0, .int .u64 a0_1, .int .u64 a0_2, .int .i64 a0_3], .int .i64 a1] ?_; (with_reducible refine (carve_cuts.calls a0_0 a0_1 a0_2 a0_3 a1 false _ A4.out).mono ?_); rintro e w53 ⟨rfl, hb⟩; refine ⟨_, rfl, ?_⟩; replace BK188 := bb_ BK188 hb; replace BK189 := bb_ BK189 hb; replace BK190 := bb_ BK190 hb; replace HB := bs_ HB hb; (try clear hb); (try clear hb2); (try clear hk); (try clear hi); have hnb54 := NB190_189.out; have hnc54 := NB189_190.out; obtain ⟨hcz55_0, hcz55_1, hcz55_2, hcz55_3, hfz55_0, hfz55_1, hfz55_2, hfz55_3⟩ := c4_ BK190))
  refine bodyPost_ret (results_ct rfl _ _ gb190 28 #[.bool false, .int .u64 0, .int .u64 0, .int .i64 0] (0, 0) _ rfl (by refine pw_ ?_; refine blk_put (cs := #[.bool false, .int .u64 0, .int .u64 0, .int .i64 0]) ?_ 3 _ rfl; refine pw_ ?_; refine blk_put (cs := #[.bool false, .int .u64 0, .int .u64 0, .int .i64 0]) ?_ 2 _ rfl; refine pw_ ?_; refine blk_put (cs := #[.bool false, .int .u64 0, .int .u64 0, .int .i64 0]) ?_ 1 _ rfl; refine pw_ ?_; refine blk_put (cs := #[.bool false, .int .u64 0, .int .u64 0, .int .i64 0]) ?_ 0 _ rfl; refine pw_ ?_; exact BK190.out) Tryz.underlying28 rfl (by kernel_rfl)) rfl ?_
  exact ⟨by first | rfl | (simp [errW_none, errW_some] <;> rfl) | (simp [*, errW_none, errW_some] <;> rfl), pb_ HB⟩

def prefix_Within.f (k : Nat) (a0_0 : Bool) (a0_1 : Int) (a0_2 : Int) (a0_3 : Int) (a1_0 : Bool) (a1_1 : Int) (a1_2 : Int) (a1_3 : Int) : Option (Bool) := (prefix_Right.f a0_0 a0_1 a0_2 a0_3).bind fun t211 => (if t211 = true then ((prefix_Right.f a1_0 a1_1 a1_2 a1_3).bind fun t212 => (if t212 = true then (if a0_3 ≥ a1_3 then ((prefix_Has.f k a1_0 a1_1 a1_2 a1_3 a0_0 a0_1 a0_2).bind fun t213 => (some t213)) else (some false)) else (some false))) else (some false))
set_option maxHeartbeats 8000000 in
set_option maxRecDepth 100000 in
theorem prefix_Within.calls (k : Nat) (a0_0 : Bool) (a0_1 : Int) (a0_2 : Int) (a0_3 : Int) (a1_0 : Bool) (a1_1 : Int) (a1_2 : Int) (a1_3 : Int) (r : Bool) (w : World) (h : prefix_Within.f k a0_0 a0_1 a0_2 a0_3 a1_0 a1_1 a1_2 a1_3 = some r) :
  Calls Tryz.prog 41 #[.agg #[.bool a0_0, .int .u64 a0_1, .int .u64 a0_2, .int .i64 a0_3], .agg #[.bool a1_0, .int .u64 a1_1, .int .u64 a1_2, .int .i64 a1_3]] w fun e w' => e = .returned (.bool r) ∧ Below w.heap.size w w' := by
 have hu28 := Tryz.underlying28
 have hu26 := Tryz.underlying26
 have HB := Aside0.mk (Below.refl w.heap.size w)
 have H : ((prefix_Right.f a0_0 a0_1 a0_2 a0_3).bind fun t211 => (if t211 = true then ((prefix_Right.f a1_0 a1_1 a1_2 a1_3).bind fun t212 => (if t212 = true then (if a0_3 ≥ a1_3 then ((prefix_Has.f k a1_0 a1_1 a1_2 a1_3 a0_0 a0_1 a0_2).bind fun t213 => (some t213)) else (some false)) else (some false))) else (some false))) = some r := h
 clear h
 replace H := Option.bind_eq_some_iff.mp H
 obtain ⟨t211, A30, H⟩ := H
 replace H : (if t211 = true then ((prefix_Right.f a1_0 a1_1 a1_2 a1_3).bind fun t212 => (if t212 = true then (if a0_3 ≥ a1_3 then ((prefix_Has.f k a1_0 a1_1 a1_2 a1_3 a0_0 a0_1 a0_2).bind fun t213 => (some t213)) else (some false)) else (some false))) else (some false)) = some r := H
 have A3 := Aside0.mk A30
 clear A30
 by_cases c4 : t211 = true
 ·
  subst c4
  rw [if_pos rfl] at H
  replace H := Option.bind_eq_some_iff.mp H
  obtain ⟨t212, A50, H⟩ := H
  replace H : (if t212 = true then (if a0_3 ≥ a1_3 then ((prefix_Has.f k a1_0 a1_1 a1_2 a1_3 a0_0 a0_1 a0_2).bind fun t213 => (some t213)) else (some false)) else (some false)) = some r := H
  have A5 := Aside0.mk A50
  clear A50
  by_cases c6 : t212 = true
  ·
   subst c6
   rw [if_pos rfl] at H
   by_cases c7 : a0_3 ≥ a1_3
   ·
    rw [if_pos c7] at H
    have c7b0 : decide (a1_3 ≤ a0_3) = true := decide_eq_true c7
    clear c7
    replace H := Option.bind_eq_some_iff.mp H
    obtain ⟨t213, A80, H⟩ := H
    replace H : (some t213) = some r := H
    have A8 := Aside0.mk A80
    clear A80
    obtain rfl := Option.some.inj H
    go_enter Tryz.func41, Tryz.ntmps41
    go_wp2_with (first | ((with_reducible refine gate_dst (N := 2) rfl ?_); refine bx_ 2 #[.bool a0_0, .int .u64 a0_1, .int .u64 a0_2, .int .i64 a0_3] 28 ?_; intro gb209 hg w9 hbox hb; have BK209 := Aside0.mk (hbox); have GW209 := gw_ HB hg; have GE209 := gw_ HB hg; replace HB := bs_ HB hb; clear hb hbox hg) | ((with_reducible refine gate_dst (N := 3) rfl ?_); refine bx_ 3 #[.bool a1_0, .int .u64 a1_1, .int .u64 a1_2, .int .i64 a1_3] 28 ?_; intro gb210 hg w10 hbox hb; have BK210 := Aside0.mk (hbox); have GW210 := gw_ HB hg; have GE210 := gw_ HB hg; have NB209_210 := nl_ BK209 hg; have NB210_209 := ng_ BK209 hg; replace BK209 := bb_ BK209 hb; replace HB := bs_ HB hb; clear hb hbox hg; have hnb11 := NB209_210.out; have hnc11 := NB210_209.out; obtain ⟨hcz12_0, hcz12_1, hcz12_2, hcz12_3, hfz12_0, hfz12_1, hfz12_2, hfz12_3⟩ := c4_ BK209) | ((with_reducible refine gate_callee (f := 90) rfl ?_); refine gl_ (some 6) Tryz.func90 #[.agg #[.bool a0_0, .int .u64 a0_1, .int .u64 a0_2, .int .i64 a0_3]] ?_; (with_reducible refine (prefix_Right.calls a0_0 a0_1 a0_2 a0_3 true _ A3.out).mono ?_); rintro e w13 ⟨rfl, hb⟩; refine ⟨_, rfl, ?_⟩; replace BK209 := bb_ BK209 hb; replace BK210 := bb_ BK210 hb; replace HB := bs_ HB hb; (try clear hb); (try clear hb2); (try clear hk); (try clear hi); obtain ⟨hcz14_0, hcz14_1, hcz14_2, hcz14_3, hfz14_0, hfz14_1, hfz14_2, hfz14_3⟩ := c4_ BK210) | (go_at_call 90; (with_reducible refine (prefix_Right.calls a1_0 a1_1 a1_2 a1_3 true _ A5.out).mono ?_); rintro e w15 ⟨rfl, hb⟩; replace BK209 := bb_ BK209 hb; replace BK210 := bb_ BK210 hb; replace HB := bs_ HB hb; (try clear hb); (try clear hb2); (try clear hk); (try clear hi); obtain ⟨hcz16_0, hcz16_1, hcz16_2, hcz16_3, hfz16_0, hfz16_1, hfz16_2, hfz16_3⟩ := c4_ BK209; obtain ⟨hcz17_0, hcz17_1, hcz17_2, hcz17_3, hfz17_0, hfz17_1, hfz17_2, hfz17_3⟩ := c4_ BK210) | (go_at_call 32; (with_reducible refine (prefix_Has.calls k a1_0 a1_1 a1_2 a1_3 a0_0 a0_1 a0_2 t213 _ A8.out).mono ?_); rintro e w18 ⟨rfl, hb⟩; replace BK209 := bb_ BK209 hb; replace BK210 := bb_ BK210 hb; replace HB := bs_ HB hb; (try clear hb); (try clear hb2); (try clear hk); (try clear hi)))
    go_ret
    exact ⟨by first | rfl | (simp [errW_none, errW_some] <;> rfl) | (simp [*, errW_none, errW_some] <;> rfl), pb_ HB⟩
   ·
    rw [if_neg c7] at H
    have c7b0 : decide (a1_3 ≤ a0_3) = false := decide_eq_false c7
    clear c7
    obtain rfl := Option.some.inj H
    go_enter Tryz.func41, Tryz.ntmps41
    go_wp2_with (first | ((with_reducible refine gate_dst (N := 2) rfl ?_); refine bx_ 2 #[.bool a0_0, .int .u64 a0_1, .int .u64 a0_2, .int .i64 a0_3] 28 ?_; intro gb209 hg w19 hbox hb; have BK209 := Aside0.mk (hbox); have GW209 := gw_ HB hg; have GE209 := gw_ HB hg; replace HB := bs_ HB hb; clear hb hbox hg) | ((with_reducible refine gate_dst (N := 3) rfl ?_); refine bx_ 3 #[.bool a1_0, .int .u64 a1_1, .int .u64 a1_2, .int .i64 a1_3] 28 ?_; intro gb210 hg w20 hbox hb; have BK210 := Aside0.mk (hbox); have GW210 := gw_ HB hg; have GE210 := gw_ HB hg; have NB209_210 := nl_ BK209 hg; have NB210_209 := ng_ BK209 hg; replace BK209 := bb_ BK209 hb; replace HB := bs_ HB hb; clear hb hbox hg; have hnb21 := NB209_210.out; have hnc21 := NB210_209.out; obtain ⟨hcz22_0, hcz22_1, hcz22_2, hcz22_3, hfz22_0, hfz22_1, hfz22_2, hfz22_3⟩ := c4_ BK209) | ((with_reducible refine gate_callee (f := 90) rfl ?_); refine gl_ (some 6) Tryz.func90 #[.agg #[.bool a0_0, .int .u64 a0_1, .int .u64 a0_2, .int .i64 a0_3]] ?_; (with_reducible refine (prefix_Right.calls a0_0 a0_1 a0_2 a0_3 true _ A3.out).mono ?_); rintro e w23 ⟨rfl, hb⟩; refine ⟨_, rfl, ?_⟩; replace BK209 := bb_ BK209 hb; replace BK210 := bb_ BK210 hb; replace HB := bs_ HB hb; (try clear hb); (try clear hb2); (try clear hk); (try clear hi); obtain ⟨hcz24_0, hcz24_1, hcz24_2, hcz24_3, hfz24_0, hfz24_1, hfz24_2, hfz24_3⟩ := c4_ BK210) | (go_at_call 90; (with_reducible refine (prefix_Right.calls a1_0 a1_1 a1_2 a1_3 true _ A5.out).mono ?_); rintro e w25 ⟨rfl, hb⟩; replace BK209 := bb_ BK209 hb; replace BK210 := bb_ BK210 hb; replace HB := bs_ HB hb; (try clear hb); (try clear hb2); (try clear hk); (try clear hi); obtain ⟨hcz26_0, hcz26_1, hcz26_2, hcz26_3, hfz26_0, hfz26_1, hfz26_2, hfz26_3⟩ := c4_ BK209; obtain ⟨hcz27_0, hcz27_1, hcz27_2, hcz27_3, hfz27_0, hfz27_1, hfz27_2, hfz27_3⟩ := c4_ BK210))
    go_ret
    exact ⟨by first | rfl | (simp [errW_none, errW_some] <;> rfl) | (simp [*, errW_none, errW_some] <;> rfl), pb_ HB⟩
  ·
   replace c6 := Bool.eq_false_iff.mpr c6
   subst c6
   have H1 : (some false) = some r := by rw [if_neg (show ¬ (false = true) by decide)] at H; exact H
   clear H
   have H := H1
   clear H1
   obtain rfl := Option.some.inj H
   go_enter Tryz.func41, Tryz.ntmps41
   go_wp2_with (first | ((with_reducible refine gate_dst (N := 2) rfl ?_); refine bx_ 2 #[.bool a0_0, .int .u64 a0_1, .int .u64 a0_2, .int .i64 a0_3] 28 ?_; intro gb209 hg w28 hbox hb; have BK209 := Aside0.mk (hbox); have GW209 := gw_ HB hg; have GE209 := gw_ HB hg; replace HB := bs_ HB hb; clear hb hbox hg) | ((with_reducible refine gate_dst (N := 3) rfl ?_); refine bx_ 3 #[.bool a1_0, .int .u64 a1_1, .int .u64 a1_2, .int .i64 a1_3] 28 ?_; intro gb210 hg w29 hbox hb; have BK210 := Aside0.mk (hbox); have GW210 := gw_ HB hg; have GE210 := gw_ HB hg; have NB209_210 := nl_ BK209 hg; have NB210_209 := ng_ BK209 hg; replace BK209 := bb_ BK209 hb; replace HB := bs_ HB hb; clear hb hbox hg; have hnb30 := NB209_210.out; have hnc30 := NB210_209.out; obtain ⟨hcz31_0, hcz31_1, hcz31_2, hcz31_3, hfz31_0, hfz31_1, hfz31_2, hfz31_3⟩ := c4_ BK209) | ((with_reducible refine gate_callee (f := 90) rfl ?_); refine gl_ (some 6) Tryz.func90 #[.agg #[.bool a0_0, .int .u64 a0_1, .int .u64 a0_2, .int .i64 a0_3]] ?_; (with_reducible refine (prefix_Right.calls a0_0 a0_1 a0_2 a0_3 true _ A3.out).mono ?_); rintro e w32 ⟨rfl, hb⟩; refine ⟨_, rfl, ?_⟩; replace BK209 := bb_ BK209 hb; replace BK210 := bb_ BK210 hb; replace HB := bs_ HB hb; (try clear hb); (try clear hb2); (try clear hk); (try clear hi); obtain ⟨hcz33_0, hcz33_1, hcz33_2, hcz33_3, hfz33_0, hfz33_1, hfz33_2, hfz33_3⟩ := c4_ BK210) | (go_at_call 90; (with_reducible refine (prefix_Right.calls a1_0 a1_1 a1_2 a1_3 false _ A5.out).mono ?_); rintro e w34 ⟨rfl, hb⟩; replace BK209 := bb_ BK209 hb; replace BK210 := bb_ BK210 hb; replace HB := bs_ HB hb; (try clear hb); (try clear hb2); (try clear hk); (try clear hi)))
   go_ret
   exact ⟨by first | rfl | (simp [errW_none, errW_some] <;> rfl) | (simp [*, errW_none, errW_some] <;> rfl), pb_ HB⟩
 ·
  replace c4 := Bool.eq_false_iff.mpr c4
  subst c4
  have H1 : (some false) = some r := by rw [if_neg (show ¬ (false = true) by decide)] at H; exact H
  clear H
  have H := H1
  clear H1
  obtain rfl := Option.some.inj H
  go_enter Tryz.func41, Tryz.ntmps41
  go_wp2_with (first | ((with_reducible refine gate_dst (N := 2) rfl ?_); refine bx_ 2 #[.bool a0_0, .int .u64 a0_1, .int .u64 a0_2, .int .i64 a0_3] 28 ?_; intro gb209 hg w35 hbox hb; have BK209 := Aside0.mk (hbox); have GW209 := gw_ HB hg; have GE209 := gw_ HB hg; replace HB := bs_ HB hb; clear hb hbox hg) | ((with_reducible refine gate_dst (N := 3) rfl ?_); refine bx_ 3 #[.bool a1_0, .int .u64 a1_1, .int .u64 a1_2, .int .i64 a1_3] 28 ?_; intro gb210 hg w36 hbox hb; have BK210 := Aside0.mk (hbox); have GW210 := gw_ HB hg; have GE210 := gw_ HB hg; have NB209_210 := nl_ BK209 hg; have NB210_209 := ng_ BK209 hg; replace BK209 := bb_ BK209 hb; replace HB := bs_ HB hb; clear hb hbox hg; have hnb37 := NB209_210.out; have hnc37 := NB210_209.out; obtain ⟨hcz38_0, hcz38_1, hcz38_2, hcz38_3, hfz38_0, hfz38_1, hfz38_2, hfz38_3⟩ := c4_ BK209) | ((with_reducible refine gate_callee (f := 90) rfl ?_); refine gl_ (some 6) Tryz.func90 #[.agg #[.bool a0_0, .int .u64 a0_1, .int .u64 a0_2, .int .i64 a0_3]] ?_; (with_reducible refine (prefix_Right.calls a0_0 a0_1 a0_2 a0_3 false _ A3.out).mono ?_); rintro e w39 ⟨rfl, hb⟩; refine ⟨_, rfl, ?_⟩; replace BK209 := bb_ BK209 hb; replace BK210 := bb_ BK210 hb; replace HB := bs_ HB hb; (try clear hb); (try clear hb2); (try clear hk); (try clear hi)))
  go_ret
  exact ⟨by first | rfl | (simp [errW_none, errW_some] <;> rfl) | (simp [*, errW_none, errW_some] <;> rfl), pb_ HB⟩

def prefix_Overlap.f (k : Nat) (a0_0 : Bool) (a0_1 : Int) (a0_2 : Int) (a0_3 : Int) (a1_0 : Bool) (a1_1 : Int) (a1_2 : Int) (a1_3 : Int) : Option (Bool) := (prefix_Within.f k a0_0 a0_1 a0_2 a0_3 a1_0 a1_1 a1_2 a1_3).bind fun t216 => (if t216 = true then (some true) else ((prefix_Within.f k a1_0 a1_1 a1_2 a1_3 a0_0 a0_1 a0_2 a0_3).bind fun t217 => (some t217)))
set_option maxHeartbeats 8000000 in
set_option maxRecDepth 100000 in
theorem prefix_Overlap.calls (k : Nat) (a0_0 : Bool) (a0_1 : Int) (a0_2 : Int) (a0_3 : Int) (a1_0 : Bool) (a1_1 : Int) (a1_2 : Int) (a1_3 : Int) (r : Bool) (w : World) (h : prefix_Overlap.f k a0_0 a0_1 a0_2 a0_3 a1_0 a1_1 a1_2 a1_3 = some r) :
  Calls Tryz.prog 42 #[.agg #[.bool a0_0, .int .u64 a0_1, .int .u64 a0_2, .int .i64 a0_3], .agg #[.bool a1_0, .int .u64 a1_1, .int .u64 a1_2, .int .i64 a1_3]] w fun e w' => e = .returned (.bool r) ∧ Below w.heap.size w w' := by
 have hu28 := Tryz.underlying28
 have HB := Aside0.mk (Below.refl w.heap.size w)
 have H : ((prefix_Within.f k a0_0 a0_1 a0_2 a0_3 a1_0 a1_1 a1_2 a1_3).bind fun t216 => (if t216 = true then (some true) else ((prefix_Within.f k a1_0 a1_1 a1_2 a1_3 a0_0 a0_1 a0_2 a0_3).bind fun t217 => (some t217)))) = some r := h
 clear h
 replace H := Option.bind_eq_some_iff.mp H
 obtain ⟨t216, A30, H⟩ := H
 replace H : (if t216 = true then (some true) else ((prefix_Within.f k a1_0 a1_1 a1_2 a1_3 a0_0 a0_1 a0_2 a0_3).bind fun t217 => (some t217))) = some r := H
 have A3 := Aside0.mk A30
 clear A30
 by_cases c4 : t216 = true
 ·
  subst c4
  rw [if_pos rfl] at H
  obtain rfl := Option.some.inj H
  go_enter Tryz.func42, Tryz.ntmps42
  go_wp2_with (first | ((with_reducible refine gate_dst (N := 2) rfl ?_); refine bx_ 2 #[.bool a0_0, .int .u64 a0_1, .int .u64 a0_2, .int .i64 a0_3] 28 ?_; intro gb214 hg w5 hbox hb; have BK214 := Aside0.mk (hbox); have GW214 := gw_ HB hg; have GE214 := gw_ HB hg; replace HB := bs_ HB hb; clear hb hbox hg) | ((with_reducible refine gate_dst (N := 3) rfl ?_); refine bx_ 3 #[.bool a1_0, .int .u64 a1_1, .int .u64 a1_2, .int .i64 a1_3] 28 ?_; intro gb215 hg w6 hbox hb; have BK215 := Aside0.mk (hbox); have GW215 := gw_ HB hg; have GE215 := gw_ HB hg; have NB214_215 := nl_ BK214 hg; have NB215_214 := ng_ BK214 hg; replace BK214 := bb_ BK214 hb; replace HB := bs_ HB hb; clear hb hbox hg; have hnb7 := NB214_215.out; have hnc7 := NB215_214.out; obtain ⟨hcz8_0, hcz8_1, hcz8_2, hcz8_3, hfz8_0, hfz8_1, hfz8_2, hfz8_3⟩ := c4_ BK214; obtain ⟨hcz9_0, hcz9_1, hcz9_2, hcz9_3, hfz9_0, hfz9_1, hfz9_2, hfz9_3⟩ := c4_ BK215) | ((with_reducible refine gate_callee (f := 41) rfl ?_); refine gl_ (some 7) Tryz.func41 #[.agg #[.bool a0_0, .int .u64 a0_1, .int .u64 a0_2, .int .i64 a0_3], .agg #[.bool a1_0, .int .u64 a1_1, .int .u64 a1_2, .int .i64 a1_3]] ?_; (with_reducible refine (prefix_Within.calls k a0_0 a0_1 a0_2 a0_3 a1_0 a1_1 a1_2 a1_3 true _ A3.out).mono ?_); rintro e w10 ⟨rfl, hb⟩; refine ⟨_, rfl, ?_⟩; replace BK214 := bb_ BK214 hb; replace BK215 := bb_ BK215 hb; replace HB := bs_ HB hb; (try clear hb); (try clear hb2); (try clear hk); (try clear hi)))
  go_ret
  exact ⟨by first | rfl | (simp [errW_none, errW_some] <;> rfl) | (simp [*, errW_none, errW_some] <;> rfl), pb_ HB⟩
 ·
  replace c4 := Bool.eq_false_iff.mpr c4
  subst c4
  have H1 : ((prefix_Within.f k a1_0 a1_1 a1_2 a1_3 a0_0 a0_1 a0_2 a0_3).bind fun t217 => (some t217)) = some r := by rw [if_neg (show ¬ (false = true) by decide)] at H; exact H
  clear H
  have H := H1
  clear H1
  replace H := Option.bind_eq_some_iff.mp H
  obtain ⟨t217, A110, H⟩ := H
  replace H : (some t217) = some r := H
  have A11 := Aside0.mk A110
  clear A110
  obtain rfl := Option.some.inj H
  go_enter Tryz.func42, Tryz.ntmps42
  go_wp2_with (first | ((with_reducible refine gate_dst (N := 2) rfl ?_); refine bx_ 2 #[.bool a0_0, .int .u64 a0_1, .int .u64 a0_2, .int .i64 a0_3] 28 ?_; intro gb214 hg w12 hbox hb; have BK214 := Aside0.mk (hbox); have GW214 := gw_ HB hg; have GE214 := gw_ HB hg; replace HB := bs_ HB hb; clear hb hbox hg) | ((with_reducible refine gate_dst (N := 3) rfl ?_); refine bx_ 3 #[.bool a1_0, .int .u64 a1_1, .int .u64 a1_2, .int .i64 a1_3] 28 ?_; intro gb215 hg w13 hbox hb; have BK215 := Aside0.mk (hbox); have GW215 := gw_ HB hg; have GE215 := gw_ HB hg; have NB214_215 := nl_ BK214 hg; have NB215_214 := ng_ BK214 hg; replace BK214 := bb_ BK214 hb; replace HB := bs_ HB hb; clear hb hbox hg; have hnb14 := NB214_215.out; have hnc14 := NB215_214.out; obtain ⟨hcz15_0, hcz15_1, hcz15_2, hcz15_3, hfz15_0, hfz15_1, hfz15_2, hfz15_3⟩ := c4_ BK214; obtain ⟨hcz16_0, hcz16_1, hcz16_2, hcz16_3, hfz16_0, hfz16_1, hfz16_2, hfz16_3⟩ := c4_ BK215) | ((with_reducible refine gate_callee (f := 41) rfl ?_); refine gl_ (some 7) Tryz.func41 #[.agg #[.bool a0_0, .int .u64 a0_1, .int .u64 a0_2, .int .i64 a0_3], .agg #[.bool a1_0, .int .u64 a1_1, .int .u64 a1_2, .int .i64 a1_3]] ?_; (with_reducible refine (prefix_Within.calls k a0_0 a0_1 a0_2 a0_3 a1_0 a1_1 a1_2 a1_3 false _ A3.out).mono ?_); rintro e w17 ⟨rfl, hb⟩; refine ⟨_, rfl, ?_⟩; replace BK214 := bb_ BK214 hb; replace BK215 := bb_ BK215 hb; replace HB := bs_ HB hb; (try clear hb); (try clear hb2); (try clear hk); (try clear hi); obtain ⟨hcz18_0, hcz18_1, hcz18_2, hcz18_3, hfz18_0, hfz18_1, hfz18_2, hfz18_3⟩ := c4_ BK215; obtain ⟨hcz19_0, hcz19_1, hcz19_2, hcz19_3, hfz19_0, hfz19_1, hfz19_2, hfz19_3⟩ := c4_ BK214) | (go_at_call 41; (with_reducible refine (prefix_Within.calls k a1_0 a1_1 a1_2 a1_3 a0_0 a0_1 a0_2 a0_3 t217 _ A11.out).mono ?_); rintro e w20 ⟨rfl, hb⟩; replace BK214 := bb_ BK214 hb; replace BK215 := bb_ BK215 hb; replace HB := bs_ HB hb; (try clear hb); (try clear hb2); (try clear hk); (try clear hi)))
  go_ret
  exact ⟨by first | rfl | (simp [errW_none, errW_some] <;> rfl) | (simp [*, errW_none, errW_some] <;> rfl), pb_ HB⟩

end Go.Proofs.YtpfilldnfpcpkaaGreatDoor.PPo

namespace Go.Proofs.YtpfilldnfpcpkaaGreatDoor.PPo
open Go.RowKit Go.Proofs.YtpfilldnfpcpkaaGreatDoorW.PrintWords Go.Proofs.YtpfilldnfpcpkaaGreatDoorW.PrintLast Go.Proofs.YtpfilldnfpcpkaaGreatDoorW.PrintMore
attribute [local go_sem] max2_int min2_int max_two min_two max_three min_three max_four min_four   -- for this text's walks alone

mutual
def carve_Span.j0 : Nat → Int → Bool → Bool → Int → Int → Int → Bool → Int → Int → Int → Option (Int × Int × Int × Int × Int)
 | 0, _, _, _, _, _, _, _, _, _, _ => none
 | k + 1, x1, x10, x219000, x219001, x219002, x219003, x220000, x220001, x220002, x220003 => if x10 = true then (some (0, 0, 0, 0, 1)) else ((prefix_Overlap.f k x219000 x219001 x219002 x219003 x220000 x220001 x220002 x220003).bind fun t224 => (if t224 = true then ((prefix_Within.f k x219000 x219001 x219002 x219003 x220000 x220001 x220002 x220003).bind fun t225 => (if t225 = true then (carve_Span.j1 k x1 x219000 x219001 x219002 x219003 x219000 x219001 x219002 x219003) else (carve_Span.j1 k x1 x219000 x219001 x219002 x219003 x220000 x220001 x220002 x220003))) else (some (0, 0, 0, 0, 12))))
def carve_Span.j1 : Nat → Int → Bool → Int → Int → Int → Bool → Int → Int → Int → Option (Int × Int × Int × Int × Int)
 | 0, _, _, _, _, _, _, _, _, _ => none
 | k + 1, x1, x219000, x219001, x219002, x219003, x220000, x220001, x220002, x220003 => (addr_Width.f x219000 x219001 x219002).bind fun t226 => ((carve_below.f x219000 x219001 x219002 x219003 x220000 x220001 x220002 (wrap64 (t226 - x1))).bind fun bt227 => ((prefix_Last.f x220000 x220001 x220002 x220003).bind fun bt229 => ((carve_below.f x219000 x219001 x219002 x219003 bt229.1 bt229.2.1 bt229.2.2 (wrap64 (t226 - x1))).bind fun bt232 => (some (bt227.1, bt227.2, bt232.1, bt232.2, 0)))))
end
def carve_Span.f (k : Nat) (a0_0 : Bool) (a0_1 : Int) (a0_2 : Int) (a0_3 : Int) (a1 : Int) (a2_0 : Bool) (a2_1 : Int) (a2_2 : Int) (a2_3 : Int) : Option (Int × Int × Int × Int × Int) := (carve_cuts.f a0_0 a0_1 a0_2 a0_3 a1).bind fun t222 => (if t222 = true then ((prefix_Right.f a2_0 a2_1 a2_2 a2_3).bind fun t223 => (carve_Span.j0 k a1 (!t223) a0_0 a0_1 a0_2 a0_3 a2_0 a2_1 a2_2 a2_3)) else (carve_Span.j0 k a1 true a0_0 a0_1 a0_2 a0_3 a2_0 a2_1 a2_2 a2_3))
def carve_Span.T8 : Bool × List (List Nat × List Nat) := (true, [([], []), ([], []), ([1], [1]), ([], []), ([0, 2, 3], [0, 2, 3]), ([], []), ([], []), ([6, 4], [6]), ([], []), ([5, 7, 8, 7], [5, 7, 8]), ([4, 9, 0, 1, 2, 3, 4], [4]), ([9, 10, 0, 1, 2, 3, 4, 5, 6, 7, 8, 9, 10], [9]), ([11, 0, 1, 2, 3, 4, 5, 6, 7, 8, 9, 10, 11], [])])
def carve_Span.B8 : List Nat := [0, 0, 2, 0, 15, 0, 0, 95, 0, 511, 1023, 2047, 4095]
theorem carve_Span.tab8 : rtab .any (opsOf Tryz.f139 8) = carve_Span.T8 := by kernel_rfl
theorem carve_Span.bits8 : waitsOk carve_Span.T8.2 carve_Span.B8 = true := by kernel_rfl
set_option maxHeartbeats 8000000 in
set_option maxRecDepth 100000 in
theorem carve_Span.calls (k : Nat) (a0_0 : Bool) (a0_1 : Int) (a0_2 : Int) (a0_3 : Int) (a1 : Int) (a2_0 : Bool) (a2_1 : Int) (a2_2 : Int) (a2_3 : Int) (r1 : Int) (r2 : Int) (r3 : Int) (r4 : Int) (r5 : Int) (w : World) (h : carve_Span.f k a0_0 a0_1 a0_2 a0_3 a1 a2_0 a2_1 a2_2 a2_3 = some (r1, r2, r3, r4, r5)) :
  Calls Tryz.prog 139 #[.agg #[.bool a0_0, .int .u64 a0_1, .int .u64 a0_2, .int .i64 a0_3], .int .i64 a1, .agg #[.bool a2_0, .int .u64 a2_1, .int .u64 a2_2, .int .i64 a2_3]] w fun e w' => e = .returned (.tuple #[.agg #[.int .u64 r1, .int .u64 r2], .agg #[.int .u64 r3, .int .u64 r4], .int .i64 r5]) ∧ Below w.heap.size w w' := by
 have hu28 := Tryz.underlying28
 have hu24 := Tryz.underlying24
 have hu26 := Tryz.underlying26
 have HB := Aside0.mk (Below.refl w.heap.size w)
 have H : ((carve_cuts.f a0_0 a0_1 a0_2 a0_3 a1).bind fun t222 => (if t222 = true then ((prefix_Right.f a2_0 a2_1 a2_2 a2_3).bind fun t223 => (carve_Span.j0 k a1 (!t223) a0_0 a0_1 a0_2 a0_3 a2_0 a2_1 a2_2 a2_3)) else (carve_Span.j0 k a1 true a0_0 a0_1 a0_2 a0_3 a2_0 a2_1 a2_2 a2_3))) = some (r1, r2, r3, r4, r5) := h
 clear h
 have HC4 := Aside0.mk H
 clear H
 go_enter Tryz.func139, Tryz.ntmps139
 go_upto_region 1 with (first | ((with_reducible refine gate_dst (N := 3) rfl ?_); refine bx_ 3 #[.bool a0_0, .int .u64 a0_1, .int .u64 a0_2, .int .i64 a0_3] 28 ?_; intro gb218 hg w5 hbox hb; have BK218 := Aside0.mk (hbox); have GW218 := gw_ HB hg; have GE218 := gw_ HB hg; replace HB := bs_ HB hb; clear hb hbox hg) | ((with_reducible refine gate_dst (N := 5) rfl ?_); refine bx_ 5 #[.bool a2_0, .int .u64 a2_1, .int .u64 a2_2, .int .i64 a2_3] 28 ?_; intro gb219 hg w6 hbox hb; have BK219 := Aside0.mk (hbox); have GW219 := gw_ HB hg; have GE219 := gw_ HB hg; have NB218_219 := nl_ BK218 hg; have NB219_218 := ng_ BK218 hg; replace BK218 := bb_ BK218 hb; replace HB := bs_ HB hb; clear hb hbox hg) | ((with_reducible refine gate_dst (N := 6) rfl ?_); refine bx_ 6 #[.int .u64 0, .int .u64 0] 24 ?_; intro gb220 hg w7 hbox hb; have BK220 := Aside0.mk (hbox); have GW220 := gw_ HB hg; have GE220 := gw_ HB hg; have NB218_220 := nl_ BK218 hg; have NB220_218 := ng_ BK218 hg; have NB219_220 := nl_ BK219 hg; have NB220_219 := ng_ BK219 hg; replace BK218 := bb_ BK218 hb; replace BK219 := bb_ BK219 hb; replace HB := bs_ HB hb; clear hb hbox hg) | ((with_reducible refine gate_dst (N := 7) rfl ?_); refine bx_ 7 #[.int .u64 0, .int .u64 0] 24 ?_; intro gb221 hg w8 hbox hb; have BK221 := Aside0.mk (hbox); have GW221 := gw_ HB hg; have GE221 := gw_ HB hg; have NB218_221 := nl_ BK218 hg; have NB221_218 := ng_ BK218 hg; have NB219_221 := nl_ BK219 hg; have NB221_219 := ng_ BK219 hg; have NB220_221 := nl_ BK220 hg; have NB221_220 := ng_ BK220 hg; replace BK218 := bb_ BK218 hb; replace BK219 := bb_ BK219 hb; replace BK220 := bb_ BK220 hb; replace HB := bs_ HB hb; clear hb hbox hg))
 (try simp only [Act.put, List.setIfInBounds_toArray, List.set_cons_zero, List.set_cons_succ])
 go_cut [10] (fun v10 wc => ∃ (kq : Nat) (x10_3 : Bool), v10 = .bool x10_3 ∧ Aside0 (carve_Span.j0 kq a1 x10_3 a0_0 a0_1 a0_2 a0_3 a2_0 a2_1 a2_2 a2_3 = some (r1, r2, r3, r4, r5)) ∧ Aside0 (kq ≤ k) ∧ Aside0 (wc.heap[gb218]? = some (.cells #[.bool a0_0, .int .u64 a0_1, .int .u64 a0_2, .int .i64 a0_3] 28 (0, 0))) ∧ Aside0 (wc.heap[gb219]? = some (.cells #[.bool a2_0, .int .u64 a2_1, .int .u64 a2_2, .int .i64 a2_3] 28 (0, 0))) ∧ Aside0 (wc.heap[gb220]? = some (.cells #[.int .u64 0, .int .u64 0] 24 (0, 0))) ∧ Aside0 (wc.heap[gb221]? = some (.cells #[.int .u64 0, .int .u64 0] 24 (0, 0))) ∧ Aside0 (Below w.heap.size w wc))
 case first =>
  have H := HC4.out
  clear HC4
  replace H := Option.bind_eq_some_iff.mp H
  obtain ⟨t222, A90, H⟩ := H
  replace H : (if t222 = true then ((prefix_Right.f a2_0 a2_1 a2_2 a2_3).bind fun t223 => (carve_Span.j0 k a1 (!t223) a0_0 a0_1 a0_2 a0_3 a2_0 a2_1 a2_2 a2_3)) else (carve_Span.j0 k a1 true a0_0 a0_1 a0_2 a0_3 a2_0 a2_1 a2_2 a2_3)) = some (r1, r2, r3, r4, r5) := H
  have A9 := Aside0.mk A90
  clear A90
  by_cases c10 : t222 = true
  ·
   subst c10
   rw [if_pos rfl] at H
   replace H := Option.bind_eq_some_iff.mp H
   obtain ⟨t223, A110, H⟩ := H
   replace H : (carve_Span.j0 k a1 (!t223) a0_0 a0_1 a0_2 a0_3 a2_0 a2_1 a2_2 a2_3) = some (r1, r2, r3, r4, r5) := H
   have A11 := Aside0.mk A110
   clear A110
   have H' := Aside0.mk H
   clear H
   have hnb12 := NB218_219.out
   have hnc12 := NB219_218.out
   have hnb13 := NB218_220.out
   have hnc13 := NB220_218.out
   have hnb14 := NB218_221.out
   have hnc14 := NB221_218.out
   obtain ⟨hcz15_0, hcz15_1, hcz15_2, hcz15_3, hfz15_0, hfz15_1, hfz15_2, hfz15_3⟩ := c4_ BK218
   go_wp2_with (first | ((with_reducible refine gate_callee (f := 137) rfl ?_); refine gl_ (some 13) Tryz.func137 #[.agg #[.bool a0_0, .int .u64 a0_1, .int .u64 a0_2, .int .i64 a0_3], .int .i64 a1] ?_; (with_reducible refine (carve_cuts.calls a0_0 a0_1 a0_2 a0_3 a1 true _ A9.out).mono ?_); rintro e w16 ⟨rfl, hb⟩; refine ⟨_, rfl, ?_⟩; replace BK218 := bb_ BK218 hb; replace BK219 := bb_ BK219 hb; replace BK220 := bb_ BK220 hb; replace BK221 := bb_ BK221 hb; replace HB := bs_ HB hb; (try clear hb); (try clear hb2); (try clear hk); (try clear hi); have hnb17 := NB219_220.out; have hnc17 := NB220_219.out; have hnb18 := NB219_221.out; have hnc18 := NB221_219.out; obtain ⟨hcz19_0, hcz19_1, hcz19_2, hcz19_3, hfz19_0, hfz19_1, hfz19_2, hfz19_3⟩ := c4_ BK219) | (go_at_call 90; (with_reducible refine (prefix_Right.calls a2_0 a2_1 a2_2 a2_3 t223 _ A11.out).mono ?_); rintro e w20 ⟨rfl, hb⟩; replace BK218 := bb_ BK218 hb; replace BK219 := bb_ BK219 hb; replace BK220 := bb_ BK220 hb; replace BK221 := bb_ BK221 hb; replace HB := bs_ HB hb; (try clear hb); (try clear hb2); (try clear hk); (try clear hi)))
   go_meet
   case rel => exact ⟨_, (!t223), (by first | rfl | (simp; done) | (simp [*]; done)), H', ⟨by first | omega | exact Nat.le_refl _⟩, ⟨by refine pw_ ?_; exact BK218.out⟩, ⟨by refine pw_ ?_; exact BK219.out⟩, ⟨by refine pw_ ?_; exact BK220.out⟩, ⟨by refine pw_ ?_; exact BK221.out⟩, ⟨pb_ HB⟩⟩
  ·
   replace c10 := Bool.eq_false_iff.mpr c10
   subst c10
   have H1 : (carve_Span.j0 k a1 true a0_0 a0_1 a0_2 a0_3 a2_0 a2_1 a2_2 a2_3) = some (r1, r2, r3, r4, r5) := by rw [if_neg (show ¬ (false = true) by decide)] at H; exact H
   clear H
   have H := H1
   clear H1
   have H' := Aside0.mk H
   clear H
   have hnb21 := NB218_219.out
   have hnc21 := NB219_218.out
   have hnb22 := NB218_220.out
   have hnc22 := NB220_218.out
   have hnb23 := NB218_221.out
   have hnc23 := NB221_218.out
   obtain ⟨hcz24_0, hcz24_1, hcz24_2, hcz24_3, hfz24_0, hfz24_1, hfz24_2, hfz24_3⟩ := c4_ BK218
   go_wp2_with (first | ((with_reducible refine gate_callee (f := 137) rfl ?_); refine gl_ (some 13) Tryz.func137 #[.agg #[.bool a0_0, .int .u64 a0_1, .int .u64 a0_2, .int .i64 a0_3], .int .i64 a1] ?_; (with_reducible refine (carve_cuts.calls a0_0 a0_1 a0_2 a0_3 a1 false _ A9.out).mono ?_); rintro e w25 ⟨rfl, hb⟩; refine ⟨_, rfl, ?_⟩; replace BK218 := bb_ BK218 hb; replace BK219 := bb_ BK219 hb; replace BK220 := bb_ BK220 hb; replace BK221 := bb_ BK221 hb; replace HB := bs_ HB hb; (try clear hb); (try clear hb2); (try clear hk); (try clear hi)))
   go_meet
   case rel => exact ⟨_, (true), (by first | rfl | (simp; done) | (simp [*]; done)), H', ⟨by first | omega | exact Nat.le_refl _⟩, ⟨by refine pw_ ?_; exact BK218.out⟩, ⟨by refine pw_ ?_; exact BK219.out⟩, ⟨by refine pw_ ?_; exact BK220.out⟩, ⟨by refine pw_ ?_; exact BK221.out⟩, ⟨pb_ HB⟩⟩
 case rest =>
  clear HC4
  try clear c1
  try clear c2
  try clear p2
  try clear c10
  try clear c12
  try clear c13
  try clear c14
  try clear c17
  try clear c18
  try clear c21
  try clear c22
  try clear c23
  try clear hcz15_0
  try clear hcz15_1
  try clear hcz15_2
  try clear hcz15_3
  try clear hcz19_0
  try clear hcz19_1
  try clear hcz19_2
  try clear hcz19_3
  try clear hcz24_0
  try clear hcz24_1
  try clear hcz24_2
  try clear hcz24_3
  try clear hfz15_0
  try clear hfz15_1
  try clear hfz15_2
  try clear hfz15_3
  try clear hfz19_0
  try clear hfz19_1
  try clear hfz19_2
  try clear hfz19_3
  try clear hfz24_0
  try clear hfz24_1
  try clear hfz24_2
  try clear hfz24_3
  obtain ⟨kq, x10_3, rfl, HA, HJ3, BK218, BK219, BK220, BK221, HB⟩ := hcut
  cases kq with
  | zero => exact absurd HA.out (by simp [carve_Span.j0])
  | succ kj3 =>
   have H := HA.out
   clear HA
   simp only [carve_Span.j0] at H
   by_cases c26 : x10_3 = true
   ·
    subst c26
    rw [if_pos rfl] at H
    simp only [Option.some.injEq, Prod.mk.injEq] at H
    obtain ⟨rfl, rfl, rfl, rfl, rfl⟩ := H
    have hnb27 := NB220_218.out
    have hnc27 := NB218_220.out
    have hnb28 := NB220_219.out
    have hnc28 := NB219_220.out
    have hnb29 := NB220_221.out
    have hnc29 := NB221_220.out
    obtain ⟨hcz30_0, hcz30_1, hfz30_0, hfz30_1⟩ := c2_ BK220
    have hnb31 := NB221_218.out
    have hnc31 := NB218_221.out
    have hnb32 := NB221_219.out
    have hnc32 := NB219_221.out
    obtain ⟨hcz33_0, hcz33_1, hfz33_0, hfz33_1⟩ := c2_ BK221
    go_wp2
    refine bodyPost_ret (results_list (rs := [.cell 6 24, .cell 7 24, .tmp 8]) rfl (by simp) (.cell gb220 24 #[.int .u64 0, .int .u64 0] (0, 0) _ rfl (by refine pw_ ?_; refine blk_far ?_ NB220_221.out _; refine pw_ ?_; refine blk_far ?_ NB220_221.out _; refine pw_ ?_; refine blk_put (cs := #[.int .u64 0, .int .u64 0]) ?_ 1 _ rfl; refine pw_ ?_; refine blk_put (cs := #[.int .u64 0, .int .u64 0]) ?_ 0 _ rfl; refine pw_ ?_; exact BK220.out) Tryz.underlying24 rfl (by kernel_rfl) (.cell gb221 24 #[.int .u64 0, .int .u64 0] (0, 0) _ rfl (by refine pw_ ?_; refine blk_put (cs := #[.int .u64 0, .int .u64 0]) ?_ 1 _ rfl; refine pw_ ?_; refine blk_put (cs := #[.int .u64 0, .int .u64 0]) ?_ 0 _ rfl; refine pw_ ?_; refine blk_far ?_ NB221_220.out _; refine pw_ ?_; refine blk_far ?_ NB221_220.out _; refine pw_ ?_; exact BK221.out) Tryz.underlying24 rfl (by kernel_rfl) (.tmp .nil)))) rfl ?_
    exact ⟨by first | rfl | (simp [errW_none, errW_some] <;> rfl) | (simp [*, errW_none, errW_some] <;> rfl), pb_ HB⟩
   ·
    replace c26 := Bool.eq_false_iff.mpr c26
    subst c26
    have H1 : ((prefix_Overlap.f kj3 a0_0 a0_1 a0_2 a0_3 a2_0 a2_1 a2_2 a2_3).bind fun t224 => (if t224 = true then ((prefix_Within.f kj3 a0_0 a0_1 a0_2 a0_3 a2_0 a2_1 a2_2 a2_3).bind fun t225 => (if t225 = true then (carve_Span.j1 kj3 a1 a0_0 a0_1 a0_2 a0_3 a0_0 a0_1 a0_2 a0_3) else (carve_Span.j1 kj3 a1 a0_0 a0_1 a0_2 a0_3 a2_0 a2_1 a2_2 a2_3))) else (some (0, 0, 0, 0, 12)))) = some (r1, r2, r3, r4, r5) := by rw [if_neg (show ¬ (false = true) by decide)] at H; exact H
    clear H
    have H := H1
    clear H1
    replace H := Option.bind_eq_some_iff.mp H
    obtain ⟨t224, A340, H⟩ := H
    replace H : (if t224 = true then ((prefix_Within.f kj3 a0_0 a0_1 a0_2 a0_3 a2_0 a2_1 a2_2 a2_3).bind fun t225 => (if t225 = true then (carve_Span.j1 kj3 a1 a0_0 a0_1 a0_2 a0_3 a0_0 a0_1 a0_2 a0_3) else (carve_Span.j1 kj3 a1 a0_0 a0_1 a0_2 a0_3 a2_0 a2_1 a2_2 a2_3))) else (some (0, 0, 0, 0, 12))) = some (r1, r2, r3, r4, r5) := H
    have A34 := Aside0.mk A340
    clear A340
    by_cases c35 : t224 = true
    ·
     subst c35
     rw [if_pos rfl] at H
     replace H := Option.bind_eq_some_iff.mp H
     obtain ⟨t225, A360, H⟩ := H
     replace H : (if t225 = true then (carve_Span.j1 kj3 a1 a0_0 a0_1 a0_2 a0_3 a0_0 a0_1 a0_2 a0_3) else (carve_Span.j1 kj3 a1 a0_0 a0_1 a0_2 a0_3 a2_0 a2_1 a2_2 a2_3)) = some (r1, r2, r3, r4, r5) := H
     have A36 := Aside0.mk A360
     clear A360
     have HC37 := Aside0.mk H
     clear H
     have hnb38 := NB218_219.out
     have hnc38 := NB219_218.out
     have hnb39 := NB218_220.out
     have hnc39 := NB220_218.out
     have hnb40 := NB218_221.out
     have hnc40 := NB221_218.out
     obtain ⟨hcz41_0, hcz41_1, hcz41_2, hcz41_3, hfz41_0, hfz41_1, hfz41_2, hfz41_3⟩ := c4_ BK218
     have hnb42 := NB219_220.out
     have hnc42 := NB220_219.out
     have hnb43 := NB219_221.out
     have hnc43 := NB221_219.out
     obtain ⟨hcz44_0, hcz44_1, hcz44_2, hcz44_3, hfz44_0, hfz44_1, hfz44_2, hfz44_3⟩ := c4_ BK219
     go_upto_if 31 with (first | ((with_reducible refine gate_callee (f := 42) rfl ?_); refine gl_ (some 25) Tryz.func42 #[.agg #[.bool a0_0, .int .u64 a0_1, .int .u64 a0_2, .int .i64 a0_3], .agg #[.bool a2_0, .int .u64 a2_1, .int .u64 a2_2, .int .i64 a2_3]] ?_; (with_reducible refine (prefix_Overlap.calls kj3 a0_0 a0_1 a0_2 a0_3 a2_0 a2_1 a2_2 a2_3 true _ A34.out).mono ?_); rintro e w45 ⟨rfl, hb⟩; refine ⟨_, rfl, ?_⟩; replace BK218 := bb_ BK218 hb; replace BK219 := bb_ BK219 hb; replace BK220 := bb_ BK220 hb; replace BK221 := bb_ BK221 hb; replace HB := bs_ HB hb; (try clear hb); (try clear hb2); (try clear hk); (try clear hi); obtain ⟨hcz46_0, hcz46_1, hcz46_2, hcz46_3, hfz46_0, hfz46_1, hfz46_2, hfz46_3⟩ := c4_ BK218; obtain ⟨hcz47_0, hcz47_1, hcz47_2, hcz47_3, hfz47_0, hfz47_1, hfz47_2, hfz47_3⟩ := c4_ BK219) | ((with_reducible refine gate_callee (f := 41) rfl ?_); refine gl_ (some 31) Tryz.func41 #[.agg #[.bool a0_0, .int .u64 a0_1, .int .u64 a0_2, .int .i64 a0_3], .agg #[.bool a2_0, .int .u64 a2_1, .int .u64 a2_2, .int .i64 a2_3]] ?_; (with_reducible refine (prefix_Within.calls kj3 a0_0 a0_1 a0_2 a0_3 a2_0 a2_1 a2_2 a2_3 t225 _ A36.out).mono ?_); rintro e w48 ⟨rfl, hb⟩; refine ⟨_, rfl, ?_⟩; replace BK218 := bb_ BK218 hb; replace BK219 := bb_ BK219 hb; replace BK220 := bb_ BK220 hb; replace BK221 := bb_ BK221 hb; replace HB := bs_ HB hb; (try clear hb); (try clear hb2); (try clear hk); (try clear hi)))
     (try simp only [Act.put, List.setIfInBounds_toArray, List.set_cons_zero, List.set_cons_succ])
     go_cut [] (fun wc => ∃ (kq : Nat) (x220000_36 : Bool) (x220001_36 : Int) (x220002_36 : Int) (x220003_36 : Int), Aside0 (carve_Span.j1 kq a1 a0_0 a0_1 a0_2 a0_3 x220000_36 x220001_36 x220002_36 x220003_36 = some (r1, r2, r3, r4, r5)) ∧ Aside0 (kq ≤ kj3) ∧ Aside0 (wc.heap[gb218]? = some (.cells #[.bool a0_0, .int .u64 a0_1, .int .u64 a0_2, .int .i64 a0_3] 28 (0, 0))) ∧ Aside0 (wc.heap[gb219]? = some (.cells #[.bool x220000_36, .int .u64 x220001_36, .int .u64 x220002_36, .int .i64 x220003_36] 28 (0, 0))) ∧ Aside0 (wc.heap[gb220]? = some (.cells #[.int .u64 0, .int .u64 0] 24 (0, 0))) ∧ Aside0 (wc.heap[gb221]? = some (.cells #[.int .u64 0, .int .u64 0] 24 (0, 0))) ∧ Aside0 (Below w.heap.size w wc))
     case first =>
      have H := HC37.out
      clear HC37
      by_cases c49 : t225 = true
      ·
       subst c49
       rw [if_pos rfl] at H
       have H' := Aside0.mk H
       clear H
       have hnb50 := NB218_219.out
       have hnc50 := NB219_218.out
       have hnb51 := NB218_220.out
       have hnc51 := NB220_218.out
       have hnb52 := NB218_221.out
       have hnc52 := NB221_218.out
       obtain ⟨hcz53_0, hcz53_1, hcz53_2, hcz53_3, hfz53_0, hfz53_1, hfz53_2, hfz53_3⟩ := c4_ BK218
       have hnb54 := NB219_220.out
       have hnc54 := NB220_219.out
       have hnb55 := NB219_221.out
       have hnc55 := NB221_219.out
       obtain ⟨hcz56_0, hcz56_1, hcz56_2, hcz56_3, hfz56_0, hfz56_1, hfz56_2, hfz56_3⟩ := c4_ BK219
       go_wp2
       go_meet
       case rel => exact ⟨_, (a0_0), (a0_1), (a0_2), (a0_3), H', ⟨by have := HJ3.out; first | omega | exact Nat.le_refl _⟩, ⟨by refine pw_ ?_; refine blk_far ?_ NB218_219.out _; refine pw_ ?_; refine blk_far ?_ NB218_219.out _; refine pw_ ?_; refine blk_far ?_ NB218_219.out _; refine pw_ ?_; refine blk_far ?_ NB218_219.out _; refine pw_ ?_; exact BK218.out⟩, ⟨by refine pw_ ?_; refine blk_put (cs := #[.bool a0_0, .int .u64 a0_1, .int .u64 a0_2, .int .i64 a2_3]) ?_ 3 _ rfl; refine pw_ ?_; refine blk_put (cs := #[.bool a0_0, .int .u64 a0_1, .int .u64 a2_2, .int .i64 a2_3]) ?_ 2 _ rfl; refine pw_ ?_; refine blk_put (cs := #[.bool a0_0, .int .u64 a2_1, .int .u64 a2_2, .int .i64 a2_3]) ?_ 1 _ rfl; refine pw_ ?_; refine blk_put (cs := #[.bool a2_0, .int .u64 a2_1, .int .u64 a2_2, .int .i64 a2_3]) ?_ 0 _ rfl; refine pw_ ?_; exact BK219.out⟩, ⟨by refine pw_ ?_; refine blk_far ?_ NB220_219.out _; refine pw_ ?_; refine blk_far ?_ NB220_219.out _; refine pw_ ?_; refine blk_far ?_ NB220_219.out _; refine pw_ ?_; refine blk_far ?_ NB220_219.out _; refine pw_ ?_; exact BK220.out⟩, ⟨by refine pw_ ?_; refine blk_far ?_ NB221_219.out _; refine pw_ ?_; refine blk_far ?_ NB221_219.out _; refine pw_ ?_; refine blk_far ?_ NB221_219.out _; refine pw_ ?_; refine blk_far ?_ NB221_219.out _; refine pw_ ?_; exact BK221.out⟩, ⟨pb_ HB⟩⟩
      ·
       replace c49 := Bool.eq_false_iff.mpr c49
       subst c49
       have H1 : (carve_Span.j1 kj3 a1 a0_0 a0_1 a0_2 a0_3 a2_0 a2_1 a2_2 a2_3) = some (r1, r2, r3, r4, r5) := by rw [if_neg (show ¬ (false = true) by decide)] at H; exact H
       clear H
       have H := H1
       clear H1
       have H' := Aside0.mk H
       clear H
       go_wp2
       go_meet
       case rel => exact ⟨_, (a2_0), (a2_1), (a2_2), (a2_3), H', ⟨by have := HJ3.out; first | omega | exact Nat.le_refl _⟩, ⟨by refine pw_ ?_; exact BK218.out⟩, ⟨by refine pw_ ?_; exact BK219.out⟩, ⟨by refine pw_ ?_; exact BK220.out⟩, ⟨by refine pw_ ?_; exact BK221.out⟩, ⟨pb_ HB⟩⟩
     case rest =>
      clear HC37
      try clear c1
      try clear c2
      try clear p2
      try clear c3
      try clear c4
      try clear c5
      try clear c10
      try clear c12
      try clear c13
      try clear c14
      try clear c17
      try clear c18
      try clear c21
      try clear c22
      try clear c23
      try clear c26
      try clear c27
      try clear c28
      try clear c29
      try clear c31
      try clear c32
      try clear c35
      try clear c38
      try clear c39
      try clear c40
      try clear c41
      try clear c42
      try clear c43
      try clear c49
      try clear c50
      try clear c51
      try clear c52
      try clear c54
      try clear c55
      try clear hcz15_0
      try clear hcz15_1
      try clear hcz15_2
      try clear hcz15_3
      try clear hcz19_0
      try clear hcz19_1
      try clear hcz19_2
      try clear hcz19_3
      try clear hcz24_0
      try clear hcz24_1
      try clear hcz24_2
      try clear hcz24_3
      try clear hcz30_0
      try clear hcz30_1
      try clear hcz33_0
      try clear hcz33_1
      try clear hcz41_0
      try clear hcz41_1
      try clear hcz41_2
      try clear hcz41_3
      try clear hcz44_0
      try clear hcz44_1
      try clear hcz44_2
      try clear hcz44_3
      try clear hcz46_0
      try clear hcz46_1
      try clear hcz46_2
      try clear hcz46_3
      try clear hcz47_0
      try clear hcz47_1
      try clear hcz47_2
      try clear hcz47_3
      try clear hcz53_0
      try clear hcz53_1
      try clear hcz53_2
      try clear hcz53_3
      try clear hcz56_0
      try clear hcz56_1
      try clear hcz56_2
      try clear hcz56_3
      try clear hfz15_0
      try clear hfz15_1
      try clear hfz15_2
      try clear hfz15_3
      try clear hfz19_0
      try clear hfz19_1
      try clear hfz19_2
      try clear hfz19_3
      try clear hfz24_0
      try clear hfz24_1
      try clear hfz24_2
      try clear hfz24_3
      try clear hfz30_0
      try clear hfz30_1
      try clear hfz33_0
      try clear hfz33_1
      try clear hfz41_0
      try clear hfz41_1
      try clear hfz41_2
      try clear hfz41_3
      try clear hfz44_0
      try clear hfz44_1
      try clear hfz44_2
      try clear hfz44_3
      try clear hfz46_0
      try clear hfz46_1
      try clear hfz46_2
      try clear hfz46_3
      try clear hfz47_0
      try clear hfz47_1
      try clear hfz47_2
      try clear hfz47_3
      try clear hfz53_0
      try clear hfz53_1
      try clear hfz53_2
      try clear hfz53_3
      try clear hfz56_0
      try clear hfz56_1
      try clear hfz56_2
      try clear hfz56_3
      try clear p2
      obtain ⟨kq, x220000_36, x220001_36, x220002_36, x220003_36, HA, HJ36, BK218, BK219, BK220, BK221, HB⟩ := hcut
      cases kq with
      | zero => exact absurd HA.out (by simp [carve_Span.j1])
      | succ kj36 =>
       have H := HA.out
       clear HA
       simp only [carve_Span.j1] at H
       replace H := Option.bind_eq_some_iff.mp H
       obtain ⟨t226, A570, H⟩ := H
       replace H : ((carve_below.f a0_0 a0_1 a0_2 a0_3 x220000_36 x220001_36 x220002_36 (wrap64 (t226 - a1))).bind fun bt227 => ((prefix_Last.f x220000_36 x220001_36 x220002_36 x220003_36).bind fun bt229 => ((carve_below.f a0_0 a0_1 a0_2 a0_3 bt229.1 bt229.2.1 bt229.2.2 (wrap64 (t226 - a1))).bind fun bt232 => (some (bt227.1, bt227.2, bt232.1, bt232.2, 0))))) = some (r1, r2, r3, r4, r5) := H
       have A57 := Aside0.mk A570
       clear A570
       replace H := Option.bind_eq_some_iff.mp H
       obtain ⟨⟨t227, t228⟩, A580, H⟩ := H
       replace H : ((prefix_Last.f x220000_36 x220001_36 x220002_36 x220003_36).bind fun bt229 => ((carve_below.f a0_0 a0_1 a0_2 a0_3 bt229.1 bt229.2.1 bt229.2.2 (wrap64 (t226 - a1))).bind fun bt232 => (some (t227, t228, bt232.1, bt232.2, 0)))) = some (r1, r2, r3, r4, r5) := H
       have A58 := Aside0.mk A580
       clear A580
       replace H := Option.bind_eq_some_iff.mp H
       obtain ⟨⟨t229, t230, t231⟩, A590, H⟩ := H
       replace H : ((carve_below.f a0_0 a0_1 a0_2 a0_3 t229 t230 t231 (wrap64 (t226 - a1))).bind fun bt232 => (some (t227, t228, bt232.1, bt232.2, 0))) = some (r1, r2, r3, r4, r5) := H
       have A59 := Aside0.mk A590
       clear A590
       replace H := Option.bind_eq_some_iff.mp H
       obtain ⟨⟨t232, t233⟩, A600, H⟩ := H
       replace H : (some (t227, t228, t232, t233, 0)) = some (r1, r2, r3, r4, r5) := H
       have A60 := Aside0.mk A600
       clear A600
       simp only [Option.some.injEq, Prod.mk.injEq] at H
       obtain ⟨rfl, rfl, rfl, rfl, rfl⟩ := H
       have hnb61 := NB218_219.out
       have hnc61 := NB219_218.out
       have hnb62 := NB218_220.out
       have hnc62 := NB220_218.out
       have hnb63 := NB218_221.out
       have hnc63 := NB221_218.out
       obtain ⟨hcz64_0, hcz64_1, hcz64_2, hcz64_3, hfz64_0, hfz64_1, hfz64_2, hfz64_3⟩ := c4_ BK218
       try go_wp2_with (first | ((with_reducible refine gate_callee (f := 132) rfl ?_); refine gl_ (some 35) Tryz.func132 #[.agg #[.bool a0_0, .int .u64 a0_1, .int .u64 a0_2]] ?_; (with_reducible refine (addr_Width.calls a0_0 a0_1 a0_2 t226 _ A57.out).mono ?_); rintro e w65 ⟨rfl, hb⟩; refine ⟨_, rfl, ?_⟩; replace BK218 := bb_ BK218 hb; replace BK219 := bb_ BK219 hb; replace BK220 := bb_ BK220 hb; replace BK221 := bb_ BK221 hb; replace HB := bs_ HB hb; (try clear hb); (try clear hb2); (try clear hk); (try clear hi)))
       replace BK218 := Aside0.mk (blk_drew BK218.out)
       replace BK219 := Aside0.mk (blk_drew BK219.out)
       replace BK220 := Aside0.mk (blk_drew BK220.out)
       replace BK221 := Aside0.mk (blk_drew BK221.out)
       replace HB := Aside0.mk (below_drew1 HB.out)
       refine start_ (n := 13) (S := fun w' => w'.cell? ⟨gb218, 0, none⟩ = some (.bool a0_0) ∧ w'.cell? ⟨gb218, 1, none⟩ = some (.int .u64 a0_1) ∧ w'.cell? ⟨gb218, 2, none⟩ = some (.int .u64 a0_2) ∧ w'.cell? ⟨gb218, 3, none⟩ = some (.int .i64 a0_3) ∧ w'.cell? ⟨gb219, 0, none⟩ = some (.bool x220000_36) ∧ w'.cell? ⟨gb219, 1, none⟩ = some (.int .u64 x220001_36) ∧ w'.cell? ⟨gb219, 2, none⟩ = some (.int .u64 x220002_36) ∧ w'.cell? ⟨gb219, 3, none⟩ = some (.int .i64 x220003_36)) (ds := []) (bm_ 13 0) (by kernel_rfl) rfl rfl ⟨kc_ BK218 0, kc_ BK218 1, kc_ BK218 2, kc_ BK218 3, kc_ BK219 0, kc_ BK219 1, kc_ BK219 2, kc_ BK219 3⟩ (fun hHeld => ?_); refine with_tabW carve_Span.tab8 carve_Span.bits8 (fun HT_ HW_ => ?_)
       generalize w65.drew = w66 at BK218 BK219 BK220 BK221 HB hHeld ⊢
       refine pu_ 1 (some 39) (bm_ 13 2) rfl HT_ ⟨by rfl, by intro w'; go_simp; with_reducible rfl⟩ ?_
       refine pu_ 3 (some 41) (bm_ 13 10) rfl HT_ ⟨by rfl, by intro w'; go_simp; with_reducible rfl⟩ ?_
       refine pu_ 8 (some 46) (bm_ 13 266) rfl HT_ ⟨by rfl, by intro w'; go_simp; with_reducible rfl⟩ ?_
       refine ta_ 0 (some 38) (bm_ 13 267) rfl HT_ HW_ ⟨by rfl, by rintro w' ⟨s0, s1, s2, s3, s4, s5, s6, s7⟩; go_simp; with_reducible rfl⟩ hHeld ?_
       refine ta_ 2 (some 40) (bm_ 13 271) rfl HT_ HW_ ⟨by rfl, by rintro w' ⟨s0, s1, s2, s3, s4, s5, s6, s7⟩; go_simp; with_reducible rfl⟩ hHeld ?_
       refine ta_ 5 (some 43) (bm_ 13 303) rfl HT_ HW_ ⟨by rfl, by rintro w' ⟨s0, s1, s2, s3, s4, s5, s6, s7⟩; go_simp; with_reducible rfl⟩ hHeld ?_
       refine ta_ 6 (some 44) (bm_ 13 367) rfl HT_ HW_ ⟨by rfl, by rintro w' ⟨s0, s1, s2, s3, s4, s5, s6, s7⟩; go_simp; with_reducible rfl⟩ hHeld ?_
       refine one_ (i := 4) (N := some 42) (bm_ 13 383) rfl rfl (one_of HT_.out (by kernel_rfl)) (by decide) (fun K hK => ?_)
       refine gr_ Tryz.func161 #[.agg #[.bool a0_0, .int .u64 a0_1, .int .u64 a0_2, .int .i64 a0_3], .agg #[.bool x220000_36, .int .u64 x220001_36, .int .u64 x220002_36], .int .i64 (wrap64 (t226 - a1))] ?_
       with_reducible refine (carve_below.calls a0_0 a0_1 a0_2 a0_3 x220000_36 x220001_36 x220002_36 (wrap64 (t226 - a1)) t227 t228 _ A58.out).mono ?_
       rintro e w67 ⟨rfl, hb⟩
       refine ⟨_, rfl, ?_⟩
       replace BK218 := bb_ BK218 hb
       replace BK219 := bb_ BK219 hb
       replace BK220 := bb_ BK220 hb
       replace BK221 := bb_ BK221 hb
       replace HB := bs_ HB hb
       (try clear hb)
       (try clear hb2)
       (try clear hk)
       (try clear hi)
       refine hK.out _ _ ⟨kc_ BK218 0, kc_ BK218 1, kc_ BK218 2, kc_ BK218 3, kc_ BK219 0, kc_ BK219 1, kc_ BK219 2, kc_ BK219 3⟩ (fun hHeld => ?_)
       clear hK K
       refine norm_ (a' := ?_) ?_ ?_
       rotate_left
       ·
        show Act.put _ (some 42) _ = _
        simp only [Act.put, List.setIfInBounds_toArray, List.set_cons_zero, List.set_cons_succ, i64_w, i32_w]
        rfl
       refine one_ (i := 7) (N := some 45) (bm_ 13 511) rfl rfl (one_of HT_.out (by kernel_rfl)) (by decide) (fun K hK => ?_)
       refine gr_ Tryz.func34 #[.agg #[.bool x220000_36, .int .u64 x220001_36, .int .u64 x220002_36, .int .i64 x220003_36]] ?_
       with_reducible refine (prefix_Last.calls x220000_36 x220001_36 x220002_36 x220003_36 t229 t230 t231 _ A59.out).mono ?_
       rintro e w68 ⟨rfl, hb⟩
       refine ⟨_, rfl, ?_⟩
       replace BK218 := bb_ BK218 hb
       replace BK219 := bb_ BK219 hb
       replace BK220 := bb_ BK220 hb
       replace BK221 := bb_ BK221 hb
       replace HB := bs_ HB hb
       (try clear hb)
       (try clear hb2)
       (try clear hk)
       (try clear hi)
       refine hK.out _ _ ⟨kc_ BK218 0, kc_ BK218 1, kc_ BK218 2, kc_ BK218 3, kc_ BK219 0, kc_ BK219 1, kc_ BK219 2, kc_ BK219 3⟩ (fun hHeld => ?_)
       clear hK K
       refine norm_ (a' := ?_) ?_ ?_
       rotate_left
       ·
        show Act.put _ (some 45) _ = _
        simp only [Act.put, List.setIfInBounds_toArray, List.set_cons_zero, List.set_cons_succ, i64_w, i32_w]
        rfl
       refine one_ (i := 9) (N := some 47) (bm_ 13 1023) rfl rfl (one_of HT_.out (by kernel_rfl)) (by decide) (fun K hK => ?_)
       refine gr_ Tryz.func161 #[.agg #[.bool a0_0, .int .u64 a0_1, .int .u64 a0_2, .int .i64 a0_3], .agg #[.bool t229, .int .u64 t230, .int .u64 t231], .int .i64 (wrap64 (t226 - a1))] ?_
       with_reducible refine (carve_below.calls a0_0 a0_1 a0_2 a0_3 t229 t230 t231 (wrap64 (t226 - a1)) t232 t233 _ A60.out).mono ?_
       rintro e w69 ⟨rfl, hb⟩
       refine ⟨_, rfl, ?_⟩
       replace BK218 := bb_ BK218 hb
       replace BK219 := bb_ BK219 hb
       replace BK220 := bb_ BK220 hb
       replace BK221 := bb_ BK221 hb
       replace HB := bs_ HB hb
       (try clear hb)
       (try clear hb2)
       (try clear hk)
       (try clear hi)
       refine hK.out _ _ ⟨kc_ BK218 0, kc_ BK218 1, kc_ BK218 2, kc_ BK218 3, kc_ BK219 0, kc_ BK219 1, kc_ BK219 2, kc_ BK219 3⟩ (fun hHeld => ?_)
       clear hK K
       refine norm_ (a' := ?_) ?_ ?_
       rotate_left
       ·
        show Act.put _ (some 47) _ = _
        simp only [Act.put, List.setIfInBounds_toArray, List.set_cons_zero, List.set_cons_succ, i64_w, i32_w]
        rfl
       refine one_ (i := 10) (N := none) (bm_ 13 2047) rfl rfl (one_of HT_.out (by kernel_rfl)) (by decide) (fun K hK => ?_)
       have hs70 : w69.cell? ⟨gb220, 0, none⟩ = some (.int .u64 0) := kc_ BK220 0
       have hfs70 := blk_frozen BK220.out 0
       have hns70_0 := NB218_220.out
       have hns70_1 := NB219_220.out
       have hns70_3 := NB221_220.out
       have hms70_0 := NB220_218.out
       have hms70_1 := NB220_219.out
       have hms70_3 := NB220_221.out
       have hs71 : w69.cell? ⟨gb220, 1, none⟩ = some (.int .u64 0) := kc_ BK220 1
       have hfs71 := blk_frozen BK220.out 1
       have hns71_0 := NB218_220.out
       have hns71_1 := NB219_220.out
       have hns71_3 := NB221_220.out
       have hms71_0 := NB220_218.out
       have hms71_1 := NB220_219.out
       have hms71_3 := NB220_221.out
       refine skip_ (w1 := ?_) (by rfl) rfl ?_ ?_
       rotate_left
       ·
        go_simp
        rfl
       refine hK.out _ _ ⟨((cell_far (p := ⟨gb220, _, none⟩) NB218_220.out _).trans (((cell_far (p := ⟨gb220, _, none⟩) NB218_220.out _).trans (hHeld.1)))), ((cell_far (p := ⟨gb220, _, none⟩) NB218_220.out _).trans (((cell_far (p := ⟨gb220, _, none⟩) NB218_220.out _).trans (hHeld.2.1)))), ((cell_far (p := ⟨gb220, _, none⟩) NB218_220.out _).trans (((cell_far (p := ⟨gb220, _, none⟩) NB218_220.out _).trans (hHeld.2.2.1)))), ((cell_far (p := ⟨gb220, _, none⟩) NB218_220.out _).trans (((cell_far (p := ⟨gb220, _, none⟩) NB218_220.out _).trans (hHeld.2.2.2.1)))), ((cell_far (p := ⟨gb220, _, none⟩) NB219_220.out _).trans (((cell_far (p := ⟨gb220, _, none⟩) NB219_220.out _).trans (hHeld.2.2.2.2.1)))), ((cell_far (p := ⟨gb220, _, none⟩) NB219_220.out _).trans (((cell_far (p := ⟨gb220, _, none⟩) NB219_220.out _).trans (hHeld.2.2.2.2.2.1)))), ((cell_far (p := ⟨gb220, _, none⟩) NB219_220.out _).trans (((cell_far (p := ⟨gb220, _, none⟩) NB219_220.out _).trans (hHeld.2.2.2.2.2.2.1)))), ((cell_far (p := ⟨gb220, _, none⟩) NB219_220.out _).trans (((cell_far (p := ⟨gb220, _, none⟩) NB219_220.out _).trans (hHeld.2.2.2.2.2.2.2))))⟩ (fun hHeld => ?_)
       clear hK K
       refine one_ (i := 11) (N := none) (bm_ 13 4095) rfl rfl (one_of HT_.out (by kernel_rfl)) (by decide) (fun K hK => ?_)
       have hs72 : w69.cell? ⟨gb221, 0, none⟩ = some (.int .u64 0) := kc_ BK221 0
       have hfs72 := blk_frozen BK221.out 0
       have hns72_0 := NB218_221.out
       have hns72_1 := NB219_221.out
       have hns72_2 := NB220_221.out
       have hms72_0 := NB221_218.out
       have hms72_1 := NB221_219.out
       have hms72_2 := NB221_220.out
       have hs73 : w69.cell? ⟨gb221, 1, none⟩ = some (.int .u64 0) := kc_ BK221 1
       have hfs73 := blk_frozen BK221.out 1
       have hns73_0 := NB218_221.out
       have hns73_1 := NB219_221.out
       have hns73_2 := NB220_221.out
       have hms73_0 := NB221_218.out
       have hms73_1 := NB221_219.out
       have hms73_2 := NB221_220.out
       refine skip_ (w1 := ?_) (by rfl) rfl ?_ ?_
       rotate_left
       ·
        go_simp
        rfl
       refine hK.out _ _ ⟨((cell_far (p := ⟨gb221, _, none⟩) NB218_221.out _).trans (((cell_far (p := ⟨gb221, _, none⟩) NB218_221.out _).trans (hHeld.1)))), ((cell_far (p := ⟨gb221, _, none⟩) NB218_221.out _).trans (((cell_far (p := ⟨gb221, _, none⟩) NB218_221.out _).trans (hHeld.2.1)))), ((cell_far (p := ⟨gb221, _, none⟩) NB218_221.out _).trans (((cell_far (p := ⟨gb221, _, none⟩) NB218_221.out _).trans (hHeld.2.2.1)))), ((cell_far (p := ⟨gb221, _, none⟩) NB218_221.out _).trans (((cell_far (p := ⟨gb221, _, none⟩) NB218_221.out _).trans (hHeld.2.2.2.1)))), ((cell_far (p := ⟨gb221, _, none⟩) NB219_221.out _).trans (((cell_far (p := ⟨gb221, _, none⟩) NB219_221.out _).trans (hHeld.2.2.2.2.1)))), ((cell_far (p := ⟨gb221, _, none⟩) NB219_221.out _).trans (((cell_far (p := ⟨gb221, _, none⟩) NB219_221.out _).trans (hHeld.2.2.2.2.2.1)))), ((cell_far (p := ⟨gb221, _, none⟩) NB219_221.out _).trans (((cell_far (p := ⟨gb221, _, none⟩) NB219_221.out _).trans (hHeld.2.2.2.2.2.2.1)))), ((cell_far (p := ⟨gb221, _, none⟩) NB219_221.out _).trans (((cell_far (p := ⟨gb221, _, none⟩) NB219_221.out _).trans (hHeld.2.2.2.2.2.2.2))))⟩ (fun hHeld => ?_)
       clear hK K
       refine pu_ 12 (some 8) (bm_ 13 8191) rfl HT_ ⟨by rfl, by intro w'; go_simp; with_reducible rfl⟩ ?_
       refine done_ (done_of HT_.out (by kernel_rfl)) ?_
       try go_wp2
       refine bodyPost_ret (results_list (rs := [.cell 6 24, .cell 7 24, .tmp 8]) rfl (by simp) (.cell gb220 24 #[.int .u64 t227, .int .u64 t228] (0, 0) _ rfl (by refine pw_ ?_; refine blk_far ?_ NB220_221.out _; refine pw_ ?_; refine blk_far ?_ NB220_221.out _; refine pw_ ?_; refine blk_put (cs := #[.int .u64 t227, .int .u64 0]) ?_ 1 _ rfl; refine pw_ ?_; refine blk_put (cs := #[.int .u64 0, .int .u64 0]) ?_ 0 _ rfl; refine pw_ ?_; exact BK220.out) Tryz.underlying24 rfl (by kernel_rfl) (.cell gb221 24 #[.int .u64 t232, .int .u64 t233] (0, 0) _ rfl (by refine pw_ ?_; refine blk_put (cs := #[.int .u64 t232, .int .u64 0]) ?_ 1 _ rfl; refine pw_ ?_; refine blk_put (cs := #[.int .u64 0, .int .u64 0]) ?_ 0 _ rfl; refine pw_ ?_; refine blk_far ?_ NB221_220.out _; refine pw_ ?_; refine blk_far ?_ NB221_220.out _; refine pw_ ?_; exact BK221.out) Tryz.underlying24 rfl (by kernel_rfl) (.tmp .nil)))) rfl ?_
       exact ⟨by first | rfl | (simp [errW_none, errW_some] <;> rfl) | (simp [*, errW_none, errW_some] <;> rfl), pb_ HB⟩
    ·
     replace c35 := Bool.eq_false_iff.mpr c35
     subst c35
     have H1 : (some (0, 0, 0, 0, 12)) = some (r1, r2, r3, r4, r5) := by rw [if_neg (show ¬ (false = true) by decide)] at H; exact H
     clear H
     have H := H1
     clear H1
     simp only [Option.some.injEq, Prod.mk.injEq] at H
     obtain ⟨rfl, rfl, rfl, rfl, rfl⟩ := H
     have hnb74 := NB218_219.out
     have hnc74 := NB219_218.out
     have hnb75 := NB218_220.out
     have hnc75 := NB220_218.out
     have hnb76 := NB218_221.out
     have hnc76 := NB221_218.out
     obtain ⟨hcz77_0, hcz77_1, hcz77_2, hcz77_3, hfz77_0, hfz77_1, hfz77_2, hfz77_3⟩ := c4_ BK218
     have hnb78 := NB219_220.out
     have hnc78 := NB220_219.out
     have hnb79 := NB219_221.out
     have hnc79 := NB221_219.out
     obtain ⟨hcz80_0, hcz80_1, hcz80_2, hcz80_3, hfz80_0, hfz80_1, hfz80_2, hfz80_3⟩ := c4_ BK219
     go_wp2_with (first | ((with_reducible refine gate_callee (f := 42) rfl ?_); refine gl_ (some 25) Tryz.func42 #[.agg #[.bool a0_0, .int .u64 a0_1, .int .u64 a0_2, .int .i64 a0_3], .agg #[.bool a2_0, .int .u64 a2_1, .int .u64 a2_2, .int .i64 a2_3]] ?_; (with_reducible refine (prefix_Overlap.calls kj3 a0_0 a0_1 a0_2 a0_3 a2_0 a2_1 a2_2 a2_3 false _ A34.out).mono ?_); rintro e w81 ⟨rfl, hb⟩; refine ⟨_, rfl, ?_⟩; replace BK218 := bb_ BK218 hb; replace BK219 := bb_ BK219 hb; replace BK220 := bb_ BK220 hb; replace BK221 := bb_ BK221 hb; replace HB := bs_ HB hb; (try clear hb); (try clear hb2); (try clear hk); (try clear hi); have hnb82 := NB220_221.out; have hnc82 := NB221_220.out; obtain ⟨hcz83_0, hcz83_1, hfz83_0, hfz83_1⟩ := c2_ BK220; obtain ⟨hcz84_0, hcz84_1, hfz84_0, hfz84_1⟩ := c2_ BK221))
     refine bodyPost_ret (results_list (rs := [.cell 6 24, .cell 7 24, .tmp 8]) rfl (by simp) (.cell gb220 24 #[.int .u64 0, .int .u64 0] (0, 0) _ rfl (by refine pw_ ?_; refine blk_far ?_ NB220_221.out _; refine pw_ ?_; refine blk_far ?_ NB220_221.out _; refine pw_ ?_; refine blk_put (cs := #[.int .u64 0, .int .u64 0]) ?_ 1 _ rfl; refine pw_ ?_; refine blk_put (cs := #[.int .u64 0, .int .u64 0]) ?_ 0 _ rfl; refine pw_ ?_; exact BK220.out) Tryz.underlying24 rfl (by kernel_rfl) (.cell gb221 24 #[.int .u64 0, .int .u64 0] (0, 0) _ rfl (by refine pw_ ?_; refine blk_put (cs := #[.int .u64 0, .int .u64 0]) ?_ 1 _ rfl; refine pw_ ?_; refine blk_put (cs := #[.int .u64 0, .int .u64 0]) ?_ 0 _ rfl; refine pw_ ?_; refine blk_far ?_ NB221_220.out _; refine pw_ ?_; refine blk_far ?_ NB221_220.out _; refine pw_ ?_; exact BK221.out) Tryz.underlying24 rfl (by kernel_rfl) (.tmp .nil)))) rfl ?_
     exact ⟨by first | rfl | (simp [errW_none, errW_some] <;> rfl) | (simp [*, errW_none, errW_some] <;> rfl), pb_ HB⟩

def prefix_Print.f (a0_0 : Bool) (a0_1 : Int) (a0_2 : Int) (a0_3 : Int) : Option (ByteArray) := (prefix_Right.f a0_0 a0_1 a0_2 a0_3).bind fun t238 => (if t238 = true then ((addr_Print.f a0_0 a0_1 a0_2).bind fun t239 => (if t239.size + 1 ≤ 9223372036854775807 then ((strconv_Itoa.f a0_3).bind fun t240 => (if (t239 ++ (⟨#[47]⟩ : ByteArray)).size + t240.size ≤ 9223372036854775807 then (some ((t239 ++ (⟨#[47]⟩ : ByteArray)) ++ t240)) else (none))) else (none))) else (some (⟨#[]⟩ : ByteArray)))
def prefix_Print.T3 : Bool × List (List Nat × List Nat) := (true, [([], []), ([0], [0]), ([1], [1]), ([2], [2]), ([], []), ([4], [4]), ([5, 2], [5]), ([3, 6], [3, 6]), ([7, 6, 0, 1, 2, 3, 4, 5, 6, 7], [7])])
def prefix_Print.B3 : List Nat := [0, 1, 3, 7, 0, 16, 55, 127, 255]
theorem prefix_Print.tab3 : rtab .any (opsOf Tryz.f82 3) = prefix_Print.T3 := by kernel_rfl
theorem prefix_Print.bits3 : waitsOk prefix_Print.T3.2 prefix_Print.B3 = true := by kernel_rfl
set_option maxHeartbeats 8000000 in
set_option maxRecDepth 100000 in
theorem prefix_Print.calls (a0_0 : Bool) (a0_1 : Int) (a0_2 : Int) (a0_3 : Int) (r : ByteArray) (w : World) (hG : Glob w) (h : prefix_Print.f a0_0 a0_1 a0_2 a0_3 = some r) :
  Calls Tryz.prog 82 #[.agg #[.bool a0_0, .int .u64 a0_1, .int .u64 a0_2, .int .i64 a0_3]] w fun e w' => e = .returned (.string r) ∧ Below w.heap.size w w' := by
 have hu28 := Tryz.underlying28
 have hu26 := Tryz.underlying26
 have HGLB := Aside0.mk hG
 clear hG
 have HB := Aside0.mk (Below.refl w.heap.size w)
 have H : ((prefix_Right.f a0_0 a0_1 a0_2 a0_3).bind fun t238 => (if t238 = true then ((addr_Print.f a0_0 a0_1 a0_2).bind fun t239 => (if t239.size + 1 ≤ 9223372036854775807 then ((strconv_Itoa.f a0_3).bind fun t240 => (if (t239 ++ (⟨#[47]⟩ : ByteArray)).size + t240.size ≤ 9223372036854775807 then (some ((t239 ++ (⟨#[47]⟩ : ByteArray)) ++ t240)) else (none))) else (none))) else (some (⟨#[]⟩ : ByteArray)))) = some r := h
 clear h
 replace H := Option.bind_eq_some_iff.mp H
 obtain ⟨t238, A20, H⟩ := H
 replace H : (if t238 = true then ((addr_Print.f a0_0 a0_1 a0_2).bind fun t239 => (if t239.size + 1 ≤ 9223372036854775807 then ((strconv_Itoa.f a0_3).bind fun t240 => (if (t239 ++ (⟨#[47]⟩ : ByteArray)).size + t240.size ≤ 9223372036854775807 then (some ((t239 ++ (⟨#[47]⟩ : ByteArray)) ++ t240)) else (none))) else (none))) else (some (⟨#[]⟩ : ByteArray))) = some r := H
 have A2 := Aside0.mk A20
 clear A20
 by_cases c3 : t238 = true
 ·
  subst c3
  rw [if_pos rfl] at H
  replace H := Option.bind_eq_some_iff.mp H
  obtain ⟨t239, A40, H⟩ := H
  replace H : (if t239.size + 1 ≤ 9223372036854775807 then ((strconv_Itoa.f a0_3).bind fun t240 => (if (t239 ++ (⟨#[47]⟩ : ByteArray)).size + t240.size ≤ 9223372036854775807 then (some ((t239 ++ (⟨#[47]⟩ : ByteArray)) ++ t240)) else (none))) else (none)) = some r := H
  have A4 := Aside0.mk A40
  clear A40
  by_cases c5 : t239.size + 1 ≤ 9223372036854775807
  ·
   rw [if_pos c5] at H
   have c5b0 := eq_true c5
   have c5b1 : decide (t239.size + 1 ≤ 9223372036854775807) = true := decide_eq_true c5
   try have c5b2 : (9223372036854775807 < t239.size + 1) = False := eq_false (Nat.not_lt.2 c5)
   replace H := Option.bind_eq_some_iff.mp H
   obtain ⟨t240, A60, H⟩ := H
   replace H : (if (t239 ++ (⟨#[47]⟩ : ByteArray)).size + t240.size ≤ 9223372036854775807 then (some ((t239 ++ (⟨#[47]⟩ : ByteArray)) ++ t240)) else (none)) = some r := H
   have A6 := Aside0.mk A60
   clear A60
   by_cases c7 : (t239 ++ (⟨#[47]⟩ : ByteArray)).size + t240.size ≤ 9223372036854775807
   ·
    rw [if_pos c7] at H
    have c7b0 := eq_true c7
    have c7b1 : decide ((t239 ++ (⟨#[47]⟩ : ByteArray)).size + t240.size ≤ 9223372036854775807) = true := decide_eq_true c7
    try have c7b2 : (9223372036854775807 < (t239 ++ (⟨#[47]⟩ : ByteArray)).size + t240.size) = False := eq_false (Nat.not_lt.2 c7)
    (try (have c7b3 := of_eq_false c7b2; simp only [ByteArray.size_append, show (⟨#[47]⟩ : ByteArray).size = 1 from rfl] at c7b3; replace c7b3 := eq_false c7b3))
    obtain rfl := Option.some.inj H
    go_enter Tryz.func82, Tryz.ntmps82
    try go_wp2_with (first | ((with_reducible refine gate_dst (N := 1) rfl ?_); refine bx_ 1 #[.bool a0_0, .int .u64 a0_1, .int .u64 a0_2, .int .i64 a0_3] 28 ?_; intro gb237 hg w8 hbox hb; have BK237 := Aside0.mk (hbox); have GW237 := gw_ HB hg; have GE237 := gw_ HB hg; replace HB := bs_ HB hb; clear hb hbox hg; obtain ⟨hcz9_0, hcz9_1, hcz9_2, hcz9_3, hfz9_0, hfz9_1, hfz9_2, hfz9_3⟩ := c4_ BK237) | ((with_reducible refine gate_callee (f := 90) rfl ?_); refine gl_ (some 4) Tryz.func90 #[.agg #[.bool a0_0, .int .u64 a0_1, .int .u64 a0_2, .int .i64 a0_3]] ?_; (with_reducible refine (prefix_Right.calls a0_0 a0_1 a0_2 a0_3 true _ A2.out).mono ?_); rintro e w10 ⟨rfl, hb⟩; refine ⟨_, rfl, ?_⟩; replace BK237 := bb_ BK237 hb; replace HB := bs_ HB hb; (try clear hb); (try clear hb2); (try clear hk); (try clear hi)))
    replace BK237 := Aside0.mk (blk_drew BK237.out)
    replace HB := Aside0.mk (below_drew1 HB.out)
    refine start_ (n := 9) (S := fun w' => w'.cell? ⟨gb237, 0, none⟩ = some (.bool a0_0) ∧ w'.cell? ⟨gb237, 1, none⟩ = some (.int .u64 a0_1) ∧ w'.cell? ⟨gb237, 2, none⟩ = some (.int .u64 a0_2) ∧ w'.cell? ⟨gb237, 3, none⟩ = some (.int .i64 a0_3)) (ds := []) (bm_ 9 0) (by kernel_rfl) rfl rfl ⟨kc_ BK237 0, kc_ BK237 1, kc_ BK237 2, kc_ BK237 3⟩ (fun hHeld => ?_); refine with_tabW prefix_Print.tab3 prefix_Print.bits3 (fun HT_ HW_ => ?_)
    generalize w10.drew = w11 at BK237 HB hHeld ⊢
    refine pu_ 0 (some 6) (bm_ 9 1) rfl HT_ ⟨by rfl, by intro w'; go_simp; with_reducible rfl⟩ ?_
    refine pu_ 4 (some 10) (bm_ 9 17) rfl HT_ ⟨by rfl, by intro w'; go_simp; with_reducible rfl⟩ ?_
    refine ta_ 1 (some 7) (bm_ 9 19) rfl HT_ HW_ ⟨by rfl, by rintro w' ⟨s0, s1, s2, s3⟩; go_simp; with_reducible rfl⟩ hHeld ?_
    refine ta_ 5 (some 11) (bm_ 9 51) rfl HT_ HW_ ⟨by rfl, by rintro w' ⟨s0, s1, s2, s3⟩; go_simp; with_reducible rfl⟩ hHeld ?_
    refine one_ (i := 2) (N := some 8) (bm_ 9 55) rfl rfl (one_of HT_.out (by kernel_rfl)) (by decide) (fun K hK => ?_)
    refine gr_ Tryz.func66 #[.agg #[.bool a0_0, .int .u64 a0_1, .int .u64 a0_2]] ?_
    with_reducible refine (addr_Print.calls a0_0 a0_1 a0_2 t239 _ ?side1 A4.out).mono ?_
    (case side1 => exact glob_keep HGLB.out (pb_ HB))
    rintro e w12 ⟨rfl, hb⟩
    refine ⟨_, rfl, ?_⟩
    replace BK237 := bb_ BK237 hb
    replace HB := bs_ HB hb
    (try clear hb)
    (try clear hb2)
    (try clear hk)
    (try clear hi)
    refine hK.out _ _ ⟨kc_ BK237 0, kc_ BK237 1, kc_ BK237 2, kc_ BK237 3⟩ (fun hHeld => ?_)
    clear hK K
    refine norm_ (a' := ?_) ?_ ?_
    rotate_left
    ·
     show Act.put _ (some 8) _ = _
     simp only [Act.put, List.setIfInBounds_toArray, List.set_cons_zero, List.set_cons_succ, i64_w, i32_w]
     rfl
    refine pu_ 3 (some 9) (bm_ 9 63) rfl HT_ ⟨by rfl, by intro w'; go_simp; with_reducible rfl⟩ ?_
    refine one_ (i := 6) (N := some 12) (bm_ 9 127) rfl rfl (one_of HT_.out (by kernel_rfl)) (by decide) (fun K hK => ?_)
    refine gr_ Tryz.func114 #[.int .i64 a0_3] ?_
    with_reducible refine (strconv_Itoa.calls a0_3 t240 _ ?side1 A6.out).mono ?_
    (case side1 => exact glob_keep HGLB.out (pb_ HB))
    rintro e w13 ⟨rfl, hb⟩
    refine ⟨_, rfl, ?_⟩
    replace BK237 := bb_ BK237 hb
    replace HB := bs_ HB hb
    (try clear hb)
    (try clear hb2)
    (try clear hk)
    (try clear hi)
    refine hK.out _ _ ⟨kc_ BK237 0, kc_ BK237 1, kc_ BK237 2, kc_ BK237 3⟩ (fun hHeld => ?_)
    clear hK K
    refine norm_ (a' := ?_) ?_ ?_
    rotate_left
    ·
     show Act.put _ (some 12) _ = _
     simp only [Act.put, List.setIfInBounds_toArray, List.set_cons_zero, List.set_cons_succ, i64_w, i32_w]
     rfl
    refine pu_ 7 (some 13) (bm_ 9 255) rfl HT_ ⟨by rfl, by intro w'; go_simp; with_reducible rfl⟩ ?_
    refine pu_ 8 (some 2) (bm_ 9 511) rfl HT_ ⟨by rfl, by intro w'; go_simp; with_reducible rfl⟩ ?_
    refine done_ (done_of HT_.out (by kernel_rfl)) ?_
    try go_wp2
    go_ret
    exact ⟨by first | rfl | (simp [errW_none, errW_some] <;> rfl) | (simp [*, errW_none, errW_some] <;> rfl), pb_ HB⟩
   ·
    rw [if_neg c7] at H
    exact absurd H (by simp)
  ·
   rw [if_neg c5] at H
   exact absurd H (by simp)
 ·
  replace c3 := Bool.eq_false_iff.mpr c3
  subst c3
  have H1 : (some (⟨#[]⟩ : ByteArray)) = some r := by rw [if_neg (show ¬ (false = true) by decide)] at H; exact H
  clear H
  have H := H1
  clear H1
  obtain rfl := Option.some.inj H
  go_enter Tryz.func82, Tryz.ntmps82
  go_wp2_with (first | ((with_reducible refine gate_dst (N := 1) rfl ?_); refine bx_ 1 #[.bool a0_0, .int .u64 a0_1, .int .u64 a0_2, .int .i64 a0_3] 28 ?_; intro gb237 hg w14 hbox hb; have BK237 := Aside0.mk (hbox); have GW237 := gw_ HB hg; have GE237 := gw_ HB hg; replace HB := bs_ HB hb; clear hb hbox hg; obtain ⟨hcz15_0, hcz15_1, hcz15_2, hcz15_3, hfz15_0, hfz15_1, hfz15_2, hfz15_3⟩ := c4_ BK237) | ((with_reducible refine gate_callee (f := 90) rfl ?_); refine gl_ (some 4) Tryz.func90 #[.agg #[.bool a0_0, .int .u64 a0_1, .int .u64 a0_2, .int .i64 a0_3]] ?_; (with_reducible refine (prefix_Right.calls a0_0 a0_1 a0_2 a0_3 false _ A2.out).mono ?_); rintro e w16 ⟨rfl, hb⟩; refine ⟨_, rfl, ?_⟩; replace BK237 := bb_ BK237 hb; replace HB := bs_ HB hb; (try clear hb); (try clear hb2); (try clear hk); (try clear hi)))
  go_ret
  exact ⟨by first | rfl | (simp [errW_none, errW_some] <;> rfl) | (simp [*, errW_none, errW_some] <;> rfl), pb_ HB⟩

end Go.Proofs.YtpfilldnfpcpkaaGreatDoor.PPo

namespace Go.Proofs.YtpfilldnfpcpkaaGreatDoor

/-- the n low bits of word k -/
def wd (f : Nat → Bool) (k : Nat) : Nat → Nat
  | 0 => 0
  | n + 1 => 2 ^ n * (f (64 * k + n)).toNat + wd f k n
/-- word k of a row of truths -/
def W (f : Nat → Bool) (k : Nat) : Nat := wd f k 64
theorem wd_lt (f : Nat → Bool) (k : Nat) : ∀ n, wd f k n < 2 ^ n
  | 0 => by simp [wd]
  | n + 1 => by
    have := wd_lt f k n
    rw [wd, Nat.pow_succ]
    cases f (64 * k + n) <;> simp <;> omega
theorem W_lt' (f : Nat → Bool) (k : Nat) : W f k < 2 ^ 64 := wd_lt f k 64
theorem W_lt (f : Nat → Bool) (k : Nat) : W f k < 18446744073709551616 := wd_lt f k 64
theorem wd_bit (f : Nat → Bool) (k : Nat) : ∀ n j, (wd f k n).testBit j = (decide (j < n) && f (64 * k + j))
  | 0, j => by simp [wd]
  | n + 1, j => by
    rw [wd]
    have hl := wd_lt f k n
    have ih := wd_bit f k n j
    rcases Nat.lt_trichotomy j n with h | h | h
    · have d1 : decide (j < n) = true := decide_eq_true h
      have d2 : decide (j < n + 1) = true := decide_eq_true (by omega)
      rw [d1] at ih
      rw [d2]
      cases hb : f (64 * k + n)
      · simpa using ih
      · simp only [Bool.toNat_true, Nat.mul_one]
        rw [Nat.testBit_two_pow_add_gt h]; exact ih
    · subst h
      have d1 : decide (j < j) = false := by simp
      have d2 : decide (j < j + 1) = true := by simp
      rw [d1] at ih
      rw [d2]
      cases hb : f (64 * k + j)
      · simpa using ih
      · simp only [Bool.toNat_true, Nat.mul_one]
        rw [Nat.testBit_two_pow_add_eq, ih]; rfl
    · have d2 : decide (j < n + 1) = false := decide_eq_false (by omega)
      rw [d2, Bool.false_and]
      refine Nat.testBit_lt_two_pow (Nat.lt_of_lt_of_le (m := 2 ^ (n + 1)) ?_ (Nat.pow_le_pow_right (by omega) (by omega)))
      rw [Nat.pow_succ]
      cases f (64 * k + n) <;> simp <;> omega
theorem W_bit (f : Nat → Bool) (k j : Nat) : (W f k).testBit j = (decide (j < 64) && f (64 * k + j)) := wd_bit f k 64 j
attribute [irreducible] W
theorem W_of {x k : Nat} {f : Nat → Bool} (hx : x < 2 ^ 64) (h : ∀ j, j < 64 → x.testBit j = f (64 * k + j)) : x = W f k := by
  apply Nat.eq_of_testBit_eq
  intro j
  rw [W_bit]
  by_cases hj : j < 64
  · rw [h j hj]; simp [hj]
  · rw [Nat.testBit_lt_two_pow (Nat.lt_of_lt_of_le hx (Nat.pow_le_pow_right (by omega) (by omega)))]; simp [hj]
theorem W_congr {f g : Nat → Bool} {k : Nat} (h : ∀ j, j < 64 → f (64 * k + j) = g (64 * k + j)) : W f k = W g k :=
  W_of (W_lt' f k) fun j hj => by rw [W_bit, h j hj]; simp [hj]
theorem W_zero {f : Nat → Bool} {k : Nat} (h : ∀ j, j < 64 → f (64 * k + j) = false) : W f k = 0 :=
  (W_of (x := 0) (by decide) fun j hj => by rw [h j hj]; simp).symm
theorem W_or (f g : Nat → Bool) (k : Nat) : W f k ||| W g k = W (fun i => f i || g i) k :=
  W_of (Nat.or_lt_two_pow (W_lt' f k) (W_lt' g k)) fun j hj => by rw [Nat.testBit_or, W_bit, W_bit]; simp [hj]
theorem W_and (f g : Nat → Bool) (k : Nat) : W f k &&& W g k = W (fun i => f i && g i) k :=
  W_of (Nat.and_lt_two_pow _ (W_lt' g k)) fun j hj => by rw [Nat.testBit_and, W_bit, W_bit]; simp [hj]
theorem W_not (f : Nat → Bool) (k : Nat) : 18446744073709551615 - W f k = W (fun i => !f i) k := by
  have h := W_lt' f k
  refine W_of (by omega) fun j hj => ?_
  rw [show 18446744073709551615 - W f k = 2 ^ 64 - (W f k + 1) from by omega, Nat.testBit_two_pow_sub_succ h, W_bit]
  simp [hj]
theorem W_one {k j : Nat} (hj : j < 64) : 2 ^ j = W (fun i => i == 64 * k + j) k := by
  refine W_of (Nat.pow_lt_pow_right (by omega) hj) fun i _ => ?_
  rw [Nat.testBit_two_pow, Bool.eq_iff_iff]
  simp
  omega
theorem W_from {k j : Nat} (hj : j < 64) : 18446744073709551616 - 2 ^ j = W (fun i => decide (64 * k + j ≤ i)) k := by
  have hp : 2 ^ j < 2 ^ 64 := Nat.pow_lt_pow_right (by omega) hj
  have hp0 := Nat.two_pow_pos j
  refine W_of (by omega) fun i hi => ?_
  rw [show 18446744073709551616 - 2 ^ j = 2 ^ 64 - ((2 ^ j - 1) + 1) from by omega, Nat.testBit_two_pow_sub_succ (by omega), Nat.testBit_two_pow_sub_one, Bool.eq_iff_iff]
  simp
  omega
theorem W_to {k j : Nat} (hj : j < 64) : 2 ^ (j + 1) - 1 = W (fun i => decide (i ≤ 64 * k + j)) k := by
  have hp : 2 ^ (j + 1) ≤ 2 ^ 64 := Nat.pow_le_pow_right (by omega) hj
  have hp0 := Nat.two_pow_pos (j + 1)
  refine W_of (by omega) fun i _ => ?_
  rw [Nat.testBit_two_pow_sub_one, Bool.eq_iff_iff]
  simp
  omega
theorem W_low {k j : Nat} (hj : j < 64) : 2 ^ j - 1 = W (fun i => decide (i < 64 * k + j)) k := by
  have hp : 2 ^ j < 2 ^ 64 := Nat.pow_lt_pow_right (by omega) hj
  have hp0 := Nat.two_pow_pos j
  refine W_of (by omega) fun i _ => ?_
  rw [Nat.testBit_two_pow_sub_one, Bool.eq_iff_iff]
  simp
theorem W_eq_zero {f : Nat → Bool} {k : Nat} (h : W f k = 0) : ∀ j, j < 64 → f (64 * k + j) = false := by
  intro j hj
  have := W_bit f k j
  rw [h] at this
  simpa [hj] using this.symm
theorem W_ne_zero {f : Nat → Bool} {k : Nat} {j : Nat} (hj : j < 64) (h : f (64 * k + j) = true) : W f k ≠ 0 := by
  intro e
  have := W_eq_zero e j hj
  rw [h] at this; cases this

theorem i_or (f g : Nat → Bool) (k : Nat) : bits .or .u64 (W f k : Int) (W g k : Int) = ((W (fun i => f i || g i) k : Nat) : Int) := by
  rw [u64_or_nat _ _ (W_lt f k) (W_lt g k), W_or]
theorem i_and (f g : Nat → Bool) (k : Nat) : bits .and .u64 (W f k : Int) (W g k : Int) = ((W (fun i => f i && g i) k : Nat) : Int) := by
  rw [u64_and_nat _ _ (W_lt f k) (W_lt g k), W_and]
theorem i_andNot (f g : Nat → Bool) (k : Nat) : bits .andNot .u64 (W f k : Int) (W g k : Int) = ((W (fun i => f i && !g i) k : Nat) : Int) := by
  rw [u64_andNot_nat _ _ (W_lt f k) (W_lt g k), W_not, W_and]
theorem i_has (f : Nat → Bool) (k : Nat) {j : Nat} (hj : j < 64) : (bits .and .u64 (W f k : Int) (W (fun i => i == 64 * k + j) k : Int) != 0) = f (64 * k + j) := by
  rw [i_and]
  cases h : f (64 * k + j)
  · have : W (fun i => f i && i == 64 * k + j) k = 0 := W_zero fun x hx => by
      by_cases e : x = j
      · subst e; rw [h]; rfl
      · simp; intro _; exact e
    rw [this]; rfl
  · have := W_ne_zero (k := k) (f := fun i => f i && i == 64 * k + j) hj (by simp [h])
    simpa using this

theorem ctz_W {f : Nat → Bool} {k : Nat} (h : W f k ≠ 0) :
    Lib.ctz 64 (W f k) < 64 ∧ f (64 * k + Lib.ctz 64 (W f k)) = true ∧ ∀ j, j < Lib.ctz 64 (W f k) → f (64 * k + j) = false := by
  have hl := W_lt' f k
  obtain ⟨m, hm, hk⟩ := Lib.ctzFrom_spec 64 (W f k) (by omega) hl
  have e : Lib.ctz 64 (W f k) = Lib.ctzFrom 64 (W f k) := by simp [Lib.ctz, h]
  rw [e]
  generalize Lib.ctzFrom 64 (W f k) = c at *
  refine ⟨hk, ?_, fun j hj => ?_⟩
  · have := W_bit f k c
    rw [hm, Nat.mul_comm, Nat.testBit_mul_two_pow] at this
    simp [hk] at this
    exact this
  · have := W_bit f k j
    rw [hm, Nat.mul_comm, Nat.testBit_mul_two_pow] at this
    simp [show j < 64 by omega, show ¬ c ≤ j by omega] at this
    exact this

def wordsV (f : Nat → Bool) (K : Nat) : List Value := (List.range K).map fun k => Value.int .u64 (W f k)
theorem wordsV_get (f : Nat → Bool) {K k : Nat} (h : k < K) : (wordsV f K).toArray[k]? = some (.int .u64 (W f k)) := by simp [wordsV, h]
theorem wordsV_put {f g : Nat → Bool} {K k : Nat} (h : ∀ k', k' ≠ k → k' < K → W f k' = W g k') (hk : k < K) : (wordsV f K).toArray.setIfInBounds k (.int .u64 (W g k)) = (wordsV g K).toArray := by
  apply Array.ext_getElem?
  intro j
  rw [Array.getElem?_setIfInBounds]
  simp only [wordsV, List.getElem?_toArray, List.getElem?_map, List.size_toArray, List.length_map, List.length_range]
  by_cases hjk : k = j
  · subst hjk; simp [hk]
  · rw [if_neg hjk]
    by_cases hj : j < K
    · simp [hj]; rw [h j (by omega) hj]
    · simp [hj]
theorem words_none (K : Nat) : wordsV (fun _ => false) K = List.replicate K (.int .u64 0) := by
  unfold wordsV
  rw [List.eq_replicate_iff]
  refine ⟨by simp, fun b hb => ?_⟩
  simp only [List.mem_map] at hb
  obtain ⟨k, _, rfl⟩ := hb
  rw [W_zero (fun _ _ => rfl)]; rfl
/-- one bit turned -/
def upd (f : Nat → Bool) (i : Nat) (b : Bool) : Nat → Bool := fun x => if x = i then b else f x
theorem upd_ne {f : Nat → Bool} {i x : Nat} {b : Bool} (h : x ≠ i) : upd f i b x = f x := by simp [upd, h]
theorem W_put (f : Nat → Bool) (i : Nat) : W (fun x => f x || x == i) (i / 64) = W (upd f i true) (i / 64) :=
  W_congr fun j _ => by unfold upd; by_cases h : 64 * (i / 64) + j = i <;> simp [h]
theorem W_upd_other (f : Nat → Bool) (i : Nat) (b : Bool) {k : Nat} (h : k ≠ i / 64) : W f k = W (upd f i b) k :=
  W_congr fun j hj => by rw [upd_ne (by omega)]

def cnt (f : Nat → Bool) (a : Nat) : Nat → Nat
  | 0 => 0
  | n + 1 => cnt f a n + (f (a + n)).toNat
theorem cnt_le (f : Nat → Bool) (a : Nat) : ∀ n, cnt f a n ≤ n
  | 0 => by simp [cnt]
  | n + 1 => by have := cnt_le f a n; rw [cnt]; cases f (a + n) <;> simp <;> omega
theorem cnt_join (f : Nat → Bool) (a n : Nat) : ∀ m, cnt f a (n + m) = cnt f a n + cnt f (a + n) m
  | 0 => by simp [cnt]
  | m + 1 => by rw [show n + (m + 1) = (n + m) + 1 from rfl, cnt, cnt_join f a n m, cnt, Nat.add_assoc a n m]; omega
theorem cnt_congr {f g : Nat → Bool} {a : Nat} : ∀ {n}, (∀ x, a ≤ x → x < a + n → f x = g x) → cnt f a n = cnt g a n
  | 0, _ => rfl
  | n + 1, h => by rw [cnt, cnt, cnt_congr (n := n) fun x h1 h2 => h x h1 (by omega), h (a + n) (by omega) (by omega)]
theorem cnt_none {f : Nat → Bool} {a : Nat} : ∀ {n}, (∀ x, a ≤ x → x < a + n → f x = false) → cnt f a n = 0
  | 0, _ => rfl
  | n + 1, h => by rw [cnt, cnt_none (n := n) fun x h1 h2 => h x h1 (by omega), h (a + n) (by omega) (by omega)]; rfl
end Go.Proofs.YtpfilldnfpcpkaaGreatDoor

namespace Go.Proofs.YtpfilldnfpcpkaaGreatDoor

/-- the sum of n digits to the base B -/
def fs (B : Nat) : Nat → Nat → Nat
  | 0, _ => 0
  | n + 1, x => x % B + fs B n (x / B)
def mk4 : Nat → Nat | 0 => 0 | n + 1 => 4 * mk4 n + 1
def mk16 : Nat → Nat | 0 => 0 | n + 1 => 16 * mk16 n + 3
def mk256 : Nat → Nat | 0 => 0 | n + 1 => 256 * mk256 n + 15
theorem mk4_32 : mk4 32 = 6148914691236517205 := by decide
theorem mk16_16 : mk16 16 = 3689348814741910323 := by decide
theorem mk256_8 : mk256 8 = 1085102592571150095 := by decide
theorem and_parts (e x y : Nat) : x &&& y = 2 ^ e * (x / 2 ^ e &&& y / 2 ^ e) + (x % 2 ^ e &&& y % 2 ^ e) := by
  rw [← Nat.and_div_two_pow, ← Nat.and_mod_two_pow, Nat.div_add_mod]
def c4 (n x : Nat) : Nat := (x / 2 &&& mk4 n) + (x &&& mk4 n)
def c16 (n x : Nat) : Nat := (x / 4 &&& mk16 n) + (x &&& mk16 n)
def c256 (n x : Nat) : Nat := (x / 16 + x) &&& mk256 n
theorem c4_succ (n x : Nat) : c4 (n + 1) x = 4 * c4 n (x / 4) + (x % 4 / 2 + x % 2) := by
  unfold c4
  rw [and_parts 2 (x / 2), and_parts 2 x, mk4]
  rw [show (2 : Nat) ^ 2 = 4 from rfl, show (4 * mk4 n + 1) / 4 = mk4 n from by omega, show (4 * mk4 n + 1) % 4 = 1 from by omega, nat_mask1, nat_mask1,
    show x / 2 / 4 = x / 4 / 2 from by omega]
  omega
theorem c16_succ (n x : Nat) : c16 (n + 1) x = 16 * c16 n (x / 16) + (x % 16 / 4 + x % 4) := by
  unfold c16
  rw [and_parts 4 (x / 4), and_parts 4 x, mk16]
  rw [show (2 : Nat) ^ 4 = 16 from rfl, show (16 * mk16 n + 3) / 16 = mk16 n from by omega, show (16 * mk16 n + 3) % 16 = 3 from by omega, nat_mask2, nat_mask2,
    show x / 4 / 16 = x / 16 / 4 from by omega]
  omega
theorem fs4 : ∀ n x, fs 4 n (c4 n x) = fs 2 (2 * n) x
  | 0, _ => rfl
  | n + 1, x => by
    rw [show 2 * (n + 1) = 2 * n + 1 + 1 from by omega, fs, fs, fs, c4_succ, show (4 * c4 n (x / 4) + (x % 4 / 2 + x % 2)) / 4 = c4 n (x / 4) from by omega, fs4 n (x / 4), Nat.div_div_eq_div_mul, show 2 * 2 = 4 from rfl]
    generalize fs 2 (2 * n) (x / 4) = y
    generalize c4 n (x / 4) = z
    have a1 : x % 4 / 2 = x / 2 % 2 := by omega
    rw [a1]
    have b1 := Nat.mod_lt (x / 2) (show 0 < 2 by omega)
    have b2 := Nat.mod_lt x (show 0 < 2 by omega)
    generalize x / 2 % 2 = u at *
    generalize x % 2 = v at *
    omega
theorem fs16 : ∀ n x, fs 16 n (c16 n x) = fs 4 (2 * n) x
  | 0, _ => rfl
  | n + 1, x => by
    rw [show 2 * (n + 1) = 2 * n + 1 + 1 from by omega, fs, fs, fs, c16_succ, show (16 * c16 n (x / 16) + (x % 16 / 4 + x % 4)) / 16 = c16 n (x / 16) from by omega, fs16 n (x / 16), Nat.div_div_eq_div_mul, show 4 * 4 = 16 from rfl]
    generalize fs 4 (2 * n) (x / 16) = y
    generalize c16 n (x / 16) = z
    have a1 : x % 16 / 4 = x / 4 % 4 := by omega
    rw [a1]
    have b1 := Nat.mod_lt (x / 4) (show 0 < 4 by omega)
    have b2 := Nat.mod_lt x (show 0 < 4 by omega)
    generalize x / 4 % 4 = u at *
    generalize x % 4 = v at *
    omega
/-- digits to the base 4 of at most 2, to the base 16 of at most 4 -/
def D4 : Nat → Nat → Prop | 0, x => x = 0 | n + 1, x => x % 4 ≤ 2 ∧ D4 n (x / 4)
def D16 : Nat → Nat → Prop | 0, x => x = 0 | n + 1, x => x % 16 ≤ 4 ∧ D16 n (x / 16)
theorem D4_c4 : ∀ n x, D4 n (c4 n x)
  | 0, x => by simp [D4, c4, mk4]
  | n + 1, x => by
    rw [c4_succ]
    refine ⟨?_, ?_⟩
    · have b1 : x % 4 / 2 ≤ 1 := by omega
      have b2 : x % 2 ≤ 1 := by omega
      generalize x % 4 / 2 = u at *
      generalize x % 2 = v at *
      omega
    rw [show (4 * c4 n (x / 4) + (x % 4 / 2 + x % 2)) / 4 = c4 n (x / 4) from by omega]
    exact D4_c4 n _
theorem D16_c16 : ∀ n x, D4 (2 * n) x → D16 n (c16 n x)
  | 0, x, _ => by simp [D16, c16, mk16]
  | n + 1, x, h => by
    rw [show 2 * (n + 1) = 2 * n + 1 + 1 from by omega] at h
    obtain ⟨h1, h2, h3⟩ := h
    rw [Nat.div_div_eq_div_mul] at h3
    rw [c16_succ]
    refine ⟨?_, ?_⟩
    · have b1 : x % 16 / 4 = x / 4 % 4 := by omega
      rw [b1]
      generalize x / 4 % 4 = u at *
      generalize x % 4 = v at *
      generalize c16 n (x / 16) = z
      omega
    rw [show (16 * c16 n (x / 16) + (x % 16 / 4 + x % 4)) / 16 = c16 n (x / 16) from by omega]
    exact D16_c16 n _ h3
theorem c256_succ (n x : Nat) (h1 : x % 16 ≤ 4) (h2 : x / 16 % 16 ≤ 4) (h3 : x / 256 % 16 ≤ 4) : c256 (n + 1) x = 256 * c256 n (x / 256) + (x % 16 + x / 16 % 16) := by
  unfold c256
  have k1 : x = 256 * (x / 256) + 16 * (x / 16 % 16) + x % 16 := by omega
  have k2 : x / 16 = 16 * (x / 256) + x / 16 % 16 := by omega
  have k3 : x / 256 = 16 * (x / 256 / 16) + x / 256 % 16 := by omega
  generalize x / 16 % 16 = u at *
  generalize x / 16 = x1 at *
  generalize x / 256 % 16 = v at *
  generalize x % 16 = t at *
  generalize x / 256 / 16 = x3 at *
  have k4 : (x1 + x) / 256 = x3 + x / 256 := by omega
  have k5 : (x1 + x) % 256 % 16 = t + u := by omega
  rw [and_parts 8 (x1 + x), mk256]
  rw [show (2 : Nat) ^ 8 = 256 from rfl, show (256 * mk256 n + 15) / 256 = mk256 n from by omega, show (256 * mk256 n + 15) % 256 = 15 from by omega, nat_mask4, k4, k5]
theorem D16_low {n x : Nat} (h : D16 n x) : x % 16 ≤ 4 := by
  cases n with
  | zero => have : x = 0 := h; omega
  | succ n => exact h.1
/-- digits to the base 256 of at most 8 -/
def D256 : Nat → Nat → Prop | 0, x => x = 0 | n + 1, x => x % 256 ≤ 8 ∧ D256 n (x / 256)
theorem all256 : ∀ n x, D16 (2 * n) x → D256 n (c256 n x) ∧ fs 256 n (c256 n x) = fs 16 (2 * n) x
  | 0, x, h => ⟨by simp [D256, c256, mk256], rfl⟩
  | n + 1, x, h => by
    rw [show 2 * (n + 1) = 2 * n + 1 + 1 from by omega] at h ⊢
    obtain ⟨h1, h2, h3⟩ := h
    rw [Nat.div_div_eq_div_mul] at h3
    have h4 := D16_low h3
    obtain ⟨q1, q2⟩ := all256 n _ h3
    rw [c256_succ n x h1 h2 h4]
    have e : (256 * c256 n (x / 256) + (x % 16 + x / 16 % 16)) / 256 = c256 n (x / 256) := by omega
    refine ⟨⟨by omega, by rw [e]; exact q1⟩, ?_⟩
    rw [fs, fs, fs, e, q2, Nat.div_div_eq_div_mul]
    omega
theorem last256 {z : Nat} (h : D256 8 z) : z < 18446744073709551616 ∧ z + z / 256 < 18446744073709551616 ∧ (z + z / 256) + (z + z / 256) / 65536 < 18446744073709551616 ∧
    ((z + z / 256) + (z + z / 256) / 65536) + ((z + z / 256) + (z + z / 256) / 65536) / 4294967296 < 9223372036854775808 ∧
    (((z + z / 256) + (z + z / 256) / 65536) + ((z + z / 256) + (z + z / 256) / 65536) / 4294967296) % 128 = fs 256 8 z := by
  obtain ⟨h0, h1, h2, h3, h4, h5, h6, h7, h8⟩ := h
  change z / 256 / 256 / 256 / 256 / 256 / 256 / 256 / 256 = 0 at h8
  simp only [fs]
  generalize e0 : z % 256 = d0 at *
  generalize f0 : z / 256 = z1 at *
  generalize e1 : z1 % 256 = d1 at *
  generalize f1 : z1 / 256 = z2 at *
  generalize e2 : z2 % 256 = d2 at *
  generalize f2 : z2 / 256 = z3 at *
  generalize e3 : z3 % 256 = d3 at *
  generalize f3 : z3 / 256 = z4 at *
  generalize e4 : z4 % 256 = d4 at *
  generalize f4 : z4 / 256 = z5 at *
  generalize e5 : z5 % 256 = d5 at *
  generalize f5 : z5 / 256 = z6 at *
  generalize e6 : z6 % 256 = d6 at *
  generalize f6 : z6 / 256 = z7 at *
  generalize e7 : z7 % 256 = d7 at *
  have g7 : z7 = d7 := by omega
  have g6 : z6 = d6 + 256 * d7 := by omega
  have g5 : z5 = d5 + 256 * d6 + 65536 * d7 := by omega
  have g4 : z4 = d4 + 256 * d5 + 65536 * d6 + 16777216 * d7 := by omega
  have g3 : z3 = d3 + 256 * d4 + 65536 * d5 + 16777216 * d6 + 4294967296 * d7 := by omega
  have g2 : z2 = d2 + 256 * d3 + 65536 * d4 + 16777216 * d5 + 4294967296 * d6 + 1099511627776 * d7 := by omega
  have g1 : z1 = d1 + 256 * d2 + 65536 * d3 + 16777216 * d4 + 4294967296 * d5 + 1099511627776 * d6 + 281474976710656 * d7 := by omega
  have g0 : z = d0 + 256 * d1 + 65536 * d2 + 16777216 * d3 + 4294967296 * d4 + 1099511627776 * d5 + 281474976710656 * d6 + 72057594037927936 * d7 := by omega
  clear e0 e1 e2 e3 e4 e5 e6 e7 f0 f1 f2 f3 f4 f5 f6 h8
  have k1 : (z + z1) / 65536 = (d2 + d3) + 256 * (d3 + d4) + 65536 * (d4 + d5) + 16777216 * (d5 + d6) + 4294967296 * (d6 + d7) + 1099511627776 * d7 := by omega
  have k2 : (z + z1 + (z + z1) / 65536) / 4294967296 = (d4 + d5 + d6 + d7) + 256 * (d5 + d6 + d7) + 65536 * (d6 + d7) + 16777216 * d7 := by omega
  rw [k2, k1]
  clear k1 k2
  omega
/-- what OnesCount64 reckons -/
theorem pop_all (x : Nat) : D256 8 (c256 8 (c16 16 (c4 32 x))) ∧ fs 256 8 (c256 8 (c16 16 (c4 32 x))) = fs 2 64 x := by
  obtain ⟨a, b⟩ := all256 8 (c16 16 (c4 32 x)) (D16_c16 16 _ (D4_c4 32 x))
  refine ⟨a, b.trans ?_⟩
  rw [fs16 16, fs4 32]
theorem fs2_bits : ∀ n x k (f : Nat → Bool), (∀ j, j < n → x.testBit j = f (k + j)) → fs 2 n x = cnt f k n
  | 0, _, _, _, _ => rfl
  | n + 1, x, k, f, h => by
    have h0 := h 0 (by omega)
    have e : cnt f k (n + 1) = (f k).toNat + cnt f (k + 1) n := by
      rw [Nat.add_comm n 1, cnt_join]; simp [cnt]
    rw [fs, e, fs2_bits n (x / 2) (k + 1) f fun j hj => by rw [Nat.testBit_div_two, h (j + 1) (by omega)]; congr 1; omega]
    rw [Nat.add_zero] at h0
    rw [← h0, Nat.testBit_zero]
    by_cases hp : x % 2 = 1
    · simp [hp]
    · rw [show x % 2 = 0 from by omega]; rfl
theorem pop_W (f : Nat → Bool) (k : Nat) : fs 2 64 (W f k) = cnt f (64 * k) 64 :=
  fs2_bits 64 _ _ f fun j hj => by rw [W_bit]; simp [hj]
theorem c_bounds (x : Nat) (hx : x < 18446744073709551616) : c4 32 x < 18446744073709551616 ∧ c16 16 (c4 32 x) < 18446744073709551616 ∧ c16 16 (c4 32 x) / 16 + c16 16 (c4 32 x) < 18446744073709551616 := by
  have a1 : c4 32 x < 18446744073709551616 := by
    unfold c4
    have h1 := Nat.and_le_left (n := x / 2) (m := mk4 32)
    have h2 : x &&& mk4 32 ≤ mk4 32 := Nat.and_le_right
    rw [mk4_32] at *
    omega
  refine ⟨a1, ?_⟩
  generalize c4 32 x = y at *
  unfold c16
  have h1 : y / 4 &&& mk16 16 ≤ mk16 16 := Nat.and_le_right
  have h2 : y &&& mk16 16 ≤ mk16 16 := Nat.and_le_right
  rw [mk16_16] at *
  omega
end Go.Proofs.YtpfilldnfpcpkaaGreatDoor

namespace Go.Proofs.YtpfilldnfpcpkaaGreatDoor
open Go.RowKit

theorem ret_int {k : IntKind} {a b : Int} (h : a = b) : Ending.returned (.int k a) = .returned (.int k b) := by rw [h]
theorem ret_bool {a b : Bool} (h : a = b) : Ending.returned (.bool a) = .returned (.bool b) := by rw [h]
theorem ret_tup2 {a b a' b' : Value} (h : a = a') (h2 : b = b') : Ending.returned (.tuple #[a, b]) = .returned (.tuple #[a', b']) := by rw [h, h2]
theorem int_eq {k : IntKind} {a b : Int} (h : a = b) : Value.int k a = .int k b := by rw [h]
theorem two_lt {j : Nat} (h : j < 64) : (0 : Int) < 2 ^ j ∧ (2 : Int) ^ j < 18446744073709551616 := by
  have h1 : 2 ^ j < 2 ^ 64 := Nat.pow_lt_pow_right (by omega) h
  have h2 := Nat.two_pow_pos j
  rw [show ((2 : Int) ^ j) = ((2 ^ j : Nat) : Int) from by simp]
  generalize 2 ^ j = x at *
  omega
theorem wrap_pow {j : Nat} (h : j < 64) : IntKind.u64.wrap (2 ^ j) = 2 ^ j := by
  obtain ⟨h1, h2⟩ := two_lt h
  rw [IntKind.wrap_u64]
  generalize (2 : Int) ^ j = x at *
  omega

theorem at_c (i : Nat) (w : World) (_hi : i < 9223372036854775808) :
    Calls Tryz.prog 121 #[.int .i64 i] w fun e w' => e = .returned (.tuple #[.int .i64 (i / 64 : Nat), .int .u64 (W (fun x => x == i) (i / 64) : Nat)]) ∧ w.drew = w' := by
  have hp : ((W (fun x => x == i) (i / 64) : Nat) : Int) = 2 ^ (i % 64) := by
    have := W_one (k := i / 64) (j := i % 64) (by omega)
    rw [show 64 * (i / 64) + i % 64 = i from by omega] at this
    rw [← this]; simp
  have hw := wrap_pow (Nat.mod_lt i (show 0 < 64 by omega))
  go_enter Tryz.func121, Tryz.ntmps121
  go_wp2
  go_region
  all_goals go_wp2
  all_goals go_ret2
  all_goals exact ⟨ret_tup2 (int_eq (by simp)) (int_eq (hw.trans hp.symm)), rfl⟩

theorem is_c (g n : Nat) (i : Int) (w : World) (h0 : w.cell? ⟨g, 0, none⟩ = some (.int .i64 n)) :
    Calls Tryz.prog 120 #[.pointer (some ⟨g, 0, none⟩), .int .i64 i] w fun e w' => e = .returned (.bool (decide (0 ≤ i ∧ i < n))) ∧ w = w' := by
  by_cases h1 : 0 ≤ i
  · by_cases h2 : i < n
    · have d1 : decide (0 ≤ i) = true := decide_eq_true h1
      have d2 : decide (i < n) = true := decide_eq_true h2
      go_enter Tryz.func120, Tryz.ntmps120
      go_wp2
      go_ret
      exact ⟨ret_bool (decide_eq_true ⟨h1, h2⟩).symm, rfl⟩
    · have d1 : decide (0 ≤ i) = true := decide_eq_true h1
      have d2 : decide (i < n) = false := decide_eq_false h2
      go_enter Tryz.func120, Tryz.ntmps120
      go_wp2
      go_ret
      exact ⟨rfl, rfl⟩
  · have d1 : decide (0 ≤ i) = false := decide_eq_false h1
    go_enter Tryz.func120, Tryz.ntmps120
    go_wp2
    go_ret
    exact ⟨rfl, rfl⟩

theorem mask_lo {k from_ : Nat} (h1 : k * 64 ≤ from_) (h2 : from_ < k * 64 + 64) : IntKind.u64.wrap (18446744073709551615 * 2 ^ (from_ - k * 64)) = ((W (fun x => decide (from_ ≤ x)) k : Nat) : Int) := by
  have h := W_from (k := k) (j := from_ - k * 64) (by omega)
  rw [show 64 * k + (from_ - k * 64) = from_ from by omega] at h
  rw [← h]
  obtain ⟨a, b⟩ := two_lt (show from_ - k * 64 < 64 by omega)
  rw [IntKind.wrap_u64]
  have e : ((18446744073709551616 - 2 ^ (from_ - k * 64) : Nat) : Int) = 18446744073709551616 - 2 ^ (from_ - k * 64) := by
    have : 2 ^ (from_ - k * 64) < 2 ^ 64 := Nat.pow_lt_pow_right (by omega) (by omega)
    rw [Int.natCast_sub (by omega)]; simp
  rw [e]
  generalize (2 : Int) ^ (from_ - k * 64) = x at *
  omega
theorem mask_lo0 {k from_ : Nat} (h1 : from_ ≤ k * 64) : (18446744073709551615 : Int) = ((W (fun x => decide (from_ ≤ x)) k : Nat) : Int) := by
  have h := W_from (k := k) (j := 0) (by omega)
  rw [W_congr (f := fun x => decide (from_ ≤ x)) (g := fun i => decide (64 * k + 0 ≤ i)) (fun j _ => by simp; omega), ← h]
  rfl
theorem mask_hi {k to_ : Nat} (h1 : k * 64 ≤ to_) (h2 : to_ < k * 64 + 64) : (18446744073709551615 : Int) / 2 ^ (63 - (to_ - k * 64)) = ((W (fun x => decide (x ≤ to_)) k : Nat) : Int) := by
  have h := W_to (k := k) (j := to_ - k * 64) (by omega)
  rw [show 64 * k + (to_ - k * 64) = to_ from by omega] at h
  rw [← h]
  generalize hj : to_ - k * 64 = j
  have hj2 : j < 64 := by omega
  have e : (18446744073709551615 : Nat) / 2 ^ (63 - j) = 2 ^ (j + 1) - 1 := by
    have p0 := Nat.two_pow_pos (63 - j)
    have p1 : 2 ^ (j + 1) * 2 ^ (63 - j) = 18446744073709551616 := by rw [← Nat.pow_add, show j + 1 + (63 - j) = 64 from by omega]
    have p2 := Nat.two_pow_pos (j + 1)
    generalize 2 ^ (63 - j) = a at *
    generalize 2 ^ (j + 1) = b at *
    refine Nat.div_eq_of_lt_le ?_ ?_
    · rw [Nat.sub_mul, p1]; omega
    · rw [show b - 1 + 1 = b from by omega, p1]; omega
  rw [← e]
  simp
theorem mask_hi0 {k to_ : Nat} (h1 : k * 64 + 63 ≤ to_) : (18446744073709551615 : Int) = ((W (fun x => decide (x ≤ to_)) k : Nat) : Int) := by
  have h := W_to (k := k) (j := 63) (by omega)
  rw [W_congr (f := fun x => decide (x ≤ to_)) (g := fun i => decide (i ≤ 64 * k + 63)) (fun j hj => by rw [Bool.eq_iff_iff]; simp; omega), ← h]
  rfl
theorem mask_c (k from_ to_ : Nat) (w : World) (h1 : from_ / 64 ≤ k) (h2 : k ≤ to_ / 64) (_h3 : from_ ≤ to_) (h4 : to_ < 9223372036854775808) :
    Calls Tryz.prog 168 #[.int .i64 k, .int .i64 from_, .int .i64 to_] w fun e w' => e = .returned (.int .u64 (W (fun x => decide (from_ ≤ x) && decide (x ≤ to_)) k : Nat)) ∧ w.drew = w' := by
  by_cases ha : from_ < k * 64
  · by_cases hb : 63 < to_ - k * 64
    · have hm1 : max ((from_ : Int) - (k : Int) * 64) 0 = 0 := by omega
      have hm2 : min ((to_ : Int) - (k : Int) * 64) 63 = 63 := by omega
      go_enter Tryz.func168, Tryz.ntmps168
      go_wp2
      go_region
      go_wp2
      go_ret
      exact ⟨ret_int ((congrArg (bits .and .u64 · _) (mask_lo0 (k := k) (by omega))).trans ((congrArg (bits .and .u64 _ ·) (mask_hi0 (k := k) (to_ := to_) (by omega))).trans (i_and _ _ k))), rfl⟩
    · have hm1 : max ((from_ : Int) - (k : Int) * 64) 0 = 0 := by omega
      have hm2 : min ((to_ : Int) - (k : Int) * 64) 63 = ((to_ - k * 64 : Nat) : Int) := by omega
      go_enter Tryz.func168, Tryz.ntmps168
      go_wp2
      go_region
      go_wp2
      go_ret
      exact ⟨ret_int ((congrArg (bits .and .u64 · _) (mask_lo0 (k := k) (by omega))).trans ((congrArg (bits .and .u64 _ ·) (mask_hi (k := k) (to_ := to_) (by omega) (by omega))).trans (i_and _ _ k))), rfl⟩
  · by_cases hb : 63 < to_ - k * 64
    · have hm1 : max ((from_ : Int) - (k : Int) * 64) 0 = ((from_ - k * 64 : Nat) : Int) := by omega
      have hm2 : min ((to_ : Int) - (k : Int) * 64) 63 = 63 := by omega
      go_enter Tryz.func168, Tryz.ntmps168
      go_wp2
      go_region
      go_wp2
      go_ret
      exact ⟨ret_int ((congrArg (bits .and .u64 · _) (mask_lo (k := k) (by omega) (by omega))).trans ((congrArg (bits .and .u64 _ ·) (mask_hi0 (k := k) (to_ := to_) (by omega))).trans (i_and _ _ k))), rfl⟩
    · have hm1 : max ((from_ : Int) - (k : Int) * 64) 0 = ((from_ - k * 64 : Nat) : Int) := by omega
      have hm2 : min ((to_ : Int) - (k : Int) * 64) 63 = ((to_ - k * 64 : Nat) : Int) := by omega
      go_enter Tryz.func168, Tryz.ntmps168
      go_wp2
      go_region
      go_wp2
      go_ret
      exact ⟨ret_int ((congrArg (bits .and .u64 · _) (mask_lo (k := k) (by omega) (by omega))).trans ((congrArg (bits .and .u64 _ ·) (mask_hi (k := k) (to_ := to_) (by omega) (by omega))).trans (i_and _ _ k))), rfl⟩

theorem pop1 {x : Nat} (hx : x < 18446744073709551616) : IntKind.u64.wrap (bits .and .u64 (↑x / 2) 6148914691236517205 + bits .and .u64 ↑x 6148914691236517205) = ((c4 32 x : Nat) : Int) := by
  have h := (c_bounds x hx).1
  unfold c4 at *
  rw [mk4_32] at *
  rw [show ((x : Int) / 2) = ((x / 2 : Nat) : Int) from by omega, show (6148914691236517205 : Int) = ((6148914691236517205 : Nat) : Int) from rfl, u64_and_nat _ _ (by omega) (by omega), u64_and_nat _ _ hx (by omega), IntKind.wrap_u64]
  omega
theorem pop2 {x : Nat} (hx : x < 18446744073709551616) (h : c16 16 x < 18446744073709551616) : IntKind.u64.wrap (bits .and .u64 (↑x / 4) 3689348814741910323 + bits .and .u64 ↑x 3689348814741910323) = ((c16 16 x : Nat) : Int) := by
  unfold c16 at *
  rw [mk16_16] at *
  rw [show ((x : Int) / 4) = ((x / 4 : Nat) : Int) from by omega, show (3689348814741910323 : Int) = ((3689348814741910323 : Nat) : Int) from rfl, u64_and_nat _ _ (by omega) (by omega), u64_and_nat _ _ hx (by omega), IntKind.wrap_u64]
  omega
theorem pop3 {x : Nat} (hx : x / 16 + x < 18446744073709551616) : bits .and .u64 (↑x / 16 + ↑x) 1085102592571150095 = ((c256 8 x : Nat) : Int) := by
  unfold c256
  rw [mk256_8]
  rw [show ((x : Int) / 16 + x) = ((x / 16 + x : Nat) : Int) from by omega, show (1085102592571150095 : Int) = ((1085102592571150095 : Nat) : Int) from rfl, u64_and_nat _ _ hx (by omega)]
set_option maxRecDepth 20000 in
theorem ones64_c (x : Nat) (w : World) (hx : x < 18446744073709551616) :
    Calls Tryz.prog 123 #[.int .u64 x] w fun e w' => e = .returned (.int .i64 (fs 2 64 x)) ∧ w = w' := by
  obtain ⟨b1, b2, b3⟩ := c_bounds x hx
  obtain ⟨p1, p2⟩ := pop_all x
  obtain ⟨l1, l2, l3, l4, l5⟩ := last256 p1
  have e1 := pop1 hx
  have e2 := pop2 b1 b2
  have e3 := pop3 b3
  rw [p2] at l5
  have P := Lib.hid l5
  clear l5 p1 p2
  generalize c4 32 x = y1 at *
  generalize c16 16 y1 = y2 at *
  generalize c256 8 y2 = y3 at *
  generalize fs 2 64 x = r at *
  go_enter Tryz.func123, Tryz.ntmps123
  go_wp2
  go_ret
  refine ⟨ret_int ?_, rfl⟩
  rw [← P.out]
  rw [i64_and127]
  simp only [Int.natCast_emod, Int.natCast_add, Int.natCast_ediv]
  rfl
theorem bones_c (f : Nat → Bool) (k : Nat) (w : World) :
    Calls Tryz.prog 123 #[.int .u64 (W f k : Nat)] w fun e w' => e = .returned (.int .i64 (cnt f (64 * k) 64)) ∧ w = w' := by
  rw [← pop_W]; exact ones64_c _ w (W_lt f k)

def Tab (w : World) : Prop := TabAt 0 Lib.deBruijn64tab w
set_option maxHeartbeats 1000000 in
theorem tz64_core (x k idx : Nat) (w : World) (hx0 : ((x : Int) == 0) = false)
    (key : IntKind.u64.wrap (bits BinOp.and IntKind.u64 (x : Int) (IntKind.u64.wrap (-(x : Int))) * 285870213051353865) / 288230376151711744 = (idx : Int))
    (hi : idx < 64) (_hk : k < 64) (hcell : w.cell? ⟨0, idx, none⟩ = some (.int .u8 k)) :
    Calls Tryz.prog 165 #[.int .u64 x] w fun e w' => e = .returned (.int .i64 k) ∧ w = w' := by
  go_enter Tryz.func165, Tryz.ntmps165
  go_wp2_with (simp only [key])
  go_ret
  exact ⟨rfl, rfl⟩
theorem tz_c (x : Nat) (w : World) (hx0 : x ≠ 0) (hx : x < 18446744073709551616) (hT : Tab w) :
    Calls Tryz.prog 165 #[.int .u64 x] w fun e w' => e = .returned (.int .i64 (Lib.ctz 64 x)) ∧ w = w' := by
  obtain ⟨hlow, hk⟩ := Lib.lowest_bit 64 x hx0 hx
  obtain ⟨hi, htab⟩ := Lib.deBruijn64_at _ hk
  have hcell := hT _ hi
  rw [htab] at hcell
  exact tz64_core x _ _ w (by simp; omega) (tz64_key x _ hx hx0 hlow) hi hk hcell
end Go.Proofs.YtpfilldnfpcpkaaGreatDoor

namespace Go.Proofs.YtpfilldnfpcpkaaGreatDoor
open Go.RowKit

/-- in w the map of n bits f lies at block g, its words at block c -/
structure MapAt (w : World) (g c n : Nat) (f : Nat → Bool) : Prop where
  head : Blk w g 158 #[.int .i64 n, .slice (some ⟨c, 0, none⟩) ((n + 63) / 64) ((n + 63) / 64)]
  row : Blk w c 22 (wordsV f ((n + 63) / 64)).toArray
  ne : g ≠ c
  small : n ≤ 65536
  top : ∀ i, n ≤ i → f i = false
theorem MapAt.drew {w : World} {g c n : Nat} {f : Nat → Bool} (h : MapAt w g c n f) : MapAt w.drew g c n f := ⟨h.head, h.row, h.ne, h.small, h.top⟩
theorem MapAt.alloc {w : World} {g c n : Nat} {f : Nat → Bool} (h : MapAt w g c n f) (o : Obj) : MapAt (w.alloc o) g c n f := ⟨h.head.alloc o, h.row.alloc o, h.ne, h.small, h.top⟩
theorem MapAt.after {w w' : World} {g c n : Nat} {f : Nat → Bool} (h : MapAt w g c n f) (hb : Below w.heap.size w w') : MapAt w' g c n f := ⟨h.head.after hb, h.row.after hb, h.ne, h.small, h.top⟩
/-- what lies elsewhere may turn -/
theorem MapAt.grown {w w' : World} {g c n : Nat} {f : Nat → Bool} {row : Option Nat} (h : MapAt w g c n f) (hb : w.grownBy w' row) (h1 : some g ≠ row) (h2 : some c ≠ row) : MapAt w' g c n f :=
  ⟨h.head.grown hb h1, h.row.grown hb h2, h.ne, h.small, h.top⟩
theorem MapAt.size {w : World} {g c n : Nat} {f : Nat → Bool} (h : MapAt w g c n f) : w.cell? ⟨g, 0, none⟩ = some (.int .i64 n) := (h.head.cell 0).trans rfl
theorem MapAt.words {w : World} {g c n : Nat} {f : Nat → Bool} (h : MapAt w g c n f) : w.cell? ⟨g, 1, none⟩ = some (.slice (some ⟨c, 0, none⟩) ((n + 63) / 64) ((n + 63) / 64)) := (h.head.cell 1).trans rfl
theorem MapAt.word {w : World} {g c n : Nat} {f : Nat → Bool} (h : MapAt w g c n f) {k : Nat} (hk : k < (n + 63) / 64) : w.cell? ⟨c, k, none⟩ = some (.int .u64 (W f k : Nat)) := (h.row.cell k).trans (wordsV_get f hk)
theorem MapAt.free {w : World} {g c n : Nat} {f : Nat → Bool} (h : MapAt w g c n f) (k : Nat) : w.frozen? ⟨c, k, none⟩ = false := h.row.frozen k

theorem info_u64 : (Tryz.prog.info? 22).map (fun i => (i.zero, i.size, i.bytes)) = some (some (.int .u64 0), 1, 8) := by kernel_rfl
theorem made_words (K : Nat) : madeCells (Value.cells (.int .u64 0)) K = (wordsV (fun _ => false) K).toArray := by
  rw [words_none]
  apply Array.ext_getElem?
  intro j
  by_cases h : j < K
  · simp [madeCells, Value.cells, h, Nat.mod_one]
  · simp [madeCells, Value.cells, h]
theorem make_words (K : Nat) (hK : K ≤ 65536) (w : World) : (Instr.makeSlice 156 (.int .i64 K) (.int .i64 K)).run Tryz.prog w = .ok (.slice (some ⟨w.heap.size, 0, none⟩) K K) (w.alloc (.cells (wordsV (fun _ => false) K).toArray 22)) := by
  obtain ⟨i0, hi0, hz0, hz1, hz2⟩ := info_parts info_u64
  have h := run_make (P := Tryz.prog) w 156 22 i0 (.int .u64 0) Tryz.underlying156 hi0 hz0 .i64 .i64 K K (by omega) (by omega) (by rw [hz2]; omega) (by omega)
  rw [hz1, Nat.mul_one, made_words] at h
  simpa using h

set_option maxRecDepth 100000 in
theorem new_c (n : Nat) (w : World) (h : n ≤ 65536) :
    Calls Tryz.prog 69 #[.int .i64 n] w fun e w' => e = .returned (.tuple #[.pointer (some ⟨w.heap.size + 1, 0, none⟩), .int .i64 0]) ∧ MapAt w' (w.heap.size + 1) w.heap.size n (fun _ => false) ∧ Below w.heap.size w w' := by
  have d1 : decide ((n : Int) < 0) = false := decide_eq_false (by omega)
  have d2 : decide (65536 < (n : Int)) = false := decide_eq_false (by omega)
  have hmk := make_words ((n + 63) / 64) (by omega)
  rw [show (((n + 63) / 64 : Nat) : Int) = ((n : Int) + 64 - 1) / 64 from by omega] at hmk
  go_enter Tryz.func69, Tryz.ntmps69
  go_wp2_with fail
  go_ret2
  exact ⟨rfl, ⟨Blk.new' _ _ _ _ (by simp), (Blk.new _ _ _).alloc _, by omega, h, fun _ _ => rfl⟩, bl_alloc (bl_alloc (Below.refl _ _) _) _⟩

theorem size_c (g c n : Nat) (f : Nat → Bool) (w : World) (h : MapAt w g c n f) :
    Calls Tryz.prog 72 #[.pointer (some ⟨g, 0, none⟩)] w fun e w' => e = .returned (.int .i64 n) ∧ w = w' := by
  have h0 := h.size
  go_enter Tryz.func72, Tryz.ntmps72
  go_wp2
  go_ret
  exact ⟨rfl, rfl⟩
theorem has_yes (g c n : Nat) (f : Nat → Bool) (i : Nat) (w : World) (h : MapAt w g c n f) (hi : i < n) :
    Calls Tryz.prog 80 #[.pointer (some ⟨g, 0, none⟩), .int .i64 i] w fun e w' => e = .returned (.bool (f i)) ∧ w.drew = w' := by
  have h0 := h.size
  have d : decide ((0 : Int) ≤ (i : Int) ∧ (i : Int) < (n : Int)) = true := decide_eq_true (by omega)
  have h1 := h.words
  have h2 := h.word (k := i / 64) (by omega)
  have hs := h.small
  have hh := i_has f (i / 64) (j := i % 64) (by omega)
  rw [show 64 * (i / 64) + i % 64 = i from by omega] at hh
  have d2 : decide (((i / 64 : Nat) : Int) < (((n + 63) / 64 : Nat) : Int)) = true := decide_eq_true (by omega)
  go_enter Tryz.func80, Tryz.ntmps80
  go_wp2_with fail
  refine (is_c g n i _ h0).mono ?_
  rw [d]
  rintro e w' ⟨rfl, rfl⟩
  go_wp2_with fail
  refine (at_c i _ (by omega)).mono ?_
  rintro e w' ⟨rfl, rfl⟩
  go_wp2_with fail
  go_ret
  exact ⟨rfl, rfl⟩

/-- only block c of the old ones may have turned -/
theorem gb_refl (w : World) (row : Option Nat) : w.grownBy w row := ⟨rfl, rfl, rfl, Nat.le_refl _, fun _ _ _ => rfl⟩
theorem gb_trans {a b d : World} {row : Option Nat} (h : a.grownBy b row) (k : b.grownBy d row) : a.grownBy d row :=
  ⟨k.os.trans h.os, k.tape.trans h.tape, k.output.trans h.output, Nat.le_trans h.size k.size, fun i hi hr => (k.block i (Nat.lt_of_lt_of_le hi h.size) hr).trans (h.block i hi hr)⟩
theorem gb_drew {a b : World} {row : Option Nat} (h : a.grownBy b row) : a.grownBy b.drew row := ⟨h.os, h.tape, h.output, h.size, h.block⟩
theorem gb_set {a b : World} {c k : Nat} (h : a.grownBy b (some c)) (u : Value) : a.grownBy (b.setCell ⟨c, k, none⟩ u) (some c) :=
  gb_trans h ⟨rfl, rfl, rfl, by simp [World.setCell], fun i _ hr => Below.heap_setCell _ _ _ _ (fun e => hr (by rw [e]))⟩
theorem gb_below {a b : World} {row : Option Nat} (h : Below a.heap.size a b) : a.grownBy b row := ⟨h.os, h.tape, h.output, h.size, fun k hk _ => h.block k hk⟩
theorem bl_grown {a w w' : World} {c : Nat} (h : Below a.heap.size a w) (hg : w.grownBy w' (some c)) (hc : a.heap.size ≤ c) : Below a.heap.size a w' :=
  h.grown hg h.size fun k hk => by cases hk; exact hc
theorem MapAt.put {w : World} {g c n i : Nat} {f : Nat → Bool} (h : MapAt w g c n f) (hi : i < n) (b : Bool) : MapAt (w.setCell ⟨c, i / 64, none⟩ (.int .u64 (W (upd f i b) (i / 64) : Nat))) g c n (upd f i b) := by
  refine ⟨h.head.far h.ne _, ?_, h.ne, h.small, fun j hj => ?_⟩
  · rw [← wordsV_put (f := f) (k := i / 64) (fun k' hk _ => W_upd_other f i b hk) (by omega)]
    exact h.row.put _ _
  · rw [upd_ne (by omega)]; exact h.top j hj

theorem bput_c (g c n : Nat) (f : Nat → Bool) (i : Nat) (w : World) (h : MapAt w g c n f) (hi : i < n) (hf : f i = false) :
    Calls Tryz.prog 70 #[.pointer (some ⟨g, 0, none⟩), .int .i64 i] w fun e w' => e = .returned (.int .i64 0) ∧ MapAt w' g c n (upd f i true) ∧ w.grownBy w' (some c) := by
  have h0 := h.size
  have d : decide ((0 : Int) ≤ (i : Int) ∧ (i : Int) < (n : Int)) = true := decide_eq_true (by omega)
  have h1 := h.words
  have h2 := h.word (k := i / 64) (by omega)
  have hz := h.free (i / 64)
  have hs := h.small
  have hh := i_or f (fun x => x == i) (i / 64)
  rw [W_put f i] at hh
  have d2 : decide (((i / 64 : Nat) : Int) < (((n + 63) / 64 : Nat) : Int)) = true := decide_eq_true (by omega)
  go_enter Tryz.func70, Tryz.ntmps70
  go_wp2_with fail
  refine (is_c g n i _ h0).mono ?_
  rw [d]
  rintro e w' ⟨rfl, rfl⟩
  go_wp2_with fail
  refine (has_yes g c n f i _ h hi).mono ?_
  rw [hf]
  rintro e w' ⟨rfl, rfl⟩
  go_wp2_with fail
  refine (at_c i _ (by omega)).mono ?_
  rintro e w' ⟨rfl, rfl⟩
  go_wp2_with fail
  go_ret
  exact ⟨rfl, h.drew.drew.put hi true, gb_set (gb_drew (gb_drew (gb_refl _ _))) _⟩

end Go.Proofs.YtpfilldnfpcpkaaGreatDoor

namespace Go.Proofs.YtpfilldnfpcpkaaGreatDoor
open Go.RowKit

theorem Blk.ne {w : World} {a b : Nat} {t u : TypeId} {x y : Array Value} (h : Blk w a t x) (k : Blk w b u y) (e : t ≠ u) : a ≠ b := by
  rintro rfl
  unfold Blk at h k
  rw [h] at k
  injection k with k
  injection k with _ k
  exact e k
theorem one_is {f : FuncId} {args : Array Value} {w : World} {v : Value} (h : Calls Tryz.prog f args w fun e w' => e = .returned v ∧ w = w') : Calls Tryz.prog f args w fun e w' => e = .returned v ∧ w' = w := h.mono fun _ _ ⟨a, b⟩ => ⟨a, b.symm⟩

/-- what a filling (b true) or clearing has made of f below word k -/
def sofar (b : Bool) (f q : Nat → Bool) (k : Nat) : Nat → Bool := fun i => if q i = true ∧ i < 64 * k then b else f i
theorem sofar_word (b : Bool) (f q : Nat → Bool) (k : Nat) : W (sofar b f q k) k = W f k :=
  W_congr fun j _ => by unfold sofar; rw [if_neg (by omega)]
theorem sofar_or (f q : Nat → Bool) (k : Nat) : W (fun i => f i || q i) k = W (sofar true f q (k + 1)) k :=
  W_congr fun j hj => by
    unfold sofar
    have : 64 * k + j < 64 * (k + 1) := by omega
    cases h : q (64 * k + j) <;> simp [this]
theorem sofar_other (b : Bool) (f q : Nat → Bool) {k k' : Nat} (h : k' ≠ k) : W (sofar b f q k) k' = W (sofar b f q (k + 1)) k' :=
  W_congr fun j hj => by
    unfold sofar
    by_cases e : 64 * k' + j < 64 * k
    · simp only [show 64 * k' + j < 64 * (k + 1) from by omega, e]
    · simp only [show ¬ 64 * k' + j < 64 * (k + 1) from by omega, e]
/-- blocks a and c alone may have turned -/
structure Fr2 (a c : Nat) (w w' : World) : Prop where
  os : w'.os = w.os
  tape : w'.tape = w.tape
  output : w'.output = w.output
  size : w.heap.size ≤ w'.heap.size
  block : ∀ k, k < w.heap.size → k ≠ a → k ≠ c → w'.heap[k]? = w.heap[k]?
theorem Fr2.refl (a c : Nat) (w : World) : Fr2 a c w w := ⟨rfl, rfl, rfl, Nat.le_refl _, fun _ _ _ _ => rfl⟩
theorem Fr2.trans {a c : Nat} {u v w : World} (h : Fr2 a c u v) (k : Fr2 a c v w) : Fr2 a c u w :=
  ⟨k.os.trans h.os, k.tape.trans h.tape, k.output.trans h.output, Nat.le_trans h.size k.size, fun i hi h1 h2 => (k.block i (Nat.lt_of_lt_of_le hi h.size) h1 h2).trans (h.block i hi h1 h2)⟩
theorem Fr2.drew {a c : Nat} {u v : World} (h : Fr2 a c u v) : Fr2 a c u v.drew := ⟨h.os, h.tape, h.output, h.size, h.block⟩
theorem Fr2.set {a c : Nat} {u v : World} (h : Fr2 a c u v) {p : Addr} (hp : p.block = a ∨ p.block = c) (x : Value) : Fr2 a c u (v.setCell p x) :=
  h.trans ⟨rfl, rfl, rfl, by simp [World.setCell], fun i _ h1 h2 => Below.heap_setCell _ _ _ _ (by rcases hp with e | e <;> omega)⟩
theorem Fr2.grown {a c : Nat} {u v w : World} (h : Fr2 a c v w) (hb : Below u.heap.size u v) (ha : u.heap.size ≤ a) : u.grownBy w (some c) :=
  ⟨h.os.trans hb.os, h.tape.trans hb.tape, h.output.trans hb.output, Nat.le_trans hb.size h.size, fun i hi hr => (h.block i (Nat.lt_of_lt_of_le hi hb.size) (by omega) (fun e => hr (by rw [e]))).trans (hb.block i hi)⟩

/-- the closure's variables and the map, when the words below k are done -/
structure Going (b : Bool) (f q h : Nat → Bool) (a bb g c n : Nat) (w0 : World) (k : Nat) (w : World) : Prop where
  box : Blk w a 3 #[.int .i64 (cnt h 0 (64 * k) : Nat)]
  ptr : Blk w bb 101 #[.pointer (some ⟨g, 0, none⟩)]
  map : MapAt w g c n (sofar b f q k)
  frame : Fr2 a c w0 w
theorem Going.drew {b : Bool} {f q h : Nat → Bool} {a bb g c n k : Nat} {w0 w : World} (x : Going b f q h a bb g c n w0 k w) : Going b f q h a bb g c n w0 k w.drew := ⟨x.box.drew, x.ptr.drew, x.map.drew, x.frame.drew⟩
theorem Going.next {b : Bool} {f q h : Nat → Bool} {a bb g c n k : Nat} {w0 w : World} (x : Going b f q h a bb g c n w0 k w) (hk : k < (n + 63) / 64) (hq : ∀ i, n ≤ i → q i = false) :
    Going b f q h a bb g c n w0 (k + 1) ((w.setCell ⟨a, 0, none⟩ (.int .i64 ((cnt h 0 (64 * k) : Nat) + (cnt h (64 * k) 64 : Nat)))).setCell ⟨c, k, none⟩ (.int .u64 (W (sofar b f q (k + 1)) k : Nat))) := by
  have n1 := x.box.ne x.ptr (by decide)
  have n2 := x.box.ne x.map.head (by decide)
  have n3 := x.box.ne x.map.row (by decide)
  have n4 := x.ptr.ne x.map.row (by decide)
  have n5 := x.map.ne
  refine ⟨?_, (x.ptr.far n1.symm _).far n4 _, ⟨(x.map.head.far n2.symm _).far n5 _, ?_, n5, x.map.small, fun i hi => ?_⟩, (x.frame.set (Or.inl rfl) _).set (Or.inr rfl) _⟩
  · have e : cnt h 0 (64 * (k + 1)) = cnt h 0 (64 * k) + cnt h (64 * k) 64 := by
      rw [show 64 * (k + 1) = 64 * k + 64 from by omega, cnt_join, Nat.zero_add]
    rw [e, Int.natCast_add]
    exact (x.box.put 0 _).far n3 _
  · rw [← wordsV_put (f := sofar b f q k) (k := k) (fun k' hk' _ => sofar_other b f q hk') hk]
    exact (x.map.row.far n3.symm _).put k _
  · unfold sofar; rw [hq i hi, if_neg (by simp)]
    have := x.map.top i hi
    unfold sofar at this
    rw [hq i hi, if_neg (by simp)] at this
    exact this

set_option maxRecDepth 20000 in
theorem fill1_c (a b g c n k : Nat) (f q : Nat → Bool) (w0 w : World) (hx : Going true f q (fun i => q i && !f i) a b g c n w0 k w) (hk : k < (n + 63) / 64) (hq : ∀ i, n ≤ i → q i = false) :
    Calls Tryz.prog 141 #[.int .i64 k, .int .u64 (W q k : Nat), .pointer (some ⟨a, 0, none⟩), .pointer (some ⟨b, 0, none⟩)] w fun e w' => e = .returned (.tuple #[]) ∧ Going true f q (fun i => q i && !f i) a b g c n w0 (k + 1) w' := by
  have hfin := hx.drew.next hk hq
  have k0 := (hx.box.cell 0).trans rfl
  have k1 := (hx.ptr.cell 0).trans rfl
  simp only [List.getElem?_toArray, List.getElem?_cons_zero] at k0 k1
  have k2 := hx.map.words
  have k3 := hx.map.word hk
  rw [sofar_word] at k3
  have hh := i_andNot q f k
  have hh2 := i_or f q k
  rw [sofar_or] at hh2
  have hsm := hx.map.small
  have n1 := hx.box.ne hx.ptr (by decide)
  have n2 := hx.box.ne hx.map.head (by decide)
  have n3 := hx.box.ne hx.map.row (by decide)
  have hb1 := cnt_le (fun i => q i && !f i) 0 (64 * k)
  have hb2 := cnt_le (fun i => q i && !f i) (64 * k) 64
  have dk : (k : Int) < ((n : Int) + 63) / 64 := by omega
  have z0 := hx.drew.box.frozen 0
  have z1 := hx.drew.map.free k
  have HF := Lib.hid hfin
  clear hfin hx hq
  generalize cnt (fun i => q i && !f i) 0 (64 * k) = s at *
  go_enter Tryz.func141, Tryz.ntmps141
  go_wp2_with fail
  refine wp_region_still_tail 12 (by kernel_rfl) (by kernel_rfl) ?_
  simp only [List.take_succ_cons, List.take_zero, List.drop_succ_cons, List.drop_zero]
  iterate 10 still_step
  still_call (one_is (bones_c _ _ _))
  still_step
  refine wpStill_nil ?_
  change wpList _ _ _ _ _ w.drew
  have q0 : w.drew.cell? ⟨a, 0, none⟩ = some (Value.int .i64 s) := k0
  have q1 : w.drew.cell? ⟨b, 0, none⟩ = some (Value.pointer (some ⟨g, 0, none⟩)) := k1
  have q2 : w.drew.cell? ⟨g, 1, none⟩ = some (.slice (some ⟨c, 0, none⟩) ((n + 63) / 64) ((n + 63) / 64)) := k2
  have q3 : w.drew.cell? ⟨c, k, none⟩ = some (.int .u64 (W f k : Nat)) := k3
  clear k0 k1 k2 k3
  generalize w.drew = w2 at *
  go_wp2_with fail
  go_end0
  exact ⟨rfl, HF.out⟩

end Go.Proofs.YtpfilldnfpcpkaaGreatDoor

namespace Go.Proofs.YtpfilldnfpcpkaaGreatDoor
open Go.RowKit

/-- from i to j -/
def inr (i j : Nat) : Nat → Bool := fun x => decide (i ≤ x) && decide (x ≤ j)
set_option maxRecDepth 20000 in
theorem fill_each (B : Bool) (f h : Nat → Bool) (a b g c n i j : Nat) (w0 w : World)
    (hstep : ∀ k w, k < (n + 63) / 64 → Going B f (inr i j) h a b g c n w0 k w →
      Calls Tryz.prog 141 #[.int .i64 k, .int .u64 (W (inr i j) k : Nat), .pointer (some ⟨a, 0, none⟩), .pointer (some ⟨b, 0, none⟩)] w fun e w' => e = .returned (.tuple #[]) ∧ Going B f (inr i j) h a b g c n w0 (k + 1) w')
    (hi : i ≤ j) (hj : j < n) (hx : Going B f (inr i j) h a b g c n w0 (i / 64) w) :
    Calls Tryz.prog 140 #[.pointer (some ⟨g, 0, none⟩), .int .i64 i, .int .i64 j, .func (.func 141) #[] #[.pointer (some ⟨a, 0, none⟩), .pointer (some ⟨b, 0, none⟩)]] w
      fun e w' => e = .returned (.int .i64 0) ∧ Going B f (inr i j) h a b g c n w0 (j / 64 + 1) w' := by
  have h0 := hx.map.size
  have hs := hx.map.small
  have d1 : decide ((0 : Int) ≤ (i : Int) ∧ (i : Int) < (n : Int)) = true := decide_eq_true (by omega)
  have d2 : decide ((0 : Int) ≤ (j : Int) ∧ (j : Int) < (n : Int)) = true := decide_eq_true (by omega)
  have d3 : decide (j < i) = false := decide_eq_false (by omega)
  have HS := Lib.hid hstep
  clear hstep
  go_enter Tryz.func140, Tryz.ntmps140
  go_wp2_with fail
  refine (is_c g n i _ h0).mono ?_
  rw [d1]
  rintro e w' ⟨rfl, rfl⟩
  go_wp2_with fail
  refine (is_c g n j _ h0).mono ?_
  rw [d2]
  rintro e w' ⟨rfl, rfl⟩
  go_wp2_with fail
  clear h0 d1 d2 d3
  go_loopw [9] (fun k wr => ∃ m : Nat, i / 64 ≤ m ∧ m ≤ j / 64 + 1 ∧ k = .int .i64 m ∧ Going B f (inr i j) h a b g c n w0 m wr) (fun k _ => j / 64 + 1 - (intOf k).toNat)
  case atStart => exact ⟨i / 64, by omega, by omega, by go_num, hx⟩
  case round =>
    obtain ⟨m, hm1, hm2, rfl, hg⟩ := hrel
    by_cases hlt : m ≤ j / 64
    · have dk : decide ((m : Int) ≤ (j : Int) / 64) = true := decide_eq_true (by omega)
      go_wp2_with fail
      refine (mask_c m i j _ (by omega) (by omega) hi (by omega)).mono ?_
      rintro e w' ⟨rfl, rfl⟩
      go_wp2_with fail
      refine (HS.out m _ (by omega) hg.drew).mono ?_
      rintro e w' ⟨rfl, hg'⟩
      go_wp2_with fail
      go_roundw
      case rel => exact ⟨m + 1, by omega, by omega, by go_num, hg'⟩
      case measure => simp [intOf]; omega
    · have dk : decide ((m : Int) ≤ (j : Int) / 64) = false := decide_eq_false (by omega)
      obtain rfl : m = j / 64 + 1 := by omega
      go_wp2_with fail
      go_ret
      exact ⟨rfl, hg⟩
theorem sofar_end (b : Bool) (f : Nat → Bool) (i j : Nat) : sofar b f (inr i j) (j / 64 + 1) = fun x => if i ≤ x ∧ x ≤ j then b else f x := by
  funext x
  unfold sofar inr
  by_cases e : i ≤ x ∧ x ≤ j
  · rw [if_pos e, if_pos ⟨by simp [e], by omega⟩]
  · rw [if_neg e, if_neg (by simp only [Bool.and_eq_true, decide_eq_true_eq]; omega)]
theorem sofar_start (b : Bool) (f : Nat → Bool) (i j : Nat) : sofar b f (inr i j) (i / 64) = f := by
  funext x
  unfold sofar inr
  rw [if_neg (by simp only [Bool.and_eq_true, decide_eq_true_eq]; omega)]
theorem MapAt.same {w : World} {g c n : Nat} {f f' : Nat → Bool} (h : MapAt w g c n f) (e : f = f') : MapAt w g c n f' := e ▸ h

theorem fill_c (g c n i j : Nat) (f : Nat → Bool) (w : World) (h : MapAt w g c n f) (hi : i ≤ j) (hj : j < n) :
    Calls Tryz.prog 98 #[.pointer (some ⟨g, 0, none⟩), .int .i64 i, .int .i64 j] w fun e w' =>
      e = .returned (.tuple #[.int .i64 (cnt (fun x => !f x) i (j + 1 - i) : Nat), .int .i64 0]) ∧ MapAt w' g c n (fun x => if i ≤ x ∧ x ≤ j then true else f x) ∧ w.grownBy w' (some c) := by
  have hcnt : cnt (fun x => inr i j x && !f x) 0 (64 * (j / 64 + 1)) = cnt (fun x => !f x) i (j + 1 - i) := by
    have e : 64 * (j / 64 + 1) = i + ((j + 1 - i) + (64 * (j / 64 + 1) - (j + 1))) := by omega
    rw [e, cnt_join, cnt_join, Nat.zero_add, cnt_none (n := i) (fun x _ hx => by unfold inr; simp; omega), Nat.zero_add,
      cnt_none (a := i + (j + 1 - i)) (fun x hx _ => by unfold inr; simp; omega), Nat.add_zero]
    exact cnt_congr fun x h1 h2 => by unfold inr; rw [show decide (i ≤ x) = true from decide_eq_true h1, show decide (x ≤ j) = true from decide_eq_true (by omega)]; simp
  have hq : ∀ x, n ≤ x → inr i j x = false := fun x hx => by unfold inr; rw [show decide (x ≤ j) = false from decide_eq_false (by omega)]; simp
  have hstart : Going true f (inr i j) (fun x => inr i j x && !f x) (w.heap.size + 1) w.heap.size g c n ((w.alloc (.cells #[.pointer (some ⟨g, 0, none⟩)] 101)).alloc (.cells #[.int .i64 0] 3)) (i / 64)
      ((w.alloc (.cells #[.pointer (some ⟨g, 0, none⟩)] 101)).alloc (.cells #[.int .i64 0] 3)) := by
    refine ⟨?_, (Blk.new _ _ _).alloc _, ((h.alloc _).alloc _).same (sofar_start _ _ _ _).symm, Fr2.refl _ _ _⟩
    rw [cnt_none fun x _ hx => by unfold inr; simp; omega]
    exact Blk.new' _ _ _ _ (by simp)
  have HC := Lib.hid hcnt
  clear hcnt
  go_enter Tryz.func98, Tryz.ntmps98
  go_wp2_with fail
  refine (fill_each true f (fun x => inr i j x && !f x) (w.heap.size + 1) w.heap.size g c n i j _ _ (fun k w1 hk hg => fill1_c _ _ g c n k f (inr i j) _ w1 hg hk hq) hi hj hstart).mono ?_
  rintro e w' ⟨rfl, hg⟩
  have k0 := (hg.box.cell 0).trans rfl
  simp only [List.getElem?_toArray, List.getElem?_cons_zero] at k0
  have hmap := hg.map.same (sofar_end _ _ _ _)
  have hfr := hg.frame.grown (bl_alloc (bl_alloc (Below.refl _ _) _) _) (by omega)
  rw [HC.out] at k0
  clear hstart hq hg
  go_wp2_with fail
  go_ret2
  exact ⟨rfl, hmap, hfr⟩
end Go.Proofs.YtpfilldnfpcpkaaGreatDoor

namespace Go.Proofs.YtpfilldnfpcpkaaGreatDoor
open Go.RowKit

theorem i_xor (f : Nat → Bool) (k : Nat) : bits .xor .u64 IntKind.u64.max (W f k : Int) = ((W (fun i => !f i) k : Nat) : Int) := by
  have e : IntKind.u64.max = ((18446744073709551615 : Nat) : Int) := by decide
  rw [e, u64_xor_nat _ _ (by omega) (W_lt f k), ← W_not]
  have h := W_lt' f k
  congr 1
  apply Nat.eq_of_testBit_eq
  intro j
  rw [Nat.testBit_xor, show 18446744073709551615 = 2 ^ 64 - 1 from rfl, Nat.testBit_two_pow_sub_one, show 2 ^ 64 - 1 - W f k = 2 ^ 64 - (W f k + 1) from by omega, Nat.testBit_two_pow_sub_succ h]
  by_cases hj : j < 64
  · simp [hj]
  · have : (W f k).testBit j = false := by rw [W_bit]; simp [hj]
    simp [hj, this]
theorem low_ones (m : Nat) : IntKind.u64.wrap (2 ^ (m % 64) - 1) = ((W (fun x => decide (x < m)) (m / 64) : Nat) : Int) := by
  have h := W_low (k := m / 64) (j := m % 64) (by omega)
  rw [show 64 * (m / 64) + m % 64 = m from by omega] at h
  rw [← h]
  obtain ⟨a, b⟩ := two_lt (show m % 64 < 64 by omega)
  have p := Nat.two_pow_pos (m % 64)
  rw [Int.natCast_sub (by omega), Int.natCast_pow]
  rw [IntKind.wrap_u64]
  show (2 ^ (m % 64) - 1) % 18446744073709551616 = (2 : Int) ^ (m % 64) - 1
  generalize (2 : Int) ^ (m % 64) = x at *
  omega
/-- what is free in a word from bit m on -/
def bfr (f : Nat → Bool) (m : Nat) : Nat → Bool := fun x => !f x && !decide (x < m)
theorem fr_zero {f : Nat → Bool} {m : Nat} (h : W (bfr f m) (m / 64) = 0) : ∀ x, m ≤ x → x < 64 * (m / 64 + 1) → f x = true := by
  intro x h1 h2
  have := W_eq_zero h (x - 64 * (m / 64)) (by omega)
  rw [show 64 * (m / 64) + (x - 64 * (m / 64)) = x from by omega] at this
  unfold bfr at this
  simpa [show ¬ x < m by omega] using this
theorem fr_first {f : Nat → Bool} {m : Nat} (h : W (bfr f m) (m / 64) ≠ 0) : ∃ t, Lib.ctz 64 (W (bfr f m) (m / 64)) = t ∧ t < 64 ∧ m ≤ 64 * (m / 64) + t ∧ f (64 * (m / 64) + t) = false ∧ ∀ x, m ≤ x → x < 64 * (m / 64) + t → f x = true := by
  obtain ⟨a, b, c⟩ := ctz_W h
  generalize Lib.ctz 64 (W (bfr f m) (m / 64)) = t at *
  unfold bfr at b
  simp at b
  refine ⟨t, rfl, a, by omega, b.1, fun x h1 h2 => ?_⟩
  have := c (x - 64 * (m / 64)) (by omega)
  rw [show 64 * (m / 64) + (x - 64 * (m / 64)) = x from by omega] at this
  unfold bfr at this
  simpa [show ¬ x < m by omega] using this
theorem Tab.after {w w' : World} (h : Tab w) (hg : 0 < w.heap.size) (hb : Below w.heap.size w w') : Tab w' := fun j hj => (hb.cell (p := ⟨0, j, none⟩) hg).trans (h j hj)
theorem Tab.drewN {w : World} (h : Tab w) (n : Nat) : Tab (w.drewN n) := fun j hj => h j hj
theorem Tab.lt {w : World} (h : Tab w) : 0 < w.heap.size := by
  have := h 0 (by decide)
  rcases Nat.lt_or_ge 0 w.heap.size with k | k
  · exact k
  · unfold World.cell? at this
    simp [Array.getElem?_eq_none k] at this

/-- the answer of seek from a below e -/
def Sought (f : Nat → Bool) (a e : Nat) (w0 : World) (x : Ending) (w : World) : Prop :=
  ∃ (i : Nat) (b : Bool), x = .returned (.tuple #[.int .i64 i, .bool b]) ∧ (b = true → a ≤ i ∧ i < e ∧ f i = false ∧ ∀ y, a ≤ y → y < i → f y = true) ∧ (b = false → ∀ y, a ≤ y → y < e → f y = true) ∧ Below w0.heap.size w0 w
set_option maxRecDepth 20000 in
theorem seek_c (g c n a e : Nat) (f : Nat → Bool) (w : World) (h : MapAt w g c n f) (hT : Tab w) (he : e ≤ n) (ha : a ≤ n) :
    Calls Tryz.prog 131 #[.pointer (some ⟨g, 0, none⟩), .int .i64 a, .int .i64 e] w (Sought f a e w) := by
  have hs := h.small
  have hTl := hT.lt
  go_enter Tryz.func131, Tryz.ntmps131
  go_wp2_with fail
  go_loopw [8] (fun i wr => ∃ m : Nat, i = .int .i64 m ∧ a ≤ m ∧ (∀ y, a ≤ y → y < m → f y = true) ∧ Below w.heap.size w wr) (fun k _ => n - (intOf k).toNat)
  case atStart => exact ⟨a, rfl, by omega, fun y h1 h2 => absurd h1 (by omega), Below.refl _ _⟩
  case round =>
    obtain ⟨m, rfl, hm, hall, hbel⟩ := hrel
    have HA := Lib.hid hall
    clear hall
    by_cases hlt : m < e
    · have dk : decide (m < e) = true := decide_eq_true hlt
      have h2 := h.after hbel
      have hT2 := hT.after hTl hbel
      have k1 := h2.words
      have k2 := h2.word (k := m / 64) (by omega)
      have d2 : (m : Int) / 64 < ((n : Int) + 63) / 64 := by omega
      have s1 : ¬ IntKind.u64.signed = true := by decide
      have s2 := wrap_pow (Nat.mod_lt m (show 0 < 64 by omega))
      have s3 := low_ones m
      have s4 := i_xor f (m / 64)
      have s5 := i_andNot (fun i => !f i) (fun x => decide (x < m)) (m / 64)
      change _ = ((W (bfr f m) (m / 64) : Nat) : Int) at s5
      by_cases h0 : W (bfr f m) (m / 64) = 0
      · have hz := fr_zero h0
        have HZ := Lib.hid hz
        rw [h0] at s5
        clear hz
        go_wp2_with fail
        refine (at_c m _ (by omega)).mono ?_
        rintro e w' ⟨rfl, rfl⟩
        go_wp2_with fail
        go_quiet (fail)
        go_wp2_with fail
        go_roundw
        case rel =>
          refine ⟨64 * (m / 64 + 1), by go_num, by omega, fun y h1 h2 => ?_, bl_drewN hbel _⟩
          by_cases hy : y < m
          · exact HA.out y h1 hy
          · exact HZ.out y (by omega) h2
        case measure => simp [intOf]; omega
      · obtain ⟨t, ht, t1, t2, t3, t4⟩ := fr_first h0
        have T3 := Lib.hid t3
        have T4 := Lib.hid t4
        have htz := tz_c (W (bfr f m) (m / 64)) 
        rw [ht] at htz
        have d3 : (((W (bfr f m) (m / 64) : Nat) : Int) != 0) = true := by simp; omega
        have hWl := W_lt (bfr f m) (m / 64)
        clear t3 t4 ht
        generalize W (bfr f m) (m / 64) = F at *
        have HTZ := Lib.hid htz
        clear htz
        go_wp2_with fail
        refine (at_c m _ (by omega)).mono ?_
        rintro e w' ⟨rfl, rfl⟩
        go_wp2_with fail
        go_quiet (fail)
        go_wp2_with fail
        refine (HTZ.out _ h0 hWl (hT2.drewN _)).mono ?_
        rintro e w' ⟨rfl, rfl⟩
        go_wp2_with fail
        go_ret2
        refine ⟨64 * (m / 64) + t, decide (64 * (m / 64) + t < e), ?_, fun hb => ⟨by omega, of_decide_eq_true hb, T3.out, fun y h1 h2 => ?_⟩, fun hb y h1 h2 => ?_, bl_drewN hbel _⟩
        · have e1 : ((m : Int) / 64 * 64 + t) = ((64 * (m / 64) + t : Nat) : Int) := by omega
          have e2 : decide ((m : Int) / 64 * 64 + t < e) = decide (64 * (m / 64) + t < e) := by
            rw [Bool.eq_iff_iff]; simp only [decide_eq_true_eq]; omega
          exact ret_tup2 (int_eq e1) (congrArg Value.bool e2)
        · by_cases hy : y < m
          · exact HA.out y h1 hy
          · exact T4.out y (by omega) h2
        · by_cases hy : y < m
          · exact HA.out y h1 hy
          · exact T4.out y (by omega) (Nat.lt_of_lt_of_le h2 (by have := of_decide_eq_false hb; omega))
    · have dk : decide (m < e) = false := decide_eq_false hlt
      go_wp2_with fail
      go_ret2
      refine ⟨0, false, rfl, by simp, fun _ y h1 h2 => HA.out y h1 (by omega), hbel⟩

/-- the first one from a on, round once, that isn't a one -/
def IsNext (f : Nat → Bool) (n a j : Nat) : Prop := j < n ∧ f j = false ∧ ((a ≤ j ∧ ∀ y, a ≤ y → y < j → f y = true) ∨ (j < a ∧ (∀ y, a ≤ y → y < n → f y = true) ∧ ∀ y, y < j → f y = true))
def Nexted (f : Nat → Bool) (n a : Nat) (w0 : World) (x : Ending) (w : World) : Prop :=
  ∃ (i : Nat) (b : Bool), x = .returned (.tuple #[.int .i64 i, .bool b]) ∧ (b = true → IsNext f n a i) ∧ (b = false → i = 0 ∧ ∀ y, y < n → f y = true) ∧ Below w0.heap.size w0 w
/-- where a search begins -/
def startAt (i : Int) (n : Nat) : Nat := i.toNat % n
theorem seek_z (g c n e : Nat) (f : Nat → Bool) (w : World) (h : MapAt w g c n f) (hT : Tab w) (he : e ≤ n) :
    Calls Tryz.prog 131 #[.pointer (some ⟨g, 0, none⟩), .int .i64 0, .int .i64 e] w (Sought f 0 e w) := seek_c g c n 0 e f w h hT he (by omega)
theorem next_fin {f : Nat → Bool} {n a j : Nat} {w0 w1 w : World} (ha : a ≤ n) (hbel : Below w0.heap.size w0 w1) (h0 : ∀ y, a ≤ y → y < n → f y = true)
    {b : Bool} (h1 : b = true → 0 ≤ j ∧ j < a ∧ f j = false ∧ ∀ y, 0 ≤ y → y < j → f y = true) (h2 : b = false → ∀ y, 0 ≤ y → y < a → f y = true) (hb2 : Below w1.heap.size w1 w) :
    (b = true → IsNext f n a j) ∧ (b = false → ∀ y, y < n → f y = true) ∧ Below w0.heap.size w0 w := by
  refine ⟨fun hb => ?_, fun hb y hy => ?_, bl_trans hbel hb2⟩
  · obtain ⟨_, q1, q2, q3⟩ := h1 hb
    exact ⟨by omega, q2, Or.inr ⟨q1, h0, fun y hy => q3 y (by omega) hy⟩⟩
  · by_cases e : y < a
    · exact h2 hb y (by omega) e
    · exact h0 y (by omega) hy
set_option maxRecDepth 20000 in
theorem next_c (g c n : Nat) (f : Nat → Bool) (i : Int) (w : World) (h : MapAt w g c n f) (hT : Tab w) :
    Calls Tryz.prog 89 #[.pointer (some ⟨g, 0, none⟩), .int .i64 i] w (Nexted f n (startAt i n) w) := by
  have hs := h.small
  have h0 := h.size
  by_cases hn : n = 0
  · have d0 : ((n : Int) == 0) = true := by simp [hn]
    have HN := Lib.hid hn
    clear hn
    go_enter Tryz.func89, Tryz.ntmps89
    go_wp2_with fail
    go_ret2
    exact ⟨0, false, rfl, by simp, fun _ => ⟨rfl, fun y hy => by have := HN.out; omega⟩, Below.refl _ _⟩
  · have d0 : ((n : Int) == 0) = false := by simp [hn]
    have ha : startAt i n < n := Nat.mod_lt _ (by omega)
    by_cases hi : i ≤ 0
    · have e0 : startAt i n = 0 := by unfold startAt; rw [show i.toNat = 0 from by omega, Nat.zero_mod]
      rw [e0]
      have hmx : ¬ 0 < i := by omega
      have hmx2 : max 0 i = 0 := by omega
      clear ha e0
      go_enter Tryz.func89, Tryz.ntmps89
      go_wp2_with fail
      refine (seek_z g c n n f _ h hT (Nat.le_refl _)).mono ?_
      rintro e w1 ⟨j, b, rfl, q1, q2, hbel⟩
      have Q1 := Lib.hid q1
      have Q2 := Lib.hid q2
      clear q1 q2
      have h1 := h.after hbel
      have hT1 := hT.after hT.lt hbel
      cases b
      · go_wp2_with fail
        refine (seek_z g c n 0 f _ h1 hT1 (by omega)).mono ?_
        rintro e w2 ⟨j2, b2, rfl, q3, q4, hbel2⟩
        obtain ⟨z1, z2, z3⟩ := next_fin (n := n) (a := 0) (by omega) hbel (Q2.out (by trivial)) q3 q4 hbel2
        have Z1 := Lib.hid z1
        have Z2 := Lib.hid z2
        clear z1 z2 q3 q4
        cases b2
        · go_wp2_with fail
          go_ret2
          exact ⟨0, false, rfl, by simp, fun _ => ⟨rfl, Z2.out (by trivial)⟩, z3⟩
        · go_wp2_with fail
          go_ret2
          exact ⟨j2, true, rfl, fun _ => Z1.out (by trivial), by simp, z3⟩
      · go_wp2_with fail
        go_ret2
        obtain ⟨q1, q2, q3, q4⟩ := Q1.out (by trivial)
        exact ⟨j, true, rfl, fun _ => ⟨q2, q3, Or.inl ⟨q1, q4⟩⟩, by simp, hbel⟩
    · obtain ⟨I, rfl⟩ := Int.eq_ofNat_of_zero_le (show 0 ≤ i by omega)
      have hmod : (I : Int) % n = (startAt (I : Int) n : Nat) := by unfold startAt; simp
      generalize startAt (I : Int) n = a at *
      have hmx : 0 < I := by omega
      have hmx2 : max 0 (I : Int) = (I : Int) := by omega
      go_enter Tryz.func89, Tryz.ntmps89
      go_wp2_with fail
      refine (seek_c g c n a n f _ h hT (Nat.le_refl _) (by omega)).mono ?_
      rintro e w1 ⟨j, b, rfl, q1, q2, hbel⟩
      have Q1 := Lib.hid q1
      have Q2 := Lib.hid q2
      clear q1 q2
      have h1 := h.after hbel
      have hT1 := hT.after hT.lt hbel
      cases b
      · go_wp2_with fail
        refine (seek_z g c n a f _ h1 hT1 (by omega)).mono ?_
        rintro e w2 ⟨j2, b2, rfl, q3, q4, hbel2⟩
        obtain ⟨z1, z2, z3⟩ := next_fin (n := n) (a := a) (by omega) hbel (Q2.out (by trivial)) q3 q4 hbel2
        have Z1 := Lib.hid z1
        have Z2 := Lib.hid z2
        clear z1 z2 q3 q4
        cases b2
        · go_wp2_with fail
          go_ret2
          exact ⟨0, false, rfl, by simp, fun _ => ⟨rfl, Z2.out (by trivial)⟩, z3⟩
        · go_wp2_with fail
          go_ret2
          exact ⟨j2, true, rfl, fun _ => Z1.out (by trivial), by simp, z3⟩
      · go_wp2_with fail
        go_ret2
        obtain ⟨q1, q2, q3, q4⟩ := Q1.out (by trivial)
        exact ⟨j, true, rfl, fun _ => ⟨q2, q3, Or.inl ⟨q1, q4⟩⟩, by simp, hbel⟩
end Go.Proofs.YtpfilldnfpcpkaaGreatDoor

namespace Go.Proofs.YtpfilldnfpcpkaaGreatDoor
open Go.RowKit

def boolsV (f : Nat → Bool) (n : Nat) : List Value := (List.range n).map fun k => Value.bool (f k)
theorem boolsV_put (f : Nat → Bool) {n k : Nat} (b : Bool) (hk : k < n) : (boolsV f n).toArray.setIfInBounds k (.bool b) = (boolsV (upd f k b) n).toArray := by
  apply Array.ext_getElem?
  intro j
  rw [Array.getElem?_setIfInBounds]
  simp only [boolsV, List.getElem?_toArray, List.getElem?_map, List.size_toArray, List.length_map, List.length_range]
  by_cases hjk : k = j
  · subst hjk; simp [hk, upd]
  · rw [if_neg hjk]
    by_cases hj : j < n
    · simp [hj]; rw [upd_ne (by omega)]
    · simp [hj]
/-- in w the reference's map of n bits f lies at block g, its truths at block c -/
structure RefAt (w : World) (g c n : Nat) (f : Nat → Bool) : Prop where
  head : Blk w g 118 #[.slice (some ⟨c, 0, none⟩) n n]
  row : Blk w c 4 (boolsV f n).toArray
  ne : g ≠ c
  small : n ≤ 65536
theorem RefAt.drew {w : World} {g c n : Nat} {f : Nat → Bool} (h : RefAt w g c n f) : RefAt w.drew g c n f := ⟨h.head, h.row, h.ne, h.small⟩
theorem RefAt.alloc {w : World} {g c n : Nat} {f : Nat → Bool} (h : RefAt w g c n f) (o : Obj) : RefAt (w.alloc o) g c n f := ⟨h.head.alloc o, h.row.alloc o, h.ne, h.small⟩
theorem RefAt.after {w w' : World} {g c n : Nat} {f : Nat → Bool} (h : RefAt w g c n f) (hb : Below w.heap.size w w') : RefAt w' g c n f := ⟨h.head.after hb, h.row.after hb, h.ne, h.small⟩
theorem RefAt.grown {w w' : World} {g c n : Nat} {f : Nat → Bool} {row : Option Nat} (h : RefAt w g c n f) (hb : w.grownBy w' row) (h1 : some g ≠ row) (h2 : some c ≠ row) : RefAt w' g c n f :=
  ⟨h.head.grown hb h1, h.row.grown hb h2, h.ne, h.small⟩
theorem RefAt.free {w : World} {g c n : Nat} {f : Nat → Bool} (h : RefAt w g c n f) (k : Nat) : w.frozen? ⟨c, k, none⟩ = false := h.row.frozen k
theorem RefAt.put {w : World} {g c n i : Nat} {f : Nat → Bool} (h : RefAt w g c n f) (hi : i < n) (b : Bool) : RefAt (w.setCell ⟨c, i, none⟩ (.bool b)) g c n (upd f i b) := by
  refine ⟨h.head.far h.ne _, ?_, h.ne, h.small⟩
  rw [← boolsV_put f b hi]
  exact h.row.put _ _
theorem RefAt.same {w : World} {g c n : Nat} {f f' : Nat → Bool} (h : RefAt w g c n f) (e : f = f') : RefAt w g c n f' := e ▸ h

end Go.Proofs.YtpfilldnfpcpkaaGreatDoor

namespace Go.Proofs.YtpfilldnfpcpkaaGreatDoor.PPo
open Go.RowKit Go.Proofs.YtpfilldnfpcpkaaGreatDoorW.PrintWords Go.Proofs.YtpfilldnfpcpkaaGreatDoorW.PrintLast Go.Proofs.YtpfilldnfpcpkaaGreatDoorW.PrintMore
attribute [local go_sem] max2_int min2_int max_two min_two max_three min_three max_four min_four   -- for this text's walks alone

end Go.Proofs.YtpfilldnfpcpkaaGreatDoor.PPo

namespace Go.Proofs.YtpfilldnfpcpkaaGreatDoor.PPo
open Go.RowKit Go.Proofs.YtpfilldnfpcpkaaGreatDoorW.PrintWords Go.Proofs.YtpfilldnfpcpkaaGreatDoorW.PrintLast Go.Proofs.YtpfilldnfpcpkaaGreatDoorW.PrintMore
attribute [local go_sem] max2_int min2_int max_two min_two max_three min_three max_four min_four   -- for this text's walks alone

end Go.Proofs.YtpfilldnfpcpkaaGreatDoor.PPo

namespace Go.Proofs.YtpfilldnfpcpkaaGreatDoor.PPo
open Go.RowKit Go.Proofs.YtpfilldnfpcpkaaGreatDoorW.PrintWords Go.Proofs.YtpfilldnfpcpkaaGreatDoorW.PrintLast Go.Proofs.YtpfilldnfpcpkaaGreatDoorW.PrintMore
attribute [local go_sem] max2_int min2_int max_two min_two max_three min_three max_four min_four   -- for this text's walks alone

attribute [local go_sem high] eqA26
end Go.Proofs.YtpfilldnfpcpkaaGreatDoor.PPo

namespace Go.Proofs.YtpfilldnfpcpkaaGreatDoor.PPo
open Go.RowKit Go.Proofs.YtpfilldnfpcpkaaGreatDoorW.PrintWords Go.Proofs.YtpfilldnfpcpkaaGreatDoorW.PrintLast Go.Proofs.YtpfilldnfpcpkaaGreatDoorW.PrintMore
attribute [local go_sem] max2_int min2_int max_two min_two max_three min_three max_four min_four   -- for this text's walks alone

end Go.Proofs.YtpfilldnfpcpkaaGreatDoor.PPo

namespace Go.Proofs.YtpfilldnfpcpkaaGreatDoor.PPo
open Go.RowKit Go.Proofs.YtpfilldnfpcpkaaGreatDoorW.PrintWords Go.Proofs.YtpfilldnfpcpkaaGreatDoorW.PrintLast Go.Proofs.YtpfilldnfpcpkaaGreatDoorW.PrintMore
attribute [local go_sem] max2_int min2_int max_two min_two max_three min_three max_four min_four   -- for this text's walks alone

attribute [local go_sem high] eqA28
end Go.Proofs.YtpfilldnfpcpkaaGreatDoor.PPo

namespace Go.Proofs.YtpfilldnfpcpkaaGreatDoor
open Go.RowKit

theorem some_ne {a b : Nat} (h : a ≠ b) : some a ≠ some b := fun e => h (by cases e; rfl)
/-- how many addresses a pool with so many free bits looks after -/
def cntP (F : Nat) : Nat := if 16 < F then 65536 else 2 ^ F
theorem cntP_ge {F : Nat} (h : 2 ≤ F) : 4 ≤ cntP F := by
  unfold cntP; split
  · decide
  · exact Nat.pow_le_pow_right (n := 2) (i := 2) (j := F) (by decide) h
/-- is an address kept at the end? -/
def endK (v : Bool) (F : Nat) : Bool := !v && decide (F ≤ 16)
/-- is a number never given? -/
def kept (v : Bool) (F i : Nat) : Bool := i == 0 || (endK v F && i + 1 == cntP F)
theorem cnt_add {f : Nat → Bool} {x n : Nat} (hx : x < n) (hf : f x = false) : cnt (upd f x true) 0 n = cnt f 0 n + 1 := by
  rw [show n = x + (1 + (n - (x + 1))) from by omega, cnt_join, cnt_join, cnt_join f, cnt_join f]
  have e1 : cnt (upd f x true) 0 x = cnt f 0 x := cnt_congr fun y _ h => if_neg (by omega)
  have e2 : cnt (upd f x true) (0 + x + 1) (n - (x + 1)) = cnt f (0 + x + 1) (n - (x + 1)) := cnt_congr fun y h _ => if_neg (by omega)
  rw [e1, e2]
  simp [cnt, upd, hf]
  omega
theorem cnt_list {f : Nat → Bool} {n : Nat} : ∀ (us : List Nat), us.Nodup → (∀ x ∈ us, x < n ∧ f x = false) → cnt (fun i => f i || us.contains i) 0 n = cnt f 0 n + us.length := by
  intro us
  induction us with
  | nil => intro _ _; simp
  | cons a us ih =>
    intro hn hx
    obtain ⟨ha, hn⟩ := List.nodup_cons.1 hn
    have h1 := ih hn fun x h => hx x (List.mem_cons_of_mem _ h)
    have e : (fun i => f i || (a :: us).contains i) = upd (fun i => f i || us.contains i) a true := by
      funext i
      unfold upd
      by_cases h : i = a
      · subst h; simp
      · rw [if_neg h]; simp [h]
    rw [e, cnt_add (hx a (by simp)).1 (by simp [(hx a (by simp)).2, ha]), h1, List.length_cons]
    omega
theorem cnt_kept (v : Bool) {F : Nat} (h : 2 ≤ F) : cnt (kept v F) 0 (cntP F) = 1 + (if endK v F = true then 1 else 0) := by
  have hN := cntP_ge h
  have e0 : cnt (fun _ : Nat => false) 0 (cntP F) = 0 := cnt_none fun _ _ _ => rfl
  have e1 := cnt_add (f := fun _ => false) (x := 0) (n := cntP F) (by omega) rfl
  by_cases hk : endK v F = true
  · have e2 := cnt_add (f := upd (fun _ => false) 0 true) (x := cntP F - 1) (n := cntP F) (by omega) (by unfold upd; rw [if_neg (by omega)])
    have e : kept v F = upd (upd (fun _ => false) 0 true) (cntP F - 1) true := by
      funext i
      unfold kept upd
      by_cases h1 : i = cntP F - 1
      · rw [if_pos h1, hk]; subst h1
        have : cntP F - 1 + 1 = cntP F := by omega
        simp [this]
      · rw [if_neg h1, hk]
        by_cases h2 : i = 0
        · subst h2; simp
        · rw [if_neg h2]
          have : i + 1 ≠ cntP F := by omega
          simp [h2, this]
    rw [if_pos hk, e, e2, e1, e0]
  · have e : kept v F = upd (fun _ => false) 0 true := by
      funext i
      unfold kept upd
      rw [Bool.not_eq_true] at hk
      rw [hk]
      by_cases h2 : i = 0
      · subst h2; simp
      · rw [if_neg h2]; simp [h2]
    rw [if_neg hk, e, e1, e0]
/-- the program's bits tell the reference's list -/
structure Told (v : Bool) (F : Nat) (f : Nat → Bool) (us : List Nat) : Prop where
  nodup : us.Nodup
  may : ∀ x ∈ us, x < cntP F ∧ kept v F x = false
  bits : ∀ i, i < cntP F → f i = (kept v F i || us.contains i)
theorem Told.count {v : Bool} {F : Nat} {f : Nat → Bool} {us : List Nat} (hF : 2 ≤ F) (h : Told v F f us) : cnt f 0 (cntP F) = us.length + 1 + (if endK v F = true then 1 else 0) := by
  have e : cnt f 0 (cntP F) = cnt (fun i => kept v F i || us.contains i) 0 (cntP F) := cnt_congr fun i _ hi => h.bits i (by omega)
  rw [e, cnt_list us h.nodup h.may, cnt_kept v hF]; omega
theorem Told.take {v : Bool} {F : Nat} {f : Nat → Bool} {us : List Nat} (h : Told v F f us) {i : Nat} (hi : i < cntP F) (hf : f i = false) : Told v F (upd f i true) (us ++ [i]) := by
  have hb := h.bits i hi
  rw [hf] at hb
  have hb := hb.symm
  rw [Bool.or_eq_false_iff] at hb
  have hni : ¬ i ∈ us := by simpa using hb.2
  refine ⟨?_, ?_, ?_⟩
  · rw [List.nodup_append]
    refine ⟨h.nodup, by simp, ?_⟩
    intro a ha b hb' e
    subst e
    rw [List.mem_singleton] at hb'
    subst hb'
    exact hni ha
  · intro x hx
    rw [List.mem_append, List.mem_singleton] at hx
    rcases hx with hx | rfl
    · exact h.may x hx
    · exact ⟨hi, hb.1⟩
  · intro j hj
    unfold upd
    by_cases e : j = i
    · subst e; rw [if_pos rfl]; simp
    · rw [if_neg e, h.bits j hj]; simp [e]
theorem Told.free {v : Bool} {F : Nat} {f : Nat → Bool} {us : List Nat} (h : Told v F f us) {i : Nat} (hk : kept v F i = false) : Told v F (upd f i false) (us.filter fun x => x != i) := by
  refine ⟨h.nodup.filter _, ?_, ?_⟩
  · intro x hx
    exact h.may x (List.mem_filter.1 hx).1
  · intro j hj
    unfold upd
    by_cases e : j = i
    · subst e
      rw [if_pos rfl, hk]
      simp
    · rw [if_neg e, h.bits j hj]
      congr 1
      rw [Bool.eq_iff_iff]
      simp [e]
end Go.Proofs.YtpfilldnfpcpkaaGreatDoor

namespace Go.Proofs.YtpfilldnfpcpkaaGreatDoor.PPo
open Go.RowKit Go.Proofs.YtpfilldnfpcpkaaGreatDoorW.PrintWords Go.Proofs.YtpfilldnfpcpkaaGreatDoorW.PrintLast Go.Proofs.YtpfilldnfpcpkaaGreatDoorW.PrintMore
attribute [local go_sem] max2_int min2_int max_two min_two max_three min_three max_four min_four   -- for this text's walks alone

end Go.Proofs.YtpfilldnfpcpkaaGreatDoor.PPo

namespace Go.Proofs.YtpfilldnfpcpkaaGreatDoor
open Go.RowKit Go.Proofs.YtpfilldnfpcpkaaGreatDoorW.PrintWords Go.Proofs.YtpfilldnfpcpkaaGreatDoor.PPo

theorem w64 {i : Int} (h0 : -9223372036854775808 ≤ i) (h : i < 9223372036854775808) : wrap64 i = i := by unfold wrap64; omega
theorem widthN_le (v : Bool) : widthN v ≤ 128 := by cases v <;> decide
end Go.Proofs.YtpfilldnfpcpkaaGreatDoor

namespace Go.Proofs.YtpfilldnfpcpkaaGreatDoor
open Go.RowKit Go.Proofs.YtpfilldnfpcpkaaGreatDoorW.PrintWords Go.Proofs.YtpfilldnfpcpkaaGreatDoor.PPo

/-- as a rewriting step, not by computation -/
theorem bsome {α β : Type} (x : α) (f : α → Option β) : (some x).bind f = f x := by
  have h : ∀ y : Option α, y = some x → y.bind f = f x := by intro y hy; subst hy; rfl
  exact h _ rfl
theorem aright_hl (v : Bool) {n : Nat} (hn : n < 340282366920938463463374607431768211456) : addr_Right.f v (hi n) (lo n) = some (rightB v n) := by
  unfold addr_Right.f; rw [if_pos (okW_hl n), num_hi_lo hn]
theorem awidth_hl (v : Bool) (n : Nat) : addr_Width.f v (hi n) (lo n) = some ((widthN v : Nat) : Int) := by
  unfold addr_Width.f; rw [if_pos (okW_hl n)]
theorem pright_hl (v : Bool) {n : Nat} (b : Int) (hn : n < 340282366920938463463374607431768211456) : prefix_Right.f v (hi n) (lo n) b = some (rightP v n b) := by
  unfold prefix_Right.f; rw [if_pos (okW_hl n), num_hi_lo hn]
theorem free_hl (v : Bool) (n : Nat) {b : Int} (h0 : 0 ≤ b) (h1 : b ≤ (widthN v : Int)) : prefix_free.f v (hi n) (lo n) b = some (hi (2 ^ fr v b - 1), lo (2 ^ fr v b - 1)) := by
  unfold prefix_free.f; rw [okW_hl, decide_eq_true h0, decide_eq_true h1]; rfl
theorem not_hl {n : Nat} (hn : n < 340282366920938463463374607431768211456) : num_Not.f (hi n) (lo n) = some (hi (notN n), lo (notN n)) := by
  unfold num_Not.f; rw [if_pos (okW_hl n), num_hi_lo hn]
theorem and_hl {n m : Nat} (hn : n < 340282366920938463463374607431768211456) (hm : m < 340282366920938463463374607431768211456) : num_And.f (hi n) (lo n) (hi m) (lo m) = some (hi (n &&& m), lo (n &&& m)) := by
  unfold num_And.f; rw [okW_hl, okW_hl, num_hi_lo hn, num_hi_lo hm]; rfl
theorem or_hl {n m : Nat} (hn : n < 340282366920938463463374607431768211456) (hm : m < 340282366920938463463374607431768211456) : num_Or.f (hi n) (lo n) (hi m) (lo m) = some (hi (n ||| m), lo (n ||| m)) := by
  unfold num_Or.f; rw [okW_hl, okW_hl, num_hi_lo hn, num_hi_lo hm]; rfl
theorem hl_eq {a b : Nat} (ha : a < 340282366920938463463374607431768211456) (hb : b < 340282366920938463463374607431768211456) : (hi a == hi b && lo a == lo b) = (a == b) := by
  rw [Bool.eq_iff_iff]; simp only [Bool.and_eq_true, beq_iff_eq]; exact hi_lo_eq ha hb
theorem rightP_iff {v : Bool} {n : Nat} {b : Int} : rightP v n b = true ↔ n < 2 ^ widthN v ∧ 0 ≤ b ∧ b ≤ (widthN v : Int) ∧ n % 2 ^ fr v b = 0 := by
  unfold rightP rightB; simp
theorem rightB_iff {v : Bool} {n : Nat} : rightB v n = true ↔ n < 2 ^ widthN v := by unfold rightB; simp
theorem pow_w (v : Bool) : 2 ^ widthN v ≤ 340282366920938463463374607431768211456 := by cases v <;> decide
theorem top_lt {f n : Nat} (hn : n < 340282366920938463463374607431768211456) : topN f n < 340282366920938463463374607431768211456 := Nat.lt_of_le_of_lt (topN_le f n) hn
def ofS (v : Bool) (n : Nat) (b : Int) : Bool × Nat × Int × Int := if rightB v n = true ∧ 0 ≤ b ∧ b ≤ (widthN v : Int) then (v, topN (fr v b) n, b, 0) else (false, 0, 0, 1)
def tup5 (x : Bool × Nat × Int × Int) : Bool × Int × Int × Int × Int := (x.1, hi x.2.1, lo x.2.1, x.2.2.1, x.2.2.2)
theorem hi00 : hi 0 = 0 := rfl
theorem lo00 : lo 0 = 0 := rfl
theorem fr_lt (v : Bool) (b : Int) : 2 ^ fr v b - 1 < 340282366920938463463374607431768211456 := pow_fr v b
theorem of_f (K : Nat) (hK : 1 ≤ K) (v : Bool) (n : Nat) (b : Int) (hn : n < 340282366920938463463374607431768211456) : prefix_Of.f K v (hi n) (lo n) b = some (tup5 (ofS v n b)) := by
  obtain ⟨k, rfl⟩ : ∃ k, K = k + 1 := ⟨K - 1, by omega⟩
  unfold prefix_Of.f ofS
  rw [aright_hl v hn]
  simp only [bsome]
  cases hr : rightB v n
  · rw [if_neg (by simp), if_neg (by simp), prefix_Of.j0, if_pos rfl]; rfl
  · rw [if_pos rfl]
    by_cases h0 : b < 0
    · rw [if_pos h0, if_neg (by omega), prefix_Of.j0, if_pos rfl]; rfl
    · rw [if_neg h0, awidth_hl]
      simp only [bsome]
      by_cases h1 : b ≤ (widthN v : Int)
      · rw [if_pos ⟨trivial, by omega, h1⟩, prefix_Of.j0, if_neg (by simp; omega), free_hl v n (by omega) h1]
        simp only [bsome]
        have hf := fr_lt v b
        have hnn : notN (2 ^ fr v b - 1) < 340282366920938463463374607431768211456 := by unfold notN; omega
        rw [not_hl hf]
        simp only [bsome]
        rw [and_hl hn hnn]
        have e : n &&& notN (2 ^ fr v b - 1) = topN (fr v b) n := by
          have := and_not (n := n) (f := fr v b) (k := 128) (fr_le v b) (by rw [show (2 : Nat) ^ 128 = 340282366920938463463374607431768211456 by decide]; exact hn)
          rw [← this]; unfold notN
          rw [show (340282366920938463463374607431768211455 : Nat) = 2 ^ 128 - 1 by decide]
        rw [e]
        simp only [tup5, bsome]
      · rw [if_neg (by simp only [true_and]; omega), prefix_Of.j0, if_pos (by simp; omega)]; rfl
def lastS (v : Bool) (n : Nat) (b : Int) : Bool × Nat := if rightP v n b = true then (v, n + (2 ^ fr v b - 1)) else (false, 0)
def tup3 (x : Bool × Nat) : Bool × Int × Int := (x.1, hi x.2, lo x.2)
theorem last_lt {v : Bool} {n : Nat} {b : Int} (h : rightP v n b = true) : n + (2 ^ fr v b - 1) < 2 ^ widthN v := by
  obtain ⟨h1, h2, h3, h4⟩ := rightP_iff.1 h
  have hf : fr v b ≤ widthN v := by unfold fr; omega
  have hp := Nat.two_pow_pos (fr v b)
  obtain ⟨q, hq⟩ := Nat.dvd_of_mod_eq_zero h4
  have e : 2 ^ widthN v = 2 ^ fr v b * 2 ^ (widthN v - fr v b) := by rw [← Nat.pow_add]; congr 1; omega
  rw [hq, e] at h1
  rw [hq, e]
  have h5 : q < 2 ^ (widthN v - fr v b) := Nat.lt_of_mul_lt_mul_left h1
  have h6 : 2 ^ fr v b * (q + 1) ≤ 2 ^ fr v b * 2 ^ (widthN v - fr v b) := Nat.mul_le_mul_left _ h5
  rw [Nat.mul_add, Nat.mul_one] at h6
  omega
theorem last_f (v : Bool) (n : Nat) (b : Int) (hn : n < 340282366920938463463374607431768211456) : prefix_Last.f v (hi n) (lo n) b = some (tup3 (lastS v n b)) := by
  unfold prefix_Last.f lastS
  rw [pright_hl v b hn]
  simp only [bsome]
  cases h : rightP v n b
  · simp [tup3, hi00, lo00]
  · obtain ⟨h1, h2, h3, h4⟩ := rightP_iff.1 h
    rw [if_pos rfl, if_pos rfl, free_hl v n h2 h3]
    simp only [bsome]
    rw [or_hl hn (fr_lt v b), or_ones h4]
    simp only [tup3, bsome]
def hasS (v : Bool) (n : Nat) (b : Int) (u : Bool) (m : Nat) : Bool := rightP v n b && (rightB u m && (u == v && topN (fr v b) m == n))
theorem has_f (K : Nat) (hK : 1 ≤ K) (v : Bool) (n : Nat) (b : Int) (u : Bool) (m : Nat) (hn : n < 340282366920938463463374607431768211456) (hm : m < 340282366920938463463374607431768211456) : prefix_Has.f K v (hi n) (lo n) b u (hi m) (lo m) = some (hasS v n b u m) := by
  unfold prefix_Has.f hasS
  rw [pright_hl v b hn, aright_hl u hm, of_f K hK u m b hm]
  simp only [bsome]
  cases h : rightP v n b
  · rfl
  · cases hu : rightB u m
    · rfl
    · rw [if_pos rfl, if_pos rfl]
      by_cases huv : u = v
      · subst huv
        obtain ⟨h1, h2, h3, h4⟩ := rightP_iff.1 h
        rw [if_neg (by simp)]
        unfold ofS
        rw [if_pos ⟨hu, h2, h3⟩]
        simp only [tup5]
        rw [hl_eq (top_lt hm) hn]
        simp
      · rw [if_pos (by simpa using huv)]
        simp [huv]
def withinS (v : Bool) (n : Nat) (b : Int) (u : Bool) (m : Nat) (c : Int) : Bool := rightP v n b && (rightP u m c && (decide (c ≤ b) && hasS u m c v n))
def overlapS (v : Bool) (n : Nat) (b : Int) (u : Bool) (m : Nat) (c : Int) : Bool := withinS v n b u m c || withinS u m c v n b
theorem within_f (K : Nat) (hK : 1 ≤ K) (v : Bool) (n : Nat) (b : Int) (u : Bool) (m : Nat) (c : Int) (hn : n < 340282366920938463463374607431768211456) (hm : m < 340282366920938463463374607431768211456) : prefix_Within.f K v (hi n) (lo n) b u (hi m) (lo m) c = some (withinS v n b u m c) := by
  unfold prefix_Within.f withinS
  rw [pright_hl v b hn, pright_hl u c hm, has_f K hK u m c v n hm hn]
  simp only [bsome]
  cases rightP v n b
  · rfl
  · cases rightP u m c
    · rfl
    · rw [if_pos rfl, if_pos rfl]
      by_cases h : c ≤ b
      · rw [if_pos h, decide_eq_true h]; rfl
      · rw [if_neg h, decide_eq_false h]; rfl
theorem overlap_f (K : Nat) (hK : 1 ≤ K) (v : Bool) (n : Nat) (b : Int) (u : Bool) (m : Nat) (c : Int) (hn : n < 340282366920938463463374607431768211456) (hm : m < 340282366920938463463374607431768211456) : prefix_Overlap.f K v (hi n) (lo n) b u (hi m) (lo m) c = some (overlapS v n b u m c) := by
  unfold prefix_Overlap.f overlapS
  rw [within_f K hK v n b u m c hn hm, within_f K hK u m c v n b hm hn]
  simp only [bsome]
  cases withinS v n b u m c <;> rfl
theorem div_mono {a x y f g : Nat} (h : x / 2 ^ f = y / 2 ^ f) (hfg : f ≤ g) : x / 2 ^ g = y / 2 ^ g := by
  have e : 2 ^ g = 2 ^ f * 2 ^ (g - f) := by rw [← Nat.pow_add]; congr 1; omega
  rw [e, ← Nat.div_div_eq_div_mul, ← Nat.div_div_eq_div_mul, h]
theorem hasS_right {v : Bool} {n : Nat} {b : Int} {u : Bool} {m : Nat} (h : hasS v n b u m = true) : rightP v n b = true ∧ rightB u m = true ∧ u = v ∧ m / 2 ^ fr v b = n / 2 ^ fr v b := by
  unfold hasS at h
  simp only [Bool.and_eq_true, beq_iff_eq] at h
  obtain ⟨h1, h2, h3, h4⟩ := h
  exact ⟨h1, h2, h3, (topN_iff (rightP_iff.1 h1).2.2.2).1 h4⟩
theorem hasS_mk {v : Bool} {n : Nat} {b : Int} {m : Nat} (h1 : rightP v n b = true) (h2 : rightB v m = true) (h : m / 2 ^ fr v b = n / 2 ^ fr v b) : hasS v n b v m = true := by
  unfold hasS
  rw [h1, h2]
  simp only [Bool.true_and, beq_self_eq_true, beq_iff_eq]
  exact (topN_iff (rightP_iff.1 h1).2.2.2).2 h
theorem rightP_B {v : Bool} {n : Nat} {b : Int} (h : rightP v n b = true) : rightB v n = true := rightB_iff.2 (rightP_iff.1 h).1
end Go.Proofs.YtpfilldnfpcpkaaGreatDoor

namespace Go.Proofs.YtpfilldnfpcpkaaGreatDoor
open Go.RowKit Go.Proofs.YtpfilldnfpcpkaaGreatDoorW.PrintWords Go.Proofs.YtpfilldnfpcpkaaGreatDoor.PPo

theorem shl_hl {n : Nat} {k : Int} (hn : n < 340282366920938463463374607431768211456) (hk : -9223372036854775808 ≤ k) : num_Shl.f (hi n) (lo n) k = some (hi (shlN n k), lo (shlN n k)) := by
  unfold num_Shl.f; rw [okW_hl, decide_eq_true hk, num_hi_lo hn]; rfl
theorem shl_one {k : Nat} (hk : k < 128) : shlN 1 (k : Int) = 2 ^ k := by
  unfold shlN
  rw [if_neg (by omega), if_neg (by omega), Int.toNat_natCast, Nat.one_mul, Nat.mod_eq_of_lt]
  have := Nat.pow_lt_pow_right (a := 2) (by omega) hk
  rw [show (2 : Nat) ^ 128 = 340282366920938463463374607431768211456 by decide] at this
  exact this
theorem cmpA_le {v : Bool} {a b : Nat} : cmpA v a v b ≤ 0 ↔ a ≤ b := by
  unfold cmpA cmpN
  rw [if_pos rfl]
  split
  · constructor <;> omega
  · split
    · constructor <;> omega
    · constructor <;> omega
/-- what lies between the ends is the prefix's own -/
theorem has_between {v : Bool} {n : Nat} {b : Int} (h : rightP v n b = true) (u : Bool) (x : Nat) :
    hasS v n b u x = (rightB u x && (decide (cmpA v n u x ≤ 0) && decide (cmpA u x v (n + (2 ^ fr v b - 1)) ≤ 0))) := by
  obtain ⟨h1, h2, h3, h4⟩ := rightP_iff.1 h
  have hpos := Nat.two_pow_pos (fr v b)
  by_cases huv : u = v
  · subst huv
    rw [Bool.eq_iff_iff]
    simp only [Bool.and_eq_true, decide_eq_true_iff, cmpA_le]
    constructor
    · intro hh
      obtain ⟨_, g2, _, g4⟩ := hasS_right hh
      obtain ⟨q, hq⟩ := Nat.dvd_of_mod_eq_zero h4
      have e : n / 2 ^ fr u b = q := by rw [hq, Nat.mul_div_cancel_left _ hpos]
      rw [e] at g4
      have d1 := Nat.div_add_mod x (2 ^ fr u b)
      have d2 := Nat.mod_lt x hpos
      rw [g4, ← hq] at d1
      exact ⟨g2, by omega, by omega⟩
    · rintro ⟨g1, g2, g3⟩
      refine hasS_mk h g1 ?_
      obtain ⟨q, hq⟩ := Nat.dvd_of_mod_eq_zero h4
      have e : n / 2 ^ fr u b = q := by rw [hq, Nat.mul_div_cancel_left _ hpos]
      rw [e]
      apply Nat.div_eq_of_lt_le
      · rw [Nat.mul_comm, ← hq]; exact g2
      · rw [Nat.add_mul, Nat.mul_comm q, ← hq]; omega
  · have e1 : hasS v n b u x = false := by unfold hasS; simp [huv]
    rw [e1]
    unfold cmpA
    cases u <;> cases v <;> simp at huv ⊢
end Go.Proofs.YtpfilldnfpcpkaaGreatDoor

namespace Go.Proofs.YtpfilldnfpcpkaaGreatDoor
open Go.RowKit Go.Proofs.YtpfilldnfpcpkaaGreatDoorW.PrintWords Go.Proofs.YtpfilldnfpcpkaaGreatDoor.PPo

theorem lastS_ok {v : Bool} {n : Nat} {b : Int} (h : rightP v n b = true) : lastS v n b = (v, n + (2 ^ fr v b - 1)) := by unfold lastS; rw [if_pos h]
end Go.Proofs.YtpfilldnfpcpkaaGreatDoor

namespace Go.Proofs.YtpfilldnfpcpkaaGreatDoor
open Go.RowKit Go.Proofs.YtpfilldnfpcpkaaGreatDoorW.PrintWords Go.Proofs.YtpfilldnfpcpkaaGreatDoorW.PrintMore Go.Proofs.YtpfilldnfpcpkaaGreatDoor.PPo

theorem len_hl {n : Nat} (hn : n < 340282366920938463463374607431768211456) : num_Len.f (hi n) (lo n) = some ((lenN n : Nat) : Int) := by
  unfold num_Len.f; rw [if_pos (okW_hl n), num_hi_lo hn]
theorem within_mk {v : Bool} {n : Nat} {b : Int} {m : Nat} {c : Int} (h1 : rightP v n b = true) (h2 : rightP v m c = true) (h3 : c ≤ b) (h4 : n / 2 ^ fr v c = m / 2 ^ fr v c) : withinS v n b v m c = true := by
  unfold withinS
  rw [h1, h2, decide_eq_true h3, hasS_mk h2 (rightP_B h1) h4]; rfl
end Go.Proofs.YtpfilldnfpcpkaaGreatDoor

namespace Go.Proofs.YtpfilldnfpcpkaaGreatDoor
open Go.RowKit Go.Proofs.YtpfilldnfpcpkaaGreatDoorW.PrintWords Go.Proofs.YtpfilldnfpcpkaaGreatDoor.PPo

def cutsS (v : Bool) (n : Nat) (b bits : Int) : Bool := rightP v n b && (decide (b ≤ bits) && decide (bits ≤ (widthN v : Int)))
theorem cutsS_iff {v : Bool} {n : Nat} {b bits : Int} : cutsS v n b bits = true ↔ rightP v n b = true ∧ b ≤ bits ∧ bits ≤ (widthN v : Int) := by
  unfold cutsS; simp
theorem cuts_f (v : Bool) (n : Nat) (b bits : Int) (hn : n < 340282366920938463463374607431768211456) : carve_cuts.f v (hi n) (lo n) b bits = some (cutsS v n b bits) := by
  unfold carve_cuts.f cutsS
  rw [pright_hl v b hn]
  simp only [bsome]
  cases rightP v n b
  · rfl
  · rw [if_pos rfl]
    by_cases h : b ≤ bits
    · rw [if_pos h, awidth_hl, decide_eq_true h]
      simp only [bsome, Bool.true_and]
    · rw [if_neg h, decide_eq_false h]; rfl
/-- two to a power, if that is not too much -/
def powS (k : Nat) : Nat × Bool := if 128 ≤ k then (0, false) else (2 ^ k, true)
theorem power_f (k : Nat) : carve_power.f (k : Int) = some (hi (powS k).1, lo (powS k).1, (powS k).2) := by
  unfold carve_power.f powS
  by_cases h : 128 ≤ k
  · rw [if_pos (by omega), if_pos h]; rfl
  · rw [if_neg (by omega), if_neg h]
    unfold num_Of.f
    simp only [bsome]
    have e1 : num_Shl.f 0 1 (k : Int) = some (hi (2 ^ k), lo (2 ^ k)) := by
      have := shl_hl (n := 1) (k := (k : Int)) (by decide) (by omega)
      rw [shl_one (by omega)] at this
      exact this
    rw [e1]
    simp only [bsome]
def blocksS (v : Bool) (n : Nat) (b bits : Int) : Nat × Bool × Int := if cutsS v n b bits = true then ((powS (bits - b).toNat).1, (powS (bits - b).toNat).2, 0) else (0, false, 1)
def tupN (x : Nat × Bool × Int) : Int × Int × Bool × Int := (hi x.1, lo x.1, x.2.1, x.2.2)
theorem blocks_f (v : Bool) (n : Nat) (b bits : Int) (hn : n < 340282366920938463463374607431768211456) : carve_Blocks.f v (hi n) (lo n) b bits = some (tupN (blocksS v n b bits)) := by
  unfold carve_Blocks.f blocksS
  rw [cuts_f v n b bits hn]
  simp only [bsome]
  cases h : cutsS v n b bits
  · simp [tupN, hi00, lo00]
  · obtain ⟨h1, h2, h3⟩ := cutsS_iff.1 h
    obtain ⟨p1, p2, p3, p4⟩ := rightP_iff.1 h1
    have hw := widthN_le v
    rw [if_pos rfl, if_pos rfl, w64 (by omega) (by omega), show bits - b = (((bits - b).toNat : Nat) : Int) by omega, power_f]
    simp only [bsome, tupN, Int.toNat_natCast]
def blockS (v : Bool) (n : Nat) (b bits : Int) (i : Nat) : Bool × Nat × Int × Int :=
  if cutsS v n b bits = true then (if (lenN i : Int) ≤ bits - b then (v, n + i * 2 ^ (widthN v - bits.toNat), bits, 0) else (false, 0, 0, 12)) else (false, 0, 0, 1)
/-- the numbers that are behind a block's -/
theorem block_room {v : Bool} {n : Nat} {b bits : Int} {i : Nat} (h : cutsS v n b bits = true) (hi' : (lenN i : Int) ≤ bits - b) :
    i < 2 ^ (bits - b).toNat ∧ i * 2 ^ (widthN v - bits.toNat) < 2 ^ fr v b ∧ n + i * 2 ^ (widthN v - bits.toNat) < 2 ^ widthN v ∧ fr v b = (bits - b).toNat + (widthN v - bits.toNat) := by
  obtain ⟨h1, h2, h3⟩ := cutsS_iff.1 h
  obtain ⟨p1, p2, p3, p4⟩ := rightP_iff.1 h1
  have hf : fr v b = (bits - b).toNat + (widthN v - bits.toNat) := by unfold fr; omega
  have hl : i < 2 ^ (bits - b).toNat := (lenN_iff _ _).1 (by omega)
  have hp := Nat.two_pow_pos (widthN v - bits.toNat)
  have h4 : i * 2 ^ (widthN v - bits.toNat) < 2 ^ fr v b := by
    rw [hf, Nat.pow_add]; exact Nat.mul_lt_mul_of_pos_right hl hp
  have := last_lt h1
  exact ⟨hl, h4, by omega, hf⟩
theorem shlN_eq {i k : Nat} (hk : k < 128) (h : i * 2 ^ k < 340282366920938463463374607431768211456) : shlN i (k : Int) = i * 2 ^ k := by
  unfold shlN
  rw [if_neg (by omega), if_neg (by omega), Int.toNat_natCast, Nat.mod_eq_of_lt h]
theorem block_f (v : Bool) (n : Nat) (b bits : Int) (i : Nat) (hn : n < 340282366920938463463374607431768211456) (hi' : i < 340282366920938463463374607431768211456) : carve_Block.f v (hi n) (lo n) b bits (hi i) (lo i) = some (tup5 (blockS v n b bits i)) := by
  unfold carve_Block.f blockS
  rw [cuts_f v n b bits hn]
  simp only [bsome]
  cases h : cutsS v n b bits
  · simp [tup5, hi00, lo00]
  · obtain ⟨h1, h2, h3⟩ := cutsS_iff.1 h
    obtain ⟨p1, p2, p3, p4⟩ := rightP_iff.1 h1
    have hw := widthN_le v
    rw [if_pos rfl, if_pos rfl, len_hl hi']
    simp only [bsome]
    rw [w64 (by omega) (by omega)]
    by_cases hl : (lenN i : Int) ≤ bits - b
    · rw [if_neg (by omega), if_pos hl, awidth_hl]
      simp only [bsome]
      obtain ⟨r1, r2, r3, r4⟩ := block_room h hl
      have r5 : i * 2 ^ (widthN v - bits.toNat) < 340282366920938463463374607431768211456 := by
        have := Nat.lt_of_lt_of_le r3 (pow_w v); omega
      rw [w64 (by omega) (by omega), show ((widthN v : Nat) : Int) - bits = ((widthN v - bits.toNat : Nat) : Int) by omega, shl_hl hi' (by omega)]
      simp only [bsome]
      have e : shlN i ((widthN v - bits.toNat : Nat) : Int) = i * 2 ^ (widthN v - bits.toNat) := by
        by_cases hk : widthN v - bits.toNat < 128
        · exact shlN_eq hk r5
        · have hb0 : bits = 0 := by omega
          have : (bits - b).toNat = 0 := by omega
          rw [this] at r1
          have : i = 0 := by simpa using r1
          subst this
          unfold shlN; split <;> simp
      rw [e, or_hl hn r5, or_small p4 r2]
      simp only [bsome, tup5]
    · rw [if_pos (by omega), if_neg hl]; simp [tup5, hi00, lo00]
end Go.Proofs.YtpfilldnfpcpkaaGreatDoor

namespace Go.Proofs.YtpfilldnfpcpkaaGreatDoor
open Go.RowKit Go.Proofs.YtpfilldnfpcpkaaGreatDoorW.PrintWords Go.Proofs.YtpfilldnfpcpkaaGreatDoor.PPo

theorem shr_hl {n : Nat} {k : Int} (hn : n < 340282366920938463463374607431768211456) (hk : -9223372036854775808 ≤ k) : num_Shr.f (hi n) (lo n) k = some (hi (shrN n k), lo (shrN n k)) := by
  unfold num_Shr.f; rw [okW_hl, decide_eq_true hk, num_hi_lo hn]; rfl
theorem shrN_all {n : Nat} (k : Nat) (hn : n < 340282366920938463463374607431768211456) : shrN n (k : Int) = n / 2 ^ k := by
  by_cases h : k < 128
  · exact shrN_nat h hn
  · unfold shrN shlN
    rw [if_pos (by omega)]
    symm
    apply Nat.div_eq_of_lt
    refine Nat.lt_of_lt_of_le hn ?_
    have := Nat.pow_le_pow_right (n := 2) (by omega) (show 128 ≤ k by omega)
    rw [show (2 : Nat) ^ 128 = 340282366920938463463374607431768211456 by decide] at this
    exact this
theorem ones_hl (k : Int) : num_Ones.f k = some (hi (onesN k), lo (onesN k)) := rfl
theorem below_f (v : Bool) (n : Nat) (b : Int) (u : Bool) (x last : Nat) (h0 : 0 ≤ b) (h1 : b ≤ (widthN u : Int)) (hl : last ≤ 1000) (hx : x < 340282366920938463463374607431768211456) :
    carve_below.f v (hi n) (lo n) b u (hi x) (lo x) (last : Int) = some (hi (x % 2 ^ fr u b / 2 ^ last), lo (x % 2 ^ fr u b / 2 ^ last)) := by
  unfold carve_below.f
  have hw := widthN_le u
  rw [awidth_hl]
  simp only [bsome]
  rw [w64 (by omega) (by omega), ones_hl, ones_val h0 h1]
  simp only [bsome]
  rw [and_hl hx (fr_lt u b), and_ones]
  simp only [bsome]
  have hm : x % 2 ^ fr u b < 340282366920938463463374607431768211456 := Nat.lt_of_le_of_lt (Nat.mod_le _ _) hx
  rw [shr_hl hm (by omega), shrN_all last hm]
  simp only [bsome]
end Go.Proofs.YtpfilldnfpcpkaaGreatDoor

namespace Go.Proofs.YtpfilldnfpcpkaaGreatDoor
open Go.RowKit Go.Proofs.YtpfilldnfpcpkaaGreatDoorW.PrintWords Go.Proofs.YtpfilldnfpcpkaaGreatDoor.PPo

theorem fr_toNat (v : Bool) (c : Int) : widthN v - c.toNat = fr v c := rfl
/-- what the block of a number is -/
theorem block_at {v : Bool} {n : Nat} {b bits : Int} {i : Nat} (h : cutsS v n b bits = true) (hl : (lenN i : Int) ≤ bits - b) :
    blockS v n b bits i = (v, n + i * 2 ^ fr v bits, bits, 0) ∧ rightP v (n + i * 2 ^ fr v bits) bits = true ∧ (n + i * 2 ^ fr v bits) / 2 ^ fr v bits = n / 2 ^ fr v bits + i ∧ (n + i * 2 ^ fr v bits) / 2 ^ fr v b = n / 2 ^ fr v b := by
  obtain ⟨h1, h2, h3⟩ := cutsS_iff.1 h
  obtain ⟨p1, p2, p3, p4⟩ := rightP_iff.1 h1
  obtain ⟨r1, r2, r3, r4⟩ := block_room h hl
  rw [fr_toNat] at r2 r3 r4
  have hp := Nat.two_pow_pos (fr v bits)
  have hpb := Nat.two_pow_pos (fr v b)
  refine ⟨?_, rightP_iff.2 ⟨r3, by omega, h3, ?_⟩, ?_, ?_⟩
  · unfold blockS; rw [if_pos h, if_pos hl, fr_toNat]
  · rw [Nat.add_mul_mod_self_right]
    obtain ⟨q, rfl⟩ := Nat.dvd_of_mod_eq_zero p4
    rw [r4, Nat.add_comm (bits - b).toNat, Nat.pow_add, Nat.mul_assoc]; exact Nat.mul_mod_right _ _
  · exact Nat.add_mul_div_right _ _ hp
  · obtain ⟨q, rfl⟩ := Nat.dvd_of_mod_eq_zero p4
    rw [Nat.mul_add_div hpb, Nat.div_eq_of_lt r2, Nat.mul_div_cancel_left _ hpb, Nat.add_zero]
end Go.Proofs.YtpfilldnfpcpkaaGreatDoor

namespace Go.Proofs.YtpfilldnfpcpkaaGreatDoor
open Go.RowKit Go.Proofs.YtpfilldnfpcpkaaGreatDoorW.PrintWords Go.Proofs.YtpfilldnfpcpkaaGreatDoor.PPo

theorem within_iff {v : Bool} {n : Nat} {b : Int} {u : Bool} {m : Nat} {c : Int} : withinS v n b u m c = true ↔ rightP v n b = true ∧ rightP u m c = true ∧ c ≤ b ∧ hasS u m c v n = true := by
  unfold withinS; simp [Bool.and_eq_true]
theorem both_overlap {v : Bool} {n : Nat} {b : Int} {u : Bool} {m : Nat} {c : Int} {t : Bool} {x : Nat} (hp : hasS v n b t x = true) (hq : hasS u m c t x = true) : overlapS v n b u m c = true := by
  obtain ⟨p1, pb, rfl, p2⟩ := hasS_right hp
  obtain ⟨q1, qb, rfl, q2⟩ := hasS_right hq
  unfold overlapS
  rw [Bool.or_eq_true]
  by_cases h : c ≤ b
  · refine .inl (within_iff.2 ⟨p1, q1, h, hasS_mk q1 (rightP_B p1) ?_⟩)
    have hfr : fr t b ≤ fr t c := by unfold fr; omega
    rw [← q2]
    exact (div_mono (a := 0) p2 hfr).symm
  · refine .inr (within_iff.2 ⟨q1, p1, by omega, hasS_mk p1 (rightP_B q1) ?_⟩)
    have hfr : fr t c ≤ fr t b := by unfold fr; omega
    rw [← p2]
    exact (div_mono (a := 0) q2 hfr).symm
theorem has_iff {v : Bool} {n : Nat} {b : Int} {x : Nat} (h : rightP v n b = true) : hasS v n b v x = true ↔ n ≤ x ∧ x ≤ n + (2 ^ fr v b - 1) := by
  rw [has_between h]
  simp only [Bool.and_eq_true, decide_eq_true_iff, cmpA_le]
  constructor
  · rintro ⟨_, h1, h2⟩; exact ⟨h1, h2⟩
  · rintro ⟨h1, h2⟩; exact ⟨rightB_iff.2 (Nat.lt_of_le_of_lt h2 (last_lt h)), h1, h2⟩
theorem overlap_kind {v : Bool} {n : Nat} {b : Int} {u : Bool} {m : Nat} {c : Int} (h : overlapS v n b u m c = true) : u = v ∧ rightP v n b = true ∧ rightP u m c = true := by
  unfold overlapS at h
  rw [Bool.or_eq_true] at h
  rcases h with h | h
  · obtain ⟨h1, h2, _, h3⟩ := within_iff.1 h
    exact ⟨(hasS_right h3).2.2.1.symm, h1, h2⟩
  · obtain ⟨h1, h2, _, h3⟩ := within_iff.1 h
    exact ⟨(hasS_right h3).2.2.1, h2, h1⟩
/-- two overlap just if neither ends ahead of the other one's first address -/
theorem overlap_iff {v : Bool} {x : Nat} {a : Int} {y : Nat} {c : Int} (hx : rightP v x a = true) (hy : rightP v y c = true) :
    overlapS v x a v y c = true ↔ x ≤ y + (2 ^ fr v c - 1) ∧ y ≤ x + (2 ^ fr v a - 1) := by
  constructor
  · intro h
    unfold overlapS at h
    rw [Bool.or_eq_true] at h
    rcases h with h | h
    · have := (has_iff hy).1 (within_iff.1 h).2.2.2; omega
    · have := (has_iff hx).1 (within_iff.1 h).2.2.2; omega
  · rintro ⟨h1, h2⟩
    exact both_overlap (t := v) (x := max x y) ((has_iff hx).2 (by omega)) ((has_iff hy).2 (by omega))
theorem within_ends {v : Bool} {n : Nat} {b : Int} {m : Nat} {c : Int} (h : withinS v n b v m c = true) : m ≤ n ∧ n + (2 ^ fr v b - 1) ≤ m + (2 ^ fr v c - 1) := by
  obtain ⟨h1, h2, h3, h4⟩ := within_iff.1 h
  have h5 := (has_iff h2).1 h4
  refine ⟨h5.1, ?_⟩
  have hfr : fr v b ≤ fr v c := by unfold fr; omega
  have hpb := Nat.two_pow_pos (fr v b)
  have hpc := Nat.two_pow_pos (fr v c)
  obtain ⟨N, hN⟩ := Nat.dvd_of_mod_eq_zero (rightP_iff.1 h1).2.2.2
  obtain ⟨M, hM⟩ := Nat.dvd_of_mod_eq_zero (rightP_iff.1 h2).2.2.2
  have e : 2 ^ fr v c = 2 ^ fr v b * 2 ^ (fr v c - fr v b) := by rw [← Nat.pow_add]; congr 1; omega
  have e2 : m + 2 ^ fr v c = 2 ^ fr v b * (2 ^ (fr v c - fr v b) * M + 2 ^ (fr v c - fr v b)) := by
    rw [Nat.mul_add, ← Nat.mul_assoc, ← e, ← hM]
  have h6 : n < m + 2 ^ fr v c := by omega
  rw [hN, e2] at h6
  have h7 := Nat.lt_of_mul_lt_mul_left h6
  have h8 : 2 ^ fr v b * (N + 1) ≤ 2 ^ fr v b * (2 ^ (fr v c - fr v b) * M + 2 ^ (fr v c - fr v b)) := Nat.mul_le_mul_left _ h7
  rw [← e2, Nat.mul_add, ← hN, Nat.mul_one] at h8
  omega
/-- the ends of what two have in common -/
def partE (v : Bool) (n : Nat) (b : Int) (u : Bool) (m : Nat) (c : Int) : Nat × Int := if withinS v n b u m c = true then (n, b) else (m, c)
def spanS (v : Bool) (n : Nat) (b bits : Int) (u : Bool) (m : Nat) (c : Int) : Nat × Nat × Int :=
  if cutsS v n b bits = true ∧ rightP u m c = true then
    (if overlapS v n b u m c = true then ((partE v n b u m c).1 % 2 ^ fr v b / 2 ^ fr v bits, ((partE v n b u m c).1 + (2 ^ fr v (partE v n b u m c).2 - 1)) % 2 ^ fr v b / 2 ^ fr v bits, 0) else (0, 0, 12))
  else (0, 0, 1)
def tupS (x : Nat × Nat × Int) : Int × Int × Int × Int × Int := (hi x.1, lo x.1, hi x.2.1, lo x.2.1, x.2.2)
theorem span_j1 (k : Nat) {v : Bool} {n : Nat} {b bits : Int} {f : Nat} {c : Int} (hn : n < 340282366920938463463374607431768211456) (hc : cutsS v n b bits = true) (hf : rightP v f c = true) :
    carve_Span.j1 (k + 1) bits v (hi n) (lo n) b v (hi f) (lo f) c = some (hi (f % 2 ^ fr v b / 2 ^ fr v bits), lo (f % 2 ^ fr v b / 2 ^ fr v bits), hi ((f + (2 ^ fr v c - 1)) % 2 ^ fr v b / 2 ^ fr v bits), lo ((f + (2 ^ fr v c - 1)) % 2 ^ fr v b / 2 ^ fr v bits), 0) := by
  obtain ⟨h1, h2, h3⟩ := cutsS_iff.1 hc
  obtain ⟨p1, p2, p3, p4⟩ := rightP_iff.1 h1
  have hw := widthN_le v
  have hfl : f < 340282366920938463463374607431768211456 := Nat.lt_of_lt_of_le (rightP_iff.1 hf).1 (pow_w v)
  have hll : f + (2 ^ fr v c - 1) < 340282366920938463463374607431768211456 := Nat.lt_of_lt_of_le (last_lt hf) (pow_w v)
  have hs : fr v bits ≤ 1000 := by have := fr_le v bits; omega
  rw [carve_Span.j1, awidth_hl]
  simp only [bsome]
  rw [w64 (by omega) (by omega), show ((widthN v : Nat) : Int) - bits = ((fr v bits : Nat) : Int) by unfold fr; omega, below_f v n b v f _ p2 p3 hs hfl, last_f v f c hfl, lastS_ok hf]
  simp only [bsome, tup3]
  rw [below_f v n b v _ _ p2 p3 hs hll]
  simp only [bsome]
theorem part_ok {v : Bool} {n : Nat} {b : Int} {m : Nat} {c : Int} (h : overlapS v n b v m c = true) :
    rightP v (partE v n b v m c).1 (partE v n b v m c).2 = true ∧ n ≤ (partE v n b v m c).1 ∧ (partE v n b v m c).1 + (2 ^ fr v (partE v n b v m c).2 - 1) ≤ n + (2 ^ fr v b - 1) := by
  obtain ⟨_, h1, h2⟩ := overlap_kind h
  unfold partE
  cases hw : withinS v n b v m c
  · have hq : withinS v m c v n b = true := by unfold overlapS at h; rw [hw, Bool.false_or] at h; exact h
    have := within_ends hq
    rw [if_neg (by decide)]
    exact ⟨h2, this.1, this.2⟩
  · rw [if_pos rfl]
    exact ⟨h1, Nat.le_refl _, Nat.le_refl _⟩
theorem span_f (K : Nat) (hK : 3 ≤ K) (v : Bool) (n : Nat) (b bits : Int) (u : Bool) (m : Nat) (c : Int) (hn : n < 340282366920938463463374607431768211456) (hm : m < 340282366920938463463374607431768211456) : carve_Span.f K v (hi n) (lo n) b bits u (hi m) (lo m) c = some (tupS (spanS v n b bits u m c)) := by
  obtain ⟨k, rfl⟩ : ∃ k, K = k + 1 + 1 := ⟨K - 2, by omega⟩
  unfold carve_Span.f spanS
  rw [cuts_f v n b bits hn, pright_hl u c hm]
  simp only [bsome]
  cases h : cutsS v n b bits
  · rw [if_neg (by simp), carve_Span.j0, if_pos rfl, if_neg (by simp)]; simp [tupS, hi00, lo00]
  · cases h2 : rightP u m c
    · rw [if_pos rfl, carve_Span.j0, if_pos (show (!false) = true from rfl), if_neg (by simp)]; simp [tupS, hi00, lo00]
    · rw [if_pos rfl, carve_Span.j0, if_neg (by simp), if_pos (show true = true ∧ true = true from ⟨rfl, rfl⟩), overlap_f _ (by omega) v n b u m c hn hm]
      simp only [bsome]
      cases ho : overlapS v n b u m c
      · simp [tupS, hi00, lo00]
      · obtain ⟨rfl, h1, _⟩ := overlap_kind ho
        rw [if_pos rfl, if_pos rfl, within_f _ (by omega) u n b u m c hn hm]
        simp only [bsome]
        unfold partE
        cases hw : withinS u n b u m c
        · rw [if_neg (by decide), if_neg (by decide), span_j1 k hn h h2]; rfl
        · rw [if_pos rfl, if_pos rfl, span_j1 k hn h h1]; rfl
/-- where the span's ends lie, and which blocks lie between them -/
theorem span_between {v : Bool} {n : Nat} {b bits : Int} {m : Nat} {c : Int} (hc : cutsS v n b bits = true) (h : overlapS v n b v m c = true) :
    (spanS v n b bits v m c).2.2 = 0 ∧ (spanS v n b bits v m c).1 ≤ (spanS v n b bits v m c).2.1 ∧ (lenN (spanS v n b bits v m c).1 : Int) ≤ bits - b ∧ (lenN (spanS v n b bits v m c).2.1 : Int) ≤ bits - b ∧
    (∀ i, (lenN i : Int) ≤ bits - b → overlapS v (n + i * 2 ^ fr v bits) bits v m c = (decide ((spanS v n b bits v m c).1 ≤ i) && decide (i ≤ (spanS v n b bits v m c).2.1))) := by
  obtain ⟨_, h1, h2⟩ := overlap_kind h
  obtain ⟨_, hb1, hb2⟩ := cutsS_iff.1 hc
  obtain ⟨p1, p2, p3, p4⟩ := rightP_iff.1 h1
  obtain ⟨g1, g2, g3⟩ := part_ok h
  have hs := Nat.two_pow_pos (fr v bits)
  have hpb := Nat.two_pow_pos (fr v b)
  have hpq := Nat.two_pow_pos (fr v (partE v n b v m c).2)
  have hf : fr v b = (bits - b).toNat + fr v bits := by unfold fr; omega
  -- for each block: what it overlaps of the other one is what they have in common
  have hz : ∀ i, (lenN i : Int) ≤ bits - b → (overlapS v (n + i * 2 ^ fr v bits) bits v m c = true ↔
      n + i * 2 ^ fr v bits ≤ (partE v n b v m c).1 + (2 ^ fr v (partE v n b v m c).2 - 1) ∧ (partE v n b v m c).1 ≤ n + i * 2 ^ fr v bits + (2 ^ fr v bits - 1)) := by
    intro i hl
    obtain ⟨a1, a2, a3, a4⟩ := block_at hc hl
    rw [overlap_iff a2 h2]
    have hin := within_ends (within_mk a2 h1 hb1 a4)
    unfold partE
    cases hw : withinS v n b v m c
    · rw [if_neg (by decide)]
    · have := within_ends hw
      rw [if_pos rfl]
      simp only
      constructor <;> intro _ <;> constructor <;> omega
  have eS : spanS v n b bits v m c = ((partE v n b v m c).1 % 2 ^ fr v b / 2 ^ fr v bits, ((partE v n b v m c).1 + (2 ^ fr v (partE v n b v m c).2 - 1)) % 2 ^ fr v b / 2 ^ fr v bits, 0) := by
    unfold spanS; rw [if_pos ⟨hc, h2⟩, if_pos h]
  rw [eS]
  simp only
  obtain ⟨r0, hr0⟩ : ∃ r0, (partE v n b v m c).1 = n + r0 := ⟨(partE v n b v m c).1 - n, by omega⟩
  obtain ⟨r1, hr1⟩ : ∃ r1, (partE v n b v m c).1 + (2 ^ fr v (partE v n b v m c).2 - 1) = n + r1 := ⟨(partE v n b v m c).1 + (2 ^ fr v (partE v n b v m c).2 - 1) - n, by omega⟩
  have hle : r0 ≤ r1 := by omega
  have hlt : r1 < 2 ^ fr v b := by omega
  have hmod : ∀ r, r < 2 ^ fr v b → (n + r) % 2 ^ fr v b = r := by
    intro r hr
    obtain ⟨q, hq⟩ := Nat.dvd_of_mod_eq_zero p4
    rw [hq, Nat.mul_add_mod, Nat.mod_eq_of_lt hr]
  have hlen : ∀ r, r < 2 ^ fr v b → (lenN (r / 2 ^ fr v bits) : Int) ≤ bits - b := by
    intro r hr
    have : r / 2 ^ fr v bits < 2 ^ (bits - b).toNat := by
      rw [Nat.div_lt_iff_lt_mul hs, ← Nat.pow_add, ← hf]; exact hr
    have := (lenN_iff _ _).2 this
    omega
  rw [hr1, hr0, hmod r0 (by omega), hmod r1 hlt]
  refine ⟨trivial, Nat.div_le_div_right hle, hlen r0 (by omega), hlen r1 hlt, fun i hl => ?_⟩
  rw [Bool.eq_iff_iff, hz i hl, hr1, hr0]
  simp only [Bool.and_eq_true, decide_eq_true_iff]
  have k1 : i ≤ r1 / 2 ^ fr v bits ↔ i * 2 ^ fr v bits ≤ r1 := Nat.le_div_iff_mul_le hs
  have k2 : r0 / 2 ^ fr v bits < i + 1 ↔ r0 < (i + 1) * 2 ^ fr v bits := Nat.div_lt_iff_lt_mul hs
  rw [Nat.add_mul, Nat.one_mul] at k2
  have k3 : r0 / 2 ^ fr v bits ≤ i ↔ r0 < i * 2 ^ fr v bits + 2 ^ fr v bits := by rw [← k2]; exact Nat.lt_succ_iff.symm
  rw [k1, k3]
  constructor
  · rintro ⟨x1, x2⟩; constructor <;> omega
  · rintro ⟨x1, x2⟩; constructor <;> omega
end Go.Proofs.YtpfilldnfpcpkaaGreatDoor

namespace Go.Proofs.YtpfilldnfpcpkaaGreatDoor
open Go.RowKit Go.Proofs.YtpfilldnfpcpkaaGreatDoorW.PrintWords Go.Proofs.YtpfilldnfpcpkaaGreatDoor.PPo

theorem hi_zero' {k : Nat} (h : k < 18446744073709551616) : hi k = 0 := by unfold hi; omega
theorem lo_is {k : Nat} (h : k < 18446744073709551616) : lo k = (k : Int) := by unfold lo; omega
theorem hi_pos {k : Nat} (h : 18446744073709551616 ≤ k) (h2 : k < 340282366920938463463374607431768211456) : hi k > 0 := by unfold hi; omega
/-- a number as one word -/
def smallS (k : Nat) : Int × Bool := if k < 18446744073709551616 then ((k : Int), true) else (0, false)
theorem small_f {k : Nat} (h : k < 340282366920938463463374607431768211456) : num_Small.f (hi k) (lo k) = some (smallS k) := by
  unfold num_Small.f smallS
  by_cases hk : k < 18446744073709551616
  · rw [if_pos hk, hi_zero' hk, lo_is hk, if_neg (by omega)]
  · rw [if_neg hk, if_pos (hi_pos (by omega) h)]
theorem smallS_lt {k : Nat} (h : k < 18446744073709551616) : smallS k = ((k : Int), true) := if_pos h
theorem small_k (k : Nat) (w : World) (h : k < 340282366920938463463374607431768211456) :
    Calls Tryz.prog 96 #[.agg #[.int .u64 (hi k), .int .u64 (lo k)]] w fun e w' => e = .returned (.tuple #[.int .u64 (smallS k).1, .bool (smallS k).2]) ∧ Below w.heap.size w w' :=
  num_Small.calls (hi k) (lo k) _ _ w (small_f h)
theorem numof_k (k : Nat) (w : World) (h : k < 18446744073709551616) :
    Calls Tryz.prog 126 #[.int .u64 (k : Int)] w fun e w' => e = .returned (.agg #[.int .u64 (hi k), .int .u64 (lo k)]) ∧ Below w.heap.size w w' := by
  have := num_Of.calls (k : Int) 0 (k : Int) w rfl
  rw [← hi_zero' h, ← lo_is h] at this
  rw [lo_is h] at this ⊢
  exact this
theorem powS_small {k : Nat} (h : k < 128) : powS k = (2 ^ k, true) := by unfold powS; rw [if_neg (by omega)]
end Go.Proofs.YtpfilldnfpcpkaaGreatDoor

