/-
A part of the proof of carveSpreads_card: its lemmas and walks, part 4. No condition.
-/
import Derived.Test.YtgdgklibilddgaaGreatDoorSprM3
set_option linter.unusedVariables false
set_option linter.unusedSimpArgs false
namespace Go.Proofs.YtgdgklibilddgaaGreatDoor.PSp
open Go.RowKit Go.Proofs.YtgdgklibilddgaaGreatDoorW.PrintWords Go.Proofs.YtgdgklibilddgaaGreatDoorW.PrintLast Go.Proofs.YtgdgklibilddgaaGreatDoorW.PrintMore
attribute [local go_sem] max2_int min2_int max_two min_two max_three min_three max_four min_four   -- for this text's walks alone

def prefix_Halves.f (a0_0 : Bool) (a0_1 : Int) (a0_2 : Int) (a0_3 : Int) : Option (Bool × Int × Int × Int × Bool × Int × Int × Int × Int) := (addr_Width.f a0_0 a0_1 a0_2).bind fun t156 => ((prefix_Right.f a0_0 a0_1 a0_2 a0_3).bind fun t157 => (if t157 = true then (if a0_3 = t156 then (some (false, 0, 0, 0, false, 0, 0, 0, 11)) else ((num_Of.f 1).bind fun bt160 => ((num_Shl.f bt160.1 bt160.2 (wrap64 (t156 - (wrap64 (a0_3 + 1))))).bind fun bt162 => ((num_Or.f a0_1 a0_2 bt162.1 bt162.2).bind fun bt164 => (some (a0_0, a0_1, a0_2, wrap64 (a0_3 + 1), a0_0, bt164.1, bt164.2, wrap64 (a0_3 + 1), 0)))))) else (some (false, 0, 0, 0, false, 0, 0, 0, 1))))
def prefix_Halves.T9 : Bool × List (List Nat × List Nat) := (true, [([], []), ([0], [0]), ([1], [1]), ([], []), ([], []), ([], []), ([5], [5]), ([4, 6], [4, 6]), ([3, 7, 3], [3, 7]), ([2, 8, 8], [2, 8]), ([0, 1, 2, 3, 4, 5, 6, 7, 8, 9], []), ([10, 0, 1, 2, 3, 4, 5, 6, 7, 8, 9], [10]), ([11, 9, 9, 0, 1, 2, 3, 4, 5, 6, 7, 8, 9], [9, 11])])
def prefix_Halves.B9 : List Nat := [0, 1, 3, 0, 0, 0, 32, 112, 248, 511, 1023, 2047, 4095]
theorem prefix_Halves.tab9 : rtab .any (opsOf Tryz.f33 9) = prefix_Halves.T9 := by kernel_rfl
theorem prefix_Halves.bits9 : waitsOk prefix_Halves.T9.2 prefix_Halves.B9 = true := by kernel_rfl
set_option maxHeartbeats 8000000 in
set_option maxRecDepth 100000 in
theorem prefix_Halves.calls (a0_0 : Bool) (a0_1 : Int) (a0_2 : Int) (a0_3 : Int) (r1 : Bool) (r2 : Int) (r3 : Int) (r4 : Int) (r5 : Bool) (r6 : Int) (r7 : Int) (r8 : Int) (r9 : Int) (w : World) (h : prefix_Halves.f a0_0 a0_1 a0_2 a0_3 = some (r1, r2, r3, r4, r5, r6, r7, r8, r9)) :
  Calls Tryz.prog 33 #[.agg #[.bool a0_0, .int .u64 a0_1, .int .u64 a0_2, .int .i64 a0_3]] w fun e w' => e = .returned (.tuple #[.agg #[.bool r1, .int .u64 r2, .int .u64 r3, .int .i64 r4], .agg #[.bool r5, .int .u64 r6, .int .u64 r7, .int .i64 r8], .int .i64 r9]) ∧ Below w.heap.size w w' := by
 have hu38 := Tryz.underlying38
 have hu26 := Tryz.underlying26
 have hu24 := Tryz.underlying24
 have HB := Aside0.mk (Below.refl w.heap.size w)
 have H : ((addr_Width.f a0_0 a0_1 a0_2).bind fun t156 => ((prefix_Right.f a0_0 a0_1 a0_2 a0_3).bind fun t157 => (if t157 = true then (if a0_3 = t156 then (some (false, 0, 0, 0, false, 0, 0, 0, 11)) else ((num_Of.f 1).bind fun bt160 => ((num_Shl.f bt160.1 bt160.2 (wrap64 (t156 - (wrap64 (a0_3 + 1))))).bind fun bt162 => ((num_Or.f a0_1 a0_2 bt162.1 bt162.2).bind fun bt164 => (some (a0_0, a0_1, a0_2, wrap64 (a0_3 + 1), a0_0, bt164.1, bt164.2, wrap64 (a0_3 + 1), 0)))))) else (some (false, 0, 0, 0, false, 0, 0, 0, 1))))) = some (r1, r2, r3, r4, r5, r6, r7, r8, r9) := h
 clear h
 replace H := Option.bind_eq_some_iff.mp H
 obtain ⟨t156, A20, H⟩ := H
 replace H : ((prefix_Right.f a0_0 a0_1 a0_2 a0_3).bind fun t157 => (if t157 = true then (if a0_3 = t156 then (some (false, 0, 0, 0, false, 0, 0, 0, 11)) else ((num_Of.f 1).bind fun bt160 => ((num_Shl.f bt160.1 bt160.2 (wrap64 (t156 - (wrap64 (a0_3 + 1))))).bind fun bt162 => ((num_Or.f a0_1 a0_2 bt162.1 bt162.2).bind fun bt164 => (some (a0_0, a0_1, a0_2, wrap64 (a0_3 + 1), a0_0, bt164.1, bt164.2, wrap64 (a0_3 + 1), 0)))))) else (some (false, 0, 0, 0, false, 0, 0, 0, 1)))) = some (r1, r2, r3, r4, r5, r6, r7, r8, r9) := H
 have A2 := Aside0.mk A20
 clear A20
 replace H := Option.bind_eq_some_iff.mp H
 obtain ⟨t157, A30, H⟩ := H
 replace H : (if t157 = true then (if a0_3 = t156 then (some (false, 0, 0, 0, false, 0, 0, 0, 11)) else ((num_Of.f 1).bind fun bt160 => ((num_Shl.f bt160.1 bt160.2 (wrap64 (t156 - (wrap64 (a0_3 + 1))))).bind fun bt162 => ((num_Or.f a0_1 a0_2 bt162.1 bt162.2).bind fun bt164 => (some (a0_0, a0_1, a0_2, wrap64 (a0_3 + 1), a0_0, bt164.1, bt164.2, wrap64 (a0_3 + 1), 0)))))) else (some (false, 0, 0, 0, false, 0, 0, 0, 1))) = some (r1, r2, r3, r4, r5, r6, r7, r8, r9) := H
 have A3 := Aside0.mk A30
 clear A30
 by_cases c4 : t157 = true
 ·
  subst c4
  rw [if_pos rfl] at H
  by_cases c5 : a0_3 = t156
  ·
   rw [if_pos c5] at H
   have c5b0 : (a0_3 == t156) = true := beq_iff_eq.mpr c5
   have c5b1 : (a0_3 != t156) = false := bne_eq_false_iff_eq.mpr c5
   clear c5
   simp only [Option.some.injEq, Prod.mk.injEq] at H
   obtain ⟨rfl, rfl, rfl, rfl, rfl, rfl, rfl, rfl, rfl⟩ := H
   go_enter Tryz.func33, Tryz.ntmps33
   go_wp2_with (first | ((with_reducible refine gate_dst (N := 1) rfl ?_); refine bx_ 1 #[.bool a0_0, .int .u64 a0_1, .int .u64 a0_2, .int .i64 a0_3] 38 ?_; intro gb153 hg w6 hbox hb; have BK153 := Aside0.mk (hbox); have GW153 := gw_ HB hg; have GE153 := gw_ HB hg; replace HB := bs_ HB hb; clear hb hbox hg) | ((with_reducible refine gate_dst (N := 2) rfl ?_); refine bx_ 2 #[.bool false, .int .u64 0, .int .u64 0, .int .i64 0] 38 ?_; intro gb154 hg w7 hbox hb; have BK154 := Aside0.mk (hbox); have GW154 := gw_ HB hg; have GE154 := gw_ HB hg; have NB153_154 := nl_ BK153 hg; have NB154_153 := ng_ BK153 hg; replace BK153 := bb_ BK153 hb; replace HB := bs_ HB hb; clear hb hbox hg) | ((with_reducible refine gate_dst (N := 3) rfl ?_); refine bx_ 3 #[.bool false, .int .u64 0, .int .u64 0, .int .i64 0] 38 ?_; intro gb155 hg w8 hbox hb; have BK155 := Aside0.mk (hbox); have GW155 := gw_ HB hg; have GE155 := gw_ HB hg; have NB153_155 := nl_ BK153 hg; have NB155_153 := ng_ BK153 hg; have NB154_155 := nl_ BK154 hg; have NB155_154 := ng_ BK154 hg; replace BK153 := bb_ BK153 hb; replace BK154 := bb_ BK154 hb; replace HB := bs_ HB hb; clear hb hbox hg; have hnb9 := NB153_154.out; have hnc9 := NB154_153.out; have hnb10 := NB153_155.out; have hnc10 := NB155_153.out; obtain ⟨hcz11_0, hcz11_1, hcz11_2, hcz11_3, hfz11_0, hfz11_1, hfz11_2, hfz11_3⟩ := c4_ BK153) | ((with_reducible refine gate_callee (f := 22) rfl ?_); refine gl_ (some 10) Tryz.func22 #[.agg #[.bool a0_0, .int .u64 a0_1, .int .u64 a0_2]] ?_; (with_reducible refine (addr_Width.calls a0_0 a0_1 a0_2 t156 _ A2.out).mono ?_); rintro e w12 ⟨rfl, hb⟩; refine ⟨_, rfl, ?_⟩; replace BK153 := bb_ BK153 hb; replace BK154 := bb_ BK154 hb; replace BK155 := bb_ BK155 hb; replace HB := bs_ HB hb; (try clear hb); (try clear hb2); (try clear hk); (try clear hi); obtain ⟨hcz13_0, hcz13_1, hcz13_2, hcz13_3, hfz13_0, hfz13_1, hfz13_2, hfz13_3⟩ := c4_ BK153) | ((with_reducible refine gate_callee (f := 36) rfl ?_); refine gl_ (some 13) Tryz.func36 #[.agg #[.bool a0_0, .int .u64 a0_1, .int .u64 a0_2, .int .i64 a0_3]] ?_; (with_reducible refine (prefix_Right.calls a0_0 a0_1 a0_2 a0_3 true _ A3.out).mono ?_); rintro e w14 ⟨rfl, hb⟩; refine ⟨_, rfl, ?_⟩; replace BK153 := bb_ BK153 hb; replace BK154 := bb_ BK154 hb; replace BK155 := bb_ BK155 hb; replace HB := bs_ HB hb; (try clear hb); (try clear hb2); (try clear hk); (try clear hi); obtain ⟨hcz15_0, hcz15_1, hcz15_2, hcz15_3, hfz15_0, hfz15_1, hfz15_2, hfz15_3⟩ := c4_ BK153; have hnb16 := NB154_155.out; have hnc16 := NB155_154.out; obtain ⟨hcz17_0, hcz17_1, hcz17_2, hcz17_3, hfz17_0, hfz17_1, hfz17_2, hfz17_3⟩ := c4_ BK154; obtain ⟨hcz18_0, hcz18_1, hcz18_2, hcz18_3, hfz18_0, hfz18_1, hfz18_2, hfz18_3⟩ := c4_ BK155))
   refine bodyPost_ret (results_list (rs := [.cell 2 38, .cell 3 38, .tmp 4]) rfl (by simp) (.cell gb154 38 #[.bool false, .int .u64 0, .int .u64 0, .int .i64 0] (0, 0) _ rfl (by refine pw_ ?_; refine blk_far ?_ NB154_155.out _; refine pw_ ?_; refine blk_far ?_ NB154_155.out _; refine pw_ ?_; refine blk_far ?_ NB154_155.out _; refine pw_ ?_; refine blk_far ?_ NB154_155.out _; refine pw_ ?_; refine blk_put (cs := #[.bool false, .int .u64 0, .int .u64 0, .int .i64 0]) ?_ 3 _ rfl; refine pw_ ?_; refine blk_put (cs := #[.bool false, .int .u64 0, .int .u64 0, .int .i64 0]) ?_ 2 _ rfl; refine pw_ ?_; refine blk_put (cs := #[.bool false, .int .u64 0, .int .u64 0, .int .i64 0]) ?_ 1 _ rfl; refine pw_ ?_; refine blk_put (cs := #[.bool false, .int .u64 0, .int .u64 0, .int .i64 0]) ?_ 0 _ rfl; refine pw_ ?_; exact BK154.out) Tryz.underlying38 rfl (by kernel_rfl) (.cell gb155 38 #[.bool false, .int .u64 0, .int .u64 0, .int .i64 0] (0, 0) _ rfl (by refine pw_ ?_; refine blk_put (cs := #[.bool false, .int .u64 0, .int .u64 0, .int .i64 0]) ?_ 3 _ rfl; refine pw_ ?_; refine blk_put (cs := #[.bool false, .int .u64 0, .int .u64 0, .int .i64 0]) ?_ 2 _ rfl; refine pw_ ?_; refine blk_put (cs := #[.bool false, .int .u64 0, .int .u64 0, .int .i64 0]) ?_ 1 _ rfl; refine pw_ ?_; refine blk_put (cs := #[.bool false, .int .u64 0, .int .u64 0, .int .i64 0]) ?_ 0 _ rfl; refine pw_ ?_; refine blk_far ?_ NB155_154.out _; refine pw_ ?_; refine blk_far ?_ NB155_154.out _; refine pw_ ?_; refine blk_far ?_ NB155_154.out _; refine pw_ ?_; refine blk_far ?_ NB155_154.out _; refine pw_ ?_; exact BK155.out) Tryz.underlying38 rfl (by kernel_rfl) (.tmp .nil)))) rfl ?_
   exact ⟨by first | rfl | (simp [errW_none, errW_some] <;> rfl) | (simp [*, errW_none, errW_some] <;> rfl), pb_ HB⟩
  ·
   rw [if_neg c5] at H
   have c5b0 : (a0_3 == t156) = false := beq_eq_false_iff_ne.mpr c5
   have c5b1 : (a0_3 != t156) = true := bne_iff_ne.mpr c5
   replace H := Option.bind_eq_some_iff.mp H
   obtain ⟨⟨t160, t161⟩, A190, H⟩ := H
   replace H : ((num_Shl.f t160 t161 (wrap64 (t156 - (wrap64 (a0_3 + 1))))).bind fun bt162 => ((num_Or.f a0_1 a0_2 bt162.1 bt162.2).bind fun bt164 => (some (a0_0, a0_1, a0_2, wrap64 (a0_3 + 1), a0_0, bt164.1, bt164.2, wrap64 (a0_3 + 1), 0)))) = some (r1, r2, r3, r4, r5, r6, r7, r8, r9) := H
   have A19 := Aside0.mk A190
   clear A190
   replace H := Option.bind_eq_some_iff.mp H
   obtain ⟨⟨t162, t163⟩, A200, H⟩ := H
   replace H : ((num_Or.f a0_1 a0_2 t162 t163).bind fun bt164 => (some (a0_0, a0_1, a0_2, wrap64 (a0_3 + 1), a0_0, bt164.1, bt164.2, wrap64 (a0_3 + 1), 0))) = some (r1, r2, r3, r4, r5, r6, r7, r8, r9) := H
   have A20 := Aside0.mk A200
   clear A200
   replace H := Option.bind_eq_some_iff.mp H
   obtain ⟨⟨t164, t165⟩, A210, H⟩ := H
   replace H : (some (a0_0, a0_1, a0_2, wrap64 (a0_3 + 1), a0_0, t164, t165, wrap64 (a0_3 + 1), 0)) = some (r1, r2, r3, r4, r5, r6, r7, r8, r9) := H
   have A21 := Aside0.mk A210
   clear A210
   simp only [Option.some.injEq, Prod.mk.injEq] at H
   obtain ⟨rfl, rfl, rfl, rfl, rfl, rfl, rfl, rfl, rfl⟩ := H
   go_enter Tryz.func33, Tryz.ntmps33
   try go_wp2_with (first | ((with_reducible refine gate_dst (N := 1) rfl ?_); refine bx_ 1 #[.bool a0_0, .int .u64 a0_1, .int .u64 a0_2, .int .i64 a0_3] 38 ?_; intro gb153 hg w22 hbox hb; have BK153 := Aside0.mk (hbox); have GW153 := gw_ HB hg; have GE153 := gw_ HB hg; replace HB := bs_ HB hb; clear hb hbox hg) | ((with_reducible refine gate_dst (N := 2) rfl ?_); refine bx_ 2 #[.bool false, .int .u64 0, .int .u64 0, .int .i64 0] 38 ?_; intro gb154 hg w23 hbox hb; have BK154 := Aside0.mk (hbox); have GW154 := gw_ HB hg; have GE154 := gw_ HB hg; have NB153_154 := nl_ BK153 hg; have NB154_153 := ng_ BK153 hg; replace BK153 := bb_ BK153 hb; replace HB := bs_ HB hb; clear hb hbox hg) | ((with_reducible refine gate_dst (N := 3) rfl ?_); refine bx_ 3 #[.bool false, .int .u64 0, .int .u64 0, .int .i64 0] 38 ?_; intro gb155 hg w24 hbox hb; have BK155 := Aside0.mk (hbox); have GW155 := gw_ HB hg; have GE155 := gw_ HB hg; have NB153_155 := nl_ BK153 hg; have NB155_153 := ng_ BK153 hg; have NB154_155 := nl_ BK154 hg; have NB155_154 := ng_ BK154 hg; replace BK153 := bb_ BK153 hb; replace BK154 := bb_ BK154 hb; replace HB := bs_ HB hb; clear hb hbox hg; have hnb25 := NB153_154.out; have hnc25 := NB154_153.out; have hnb26 := NB153_155.out; have hnc26 := NB155_153.out; obtain ⟨hcz27_0, hcz27_1, hcz27_2, hcz27_3, hfz27_0, hfz27_1, hfz27_2, hfz27_3⟩ := c4_ BK153) | ((with_reducible refine gate_callee (f := 22) rfl ?_); refine gl_ (some 10) Tryz.func22 #[.agg #[.bool a0_0, .int .u64 a0_1, .int .u64 a0_2]] ?_; (with_reducible refine (addr_Width.calls a0_0 a0_1 a0_2 t156 _ A2.out).mono ?_); rintro e w28 ⟨rfl, hb⟩; refine ⟨_, rfl, ?_⟩; replace BK153 := bb_ BK153 hb; replace BK154 := bb_ BK154 hb; replace BK155 := bb_ BK155 hb; replace HB := bs_ HB hb; (try clear hb); (try clear hb2); (try clear hk); (try clear hi); obtain ⟨hcz29_0, hcz29_1, hcz29_2, hcz29_3, hfz29_0, hfz29_1, hfz29_2, hfz29_3⟩ := c4_ BK153) | ((with_reducible refine gate_callee (f := 36) rfl ?_); refine gl_ (some 13) Tryz.func36 #[.agg #[.bool a0_0, .int .u64 a0_1, .int .u64 a0_2, .int .i64 a0_3]] ?_; (with_reducible refine (prefix_Right.calls a0_0 a0_1 a0_2 a0_3 true _ A3.out).mono ?_); rintro e w30 ⟨rfl, hb⟩; refine ⟨_, rfl, ?_⟩; replace BK153 := bb_ BK153 hb; replace BK154 := bb_ BK154 hb; replace BK155 := bb_ BK155 hb; replace HB := bs_ HB hb; (try clear hb); (try clear hb2); (try clear hk); (try clear hi); obtain ⟨hcz31_0, hcz31_1, hcz31_2, hcz31_3, hfz31_0, hfz31_1, hfz31_2, hfz31_3⟩ := c4_ BK153))
   replace BK153 := Aside0.mk (blk_drew BK153.out)
   replace BK154 := Aside0.mk (blk_drew BK154.out)
   replace BK155 := Aside0.mk (blk_drew BK155.out)
   replace HB := Aside0.mk (below_drew1 HB.out)
   refine start_ (n := 6) (S := fun w' => w'.cell? ⟨gb153, 0, none⟩ = some (.bool a0_0) ∧ w'.cell? ⟨gb153, 1, none⟩ = some (.int .u64 a0_1) ∧ w'.cell? ⟨gb153, 2, none⟩ = some (.int .u64 a0_2) ∧ w'.cell? ⟨gb153, 3, none⟩ = some (.int .i64 a0_3)) (ds := []) (bm_ 6 0) (by kernel_rfl) rfl rfl ⟨kc_ BK153 0, kc_ BK153 1, kc_ BK153 2, kc_ BK153 3⟩ (fun hHeld => ?_)
   generalize w30.drew = w32 at BK153 BK154 BK155 HB hHeld ⊢
   refine take_ (i := 0) (N := some 24) (v := ?_) (a' := ?_) (bm_ 6 1) rfl rfl (by kernel_rfl) (fun _ _ _ h => h) (Or.inl ⟨by rfl, ?_⟩) hHeld ?_ ?_
   rotate_left
   ·
    rintro w' ⟨s0, s1, s2, s3⟩
    go_simp
    with_reducible rfl
   rotate_left
   ·
    simp only [Act.put, List.setIfInBounds_toArray, List.set_cons_zero, List.set_cons_succ, i64_w, i32_w]
    rfl
   refine take_ (i := 1) (N := some 25) (v := ?_) (a' := ?_) (bm_ 6 3) rfl rfl (by kernel_rfl) (fun _ _ _ h => h) (Or.inl ⟨by rfl, ?_⟩) hHeld ?_ ?_
   rotate_left
   ·
    rintro w' ⟨s0, s1, s2, s3⟩
    go_simp
    with_reducible rfl
   rotate_left
   ·
    simp only [Act.put, List.setIfInBounds_toArray, List.set_cons_zero, List.set_cons_succ, i64_w, i32_w]
    rfl
   refine join_ (σ := Nat × Nat) 2 (bm_ 6 15) (fun s_ => [(6, .pointer (some ⟨s_.1, 0, none⟩)), (7, .pointer (some ⟨s_.2, 0, none⟩))]) (fun s_ w' => (w'.cell? ⟨gb153, 0, none⟩ = some (.bool a0_0) ∧ w'.cell? ⟨gb153, 1, none⟩ = some (.int .u64 a0_1) ∧ w'.cell? ⟨gb153, 2, none⟩ = some (.int .u64 a0_2) ∧ w'.cell? ⟨gb153, 3, none⟩ = some (.int .i64 a0_3)) ∧ (w'.heap[gb153]? = some (.cells #[.bool a0_0, .int .u64 a0_1, .int .u64 a0_2, .int .i64 a0_3] 38 (0, 0))) ∧ (w'.heap[gb154]? = some (.cells #[.bool false, .int .u64 0, .int .u64 0, .int .i64 0] 38 (0, 0))) ∧ (w'.heap[gb155]? = some (.cells #[.bool false, .int .u64 0, .int .u64 0, .int .i64 0] 38 (0, 0))) ∧ (w'.heap[s_.1]? = some (.cells #[.bool false, .int .u64 0, .int .u64 0, .int .i64 0] 38 (0, 0))) ∧ (w'.heap[s_.2]? = some (.cells #[.bool false, .int .u64 0, .int .u64 0, .int .i64 0] 38 (0, 0))) ∧ (w.heap.size ≤ s_.1) ∧ (w.heap.size ≤ s_.1) ∧ (gb153 ≠ s_.1) ∧ (s_.1 ≠ gb153) ∧ (gb154 ≠ s_.1) ∧ (s_.1 ≠ gb154) ∧ (gb155 ≠ s_.1) ∧ (s_.1 ≠ gb155) ∧ (s_.2 ≠ s_.1) ∧ (s_.1 ≠ s_.2) ∧ (w.heap.size ≤ s_.2) ∧ (w.heap.size ≤ s_.2) ∧ (gb153 ≠ s_.2) ∧ (s_.2 ≠ gb153) ∧ (gb154 ≠ s_.2) ∧ (s_.2 ≠ gb154) ∧ (gb155 ≠ s_.2) ∧ (s_.2 ≠ gb155) ∧ (Below w.heap.size w w')) ?_ ?_
   rotate_left
   ·
    intro hCont
    refine two_ (i := 2) (j := 3) (Ni := some 6) (Nj := some 7) (bm_ 6 7) (bm_ 6 11) rfl rfl rfl rfl (by kernel_rfl) (by decide) (by decide) (fun K hK => ?_) (fun K hK => ?_)
    ·
     skip
     refine box_step ?hg (N := 6) ?hd (cs := #[.bool false, .int .u64 0, .int .u64 0, .int .i64 0]) (t := 38) ?hr ?_; (case hd => rfl); (case hg => rfl); (case hr => first | (go_simp; done) | (go_simp; rfl))
     intro gb158 hg w33 hbox hb
     have BK158 := Aside0.mk (hbox)
     have GW158 := gw_ HB hg
     have GE158 := gw_ HB hg
     have NB153_158 := nl_ BK153 hg
     have NB158_153 := ng_ BK153 hg
     have NB154_158 := nl_ BK154 hg
     have NB158_154 := ng_ BK154 hg
     have NB155_158 := nl_ BK155 hg
     have NB158_155 := ng_ BK155 hg
     replace BK153 := bb_ BK153 hb
     replace BK154 := bb_ BK154 hb
     replace BK155 := bb_ BK155 hb
     replace HB := bs_ HB hb
     clear hb hbox hg
     refine hK.out _ _ ⟨kc_ BK153 0, kc_ BK153 1, kc_ BK153 2, kc_ BK153 3⟩ (fun hHeld => ?_)
     clear hK K
     refine norm_ (a' := ?_) ?_ ?_
     rotate_left
     ·
      show Act.put _ (some 6) _ = _
      simp only [Act.put, List.setIfInBounds_toArray, List.set_cons_zero, List.set_cons_succ, i64_w, i32_w]
      rfl
     refine one_ (i := 3) (N := some 7) (bm_ 6 15) rfl rfl (by kernel_rfl) (by decide) (fun K hK => ?_)
     refine box_step ?hg (N := 7) ?hd (cs := #[.bool false, .int .u64 0, .int .u64 0, .int .i64 0]) (t := 38) ?hr ?_; (case hd => rfl); (case hg => rfl); (case hr => first | (go_simp; done) | (go_simp; rfl))
     intro gb159 hg w34 hbox hb
     have BK159 := Aside0.mk (hbox)
     have GW159 := gw_ HB hg
     have GE159 := gw_ HB hg
     have NB153_159 := nl_ BK153 hg
     have NB159_153 := ng_ BK153 hg
     have NB154_159 := nl_ BK154 hg
     have NB159_154 := ng_ BK154 hg
     have NB155_159 := nl_ BK155 hg
     have NB159_155 := ng_ BK155 hg
     have NB158_159 := nl_ BK158 hg
     have NB159_158 := ng_ BK158 hg
     replace BK153 := bb_ BK153 hb
     replace BK154 := bb_ BK154 hb
     replace BK155 := bb_ BK155 hb
     replace BK158 := bb_ BK158 hb
     replace HB := bs_ HB hb
     clear hb hbox hg
     refine hK.out _ _ ⟨kc_ BK153 0, kc_ BK153 1, kc_ BK153 2, kc_ BK153 3⟩ (fun hHeld => ?_)
     clear hK K
     refine norm_ (a' := ?_) ?_ ?_
     rotate_left
     ·
      show Act.put _ (some 7) _ = _
      simp only [Act.put, List.setIfInBounds_toArray, List.set_cons_zero, List.set_cons_succ, i64_w, i32_w]
      rfl
     exact norm_ (by simp only [putAll, Act.put, List.setIfInBounds_toArray, List.set_cons_zero, List.set_cons_succ]) (hCont (gb158, gb159) _ ⟨hHeld, (pk_ BK153), (pk_ BK154), (pk_ BK155), (pk_ BK158), (pk_ BK159), GW158.out, GE158.out, NB153_158.out, NB158_153.out, NB154_158.out, NB158_154.out, NB155_158.out, NB158_155.out, NB159_158.out, NB158_159.out, GW159.out, GE159.out, NB153_159.out, NB159_153.out, NB154_159.out, NB159_154.out, NB155_159.out, NB159_155.out, (pb_ HB)⟩)
    ·
     skip
     refine box_step ?hg (N := 7) ?hd (cs := #[.bool false, .int .u64 0, .int .u64 0, .int .i64 0]) (t := 38) ?hr ?_; (case hd => rfl); (case hg => rfl); (case hr => first | (go_simp; done) | (go_simp; rfl))
     intro gb159 hg w33 hbox hb
     have BK159 := Aside0.mk (hbox)
     have GW159 := gw_ HB hg
     have GE159 := gw_ HB hg
     have NB153_159 := nl_ BK153 hg
     have NB159_153 := ng_ BK153 hg
     have NB154_159 := nl_ BK154 hg
     have NB159_154 := ng_ BK154 hg
     have NB155_159 := nl_ BK155 hg
     have NB159_155 := ng_ BK155 hg
     replace BK153 := bb_ BK153 hb
     replace BK154 := bb_ BK154 hb
     replace BK155 := bb_ BK155 hb
     replace HB := bs_ HB hb
     clear hb hbox hg
     refine hK.out _ _ ⟨kc_ BK153 0, kc_ BK153 1, kc_ BK153 2, kc_ BK153 3⟩ (fun hHeld => ?_)
     clear hK K
     refine norm_ (a' := ?_) ?_ ?_
     rotate_left
     ·
      show Act.put _ (some 7) _ = _
      simp only [Act.put, List.setIfInBounds_toArray, List.set_cons_zero, List.set_cons_succ, i64_w, i32_w]
      rfl
     refine one_ (i := 2) (N := some 6) (bm_ 6 15) rfl rfl (by kernel_rfl) (by decide) (fun K hK => ?_)
     refine box_step ?hg (N := 6) ?hd (cs := #[.bool false, .int .u64 0, .int .u64 0, .int .i64 0]) (t := 38) ?hr ?_; (case hd => rfl); (case hg => rfl); (case hr => first | (go_simp; done) | (go_simp; rfl))
     intro gb158 hg w34 hbox hb
     have BK158 := Aside0.mk (hbox)
     have GW158 := gw_ HB hg
     have GE158 := gw_ HB hg
     have NB153_158 := nl_ BK153 hg
     have NB158_153 := ng_ BK153 hg
     have NB154_158 := nl_ BK154 hg
     have NB158_154 := ng_ BK154 hg
     have NB155_158 := nl_ BK155 hg
     have NB158_155 := ng_ BK155 hg
     have NB159_158 := nl_ BK159 hg
     have NB158_159 := ng_ BK159 hg
     replace BK153 := bb_ BK153 hb
     replace BK154 := bb_ BK154 hb
     replace BK155 := bb_ BK155 hb
     replace BK159 := bb_ BK159 hb
     replace HB := bs_ HB hb
     clear hb hbox hg
     refine hK.out _ _ ⟨kc_ BK153 0, kc_ BK153 1, kc_ BK153 2, kc_ BK153 3⟩ (fun hHeld => ?_)
     clear hK K
     refine norm_ (a' := ?_) ?_ ?_
     rotate_left
     ·
      show Act.put _ (some 6) _ = _
      simp only [Act.put, List.setIfInBounds_toArray, List.set_cons_zero, List.set_cons_succ, i64_w, i32_w]
      rfl
     exact norm_ (by simp only [putAll, Act.put, List.setIfInBounds_toArray, List.set_cons_zero, List.set_cons_succ]) (hCont (gb158, gb159) _ ⟨hHeld, (pk_ BK153), (pk_ BK154), (pk_ BK155), (pk_ BK158), (pk_ BK159), GW158.out, GE158.out, NB153_158.out, NB158_153.out, NB154_158.out, NB158_154.out, NB155_158.out, NB158_155.out, NB159_158.out, NB158_159.out, GW159.out, GE159.out, NB153_159.out, NB159_153.out, NB154_159.out, NB159_154.out, NB155_159.out, NB159_155.out, (pb_ HB)⟩)
   rintro ⟨gb158, gb159⟩ w35 ⟨hS_, h0_, h1_, h2_, h3_, h4_, h5_, h6_, h7_, h8_, h9_, h10_, h11_, h12_, h13_, h14_, h15_, h16_, h17_, h18_, h19_, h20_, h21_, h22_, h23_⟩
   have n0_ : Aside0 (w35.heap[gb153]? = some (.cells #[.bool a0_0, .int .u64 a0_1, .int .u64 a0_2, .int .i64 a0_3] 38 (0, 0))) := ⟨h0_⟩
   have n1_ : Aside0 (w35.heap[gb154]? = some (.cells #[.bool false, .int .u64 0, .int .u64 0, .int .i64 0] 38 (0, 0))) := ⟨h1_⟩
   have n2_ : Aside0 (w35.heap[gb155]? = some (.cells #[.bool false, .int .u64 0, .int .u64 0, .int .i64 0] 38 (0, 0))) := ⟨h2_⟩
   have n3_ : Aside0 (w35.heap[gb158]? = some (.cells #[.bool false, .int .u64 0, .int .u64 0, .int .i64 0] 38 (0, 0))) := ⟨h3_⟩
   have n4_ : Aside0 (w35.heap[gb159]? = some (.cells #[.bool false, .int .u64 0, .int .u64 0, .int .i64 0] 38 (0, 0))) := ⟨h4_⟩
   have n5_ : Aside0 (w.heap.size ≤ gb158) := ⟨h5_⟩
   have n6_ : Aside0 (w.heap.size ≤ gb158) := ⟨h6_⟩
   have n7_ : Aside0 (gb153 ≠ gb158) := ⟨h7_⟩
   have n8_ : Aside0 (gb158 ≠ gb153) := ⟨h8_⟩
   have n9_ : Aside0 (gb154 ≠ gb158) := ⟨h9_⟩
   have n10_ : Aside0 (gb158 ≠ gb154) := ⟨h10_⟩
   have n11_ : Aside0 (gb155 ≠ gb158) := ⟨h11_⟩
   have n12_ : Aside0 (gb158 ≠ gb155) := ⟨h12_⟩
   have n13_ : Aside0 (gb159 ≠ gb158) := ⟨h13_⟩
   have n14_ : Aside0 (gb158 ≠ gb159) := ⟨h14_⟩
   have n15_ : Aside0 (w.heap.size ≤ gb159) := ⟨h15_⟩
   have n16_ : Aside0 (w.heap.size ≤ gb159) := ⟨h16_⟩
   have n17_ : Aside0 (gb153 ≠ gb159) := ⟨h17_⟩
   have n18_ : Aside0 (gb159 ≠ gb153) := ⟨h18_⟩
   have n19_ : Aside0 (gb154 ≠ gb159) := ⟨h19_⟩
   have n20_ : Aside0 (gb159 ≠ gb154) := ⟨h20_⟩
   have n21_ : Aside0 (gb155 ≠ gb159) := ⟨h21_⟩
   have n22_ : Aside0 (gb159 ≠ gb155) := ⟨h22_⟩
   have n23_ : Aside0 (Below w.heap.size w w35) := ⟨h23_⟩
   clear BK153
   clear BK154
   clear BK155
   clear HB
   clear h0_ h1_ h2_ h3_ h4_ h5_ h6_ h7_ h8_ h9_ h10_ h11_ h12_ h13_ h14_ h15_ h16_ h17_ h18_ h19_ h20_ h21_ h22_ h23_
   have BK153 := n0_
   have BK154 := n1_
   have BK155 := n2_
   have BK158 := n3_
   have BK159 := n4_
   have GW158 := n5_
   have GE158 := n6_
   have NB153_158 := n7_
   have NB158_153 := n8_
   have NB154_158 := n9_
   have NB158_154 := n10_
   have NB155_158 := n11_
   have NB158_155 := n12_
   have NB159_158 := n13_
   have NB158_159 := n14_
   have GW159 := n15_
   have GE159 := n16_
   have NB153_159 := n17_
   have NB159_153 := n18_
   have NB154_159 := n19_
   have NB159_154 := n20_
   have NB155_159 := n21_
   have NB159_155 := n22_
   have HB := n23_
   clear n0_ n1_ n2_ n3_ n4_ n5_ n6_ n7_ n8_ n9_ n10_ n11_ n12_ n13_ n14_ n15_ n16_ n17_ n18_ n19_ n20_ n21_ n22_ n23_
   have hHeld : w35.cell? ⟨gb153, 0, none⟩ = some (.bool a0_0) ∧ w35.cell? ⟨gb153, 1, none⟩ = some (.int .u64 a0_1) ∧ w35.cell? ⟨gb153, 2, none⟩ = some (.int .u64 a0_2) ∧ w35.cell? ⟨gb153, 3, none⟩ = some (.int .i64 a0_3) := hS_
   refine norm_ (a' := ?_) ?_ ?_
   rotate_left
   ·
    simp only [putAll, Act.put, List.setIfInBounds_toArray, List.set_cons_zero, List.set_cons_succ]
    rfl
   refine one_ (i := 4) (N := none) (bm_ 6 31) rfl rfl (by kernel_rfl) (by decide) (fun K hK => ?_)
   have hs36 : w35.cell? ⟨gb158, 0, none⟩ = some (.bool false) := kc_ BK158 0
   have hfs36 := blk_frozen BK158.out 0
   have hns36_0 := NB153_158.out
   have hns36_1 := NB154_158.out
   have hns36_2 := NB155_158.out
   have hns36_4 := NB159_158.out
   have hms36_0 := NB158_153.out
   have hms36_1 := NB158_154.out
   have hms36_2 := NB158_155.out
   have hms36_4 := NB158_159.out
   have hs37 : w35.cell? ⟨gb158, 1, none⟩ = some (.int .u64 0) := kc_ BK158 1
   have hfs37 := blk_frozen BK158.out 1
   have hns37_0 := NB153_158.out
   have hns37_1 := NB154_158.out
   have hns37_2 := NB155_158.out
   have hns37_4 := NB159_158.out
   have hms37_0 := NB158_153.out
   have hms37_1 := NB158_154.out
   have hms37_2 := NB158_155.out
   have hms37_4 := NB158_159.out
   have hs38 : w35.cell? ⟨gb158, 2, none⟩ = some (.int .u64 0) := kc_ BK158 2
   have hfs38 := blk_frozen BK158.out 2
   have hns38_0 := NB153_158.out
   have hns38_1 := NB154_158.out
   have hns38_2 := NB155_158.out
   have hns38_4 := NB159_158.out
   have hms38_0 := NB158_153.out
   have hms38_1 := NB158_154.out
   have hms38_2 := NB158_155.out
   have hms38_4 := NB158_159.out
   have hs39 : w35.cell? ⟨gb158, 3, none⟩ = some (.int .i64 0) := kc_ BK158 3
   have hfs39 := blk_frozen BK158.out 3
   have hns39_0 := NB153_158.out
   have hns39_1 := NB154_158.out
   have hns39_2 := NB155_158.out
   have hns39_4 := NB159_158.out
   have hms39_0 := NB158_153.out
   have hms39_1 := NB158_154.out
   have hms39_2 := NB158_155.out
   have hms39_4 := NB158_159.out
   refine skip_ (w1 := ?_) (by rfl) rfl ?_ ?_
   rotate_left
   ·
    go_simp
    rfl
   refine hK.out _ _ ⟨((cell_far (p := ⟨gb158, _, none⟩) NB153_158.out _).trans (((cell_far (p := ⟨gb158, _, none⟩) NB153_158.out _).trans (((cell_far (p := ⟨gb158, _, none⟩) NB153_158.out _).trans (((cell_far (p := ⟨gb158, _, none⟩) NB153_158.out _).trans (hHeld.1)))))))), ((cell_far (p := ⟨gb158, _, none⟩) NB153_158.out _).trans (((cell_far (p := ⟨gb158, _, none⟩) NB153_158.out _).trans (((cell_far (p := ⟨gb158, _, none⟩) NB153_158.out _).trans (((cell_far (p := ⟨gb158, _, none⟩) NB153_158.out _).trans (hHeld.2.1)))))))), ((cell_far (p := ⟨gb158, _, none⟩) NB153_158.out _).trans (((cell_far (p := ⟨gb158, _, none⟩) NB153_158.out _).trans (((cell_far (p := ⟨gb158, _, none⟩) NB153_158.out _).trans (((cell_far (p := ⟨gb158, _, none⟩) NB153_158.out _).trans (hHeld.2.2.1)))))))), ((cell_far (p := ⟨gb158, _, none⟩) NB153_158.out _).trans (((cell_far (p := ⟨gb158, _, none⟩) NB153_158.out _).trans (((cell_far (p := ⟨gb158, _, none⟩) NB153_158.out _).trans (((cell_far (p := ⟨gb158, _, none⟩) NB153_158.out _).trans (hHeld.2.2.2))))))))⟩ (fun hHeld => ?_)
   clear hK K
   refine one_ (i := 5) (N := none) (bm_ 6 63) rfl rfl (by kernel_rfl) (by decide) (fun K hK => ?_)
   have hs40 : w35.cell? ⟨gb159, 0, none⟩ = some (.bool false) := kc_ BK159 0
   have hfs40 := blk_frozen BK159.out 0
   have hns40_0 := NB153_159.out
   have hns40_1 := NB154_159.out
   have hns40_2 := NB155_159.out
   have hns40_3 := NB158_159.out
   have hms40_0 := NB159_153.out
   have hms40_1 := NB159_154.out
   have hms40_2 := NB159_155.out
   have hms40_3 := NB159_158.out
   have hs41 : w35.cell? ⟨gb159, 1, none⟩ = some (.int .u64 0) := kc_ BK159 1
   have hfs41 := blk_frozen BK159.out 1
   have hns41_0 := NB153_159.out
   have hns41_1 := NB154_159.out
   have hns41_2 := NB155_159.out
   have hns41_3 := NB158_159.out
   have hms41_0 := NB159_153.out
   have hms41_1 := NB159_154.out
   have hms41_2 := NB159_155.out
   have hms41_3 := NB159_158.out
   have hs42 : w35.cell? ⟨gb159, 2, none⟩ = some (.int .u64 0) := kc_ BK159 2
   have hfs42 := blk_frozen BK159.out 2
   have hns42_0 := NB153_159.out
   have hns42_1 := NB154_159.out
   have hns42_2 := NB155_159.out
   have hns42_3 := NB158_159.out
   have hms42_0 := NB159_153.out
   have hms42_1 := NB159_154.out
   have hms42_2 := NB159_155.out
   have hms42_3 := NB159_158.out
   have hs43 : w35.cell? ⟨gb159, 3, none⟩ = some (.int .i64 0) := kc_ BK159 3
   have hfs43 := blk_frozen BK159.out 3
   have hns43_0 := NB153_159.out
   have hns43_1 := NB154_159.out
   have hns43_2 := NB155_159.out
   have hns43_3 := NB158_159.out
   have hms43_0 := NB159_153.out
   have hms43_1 := NB159_154.out
   have hms43_2 := NB159_155.out
   have hms43_3 := NB159_158.out
   refine skip_ (w1 := ?_) (by rfl) rfl ?_ ?_
   rotate_left
   ·
    go_simp
    rfl
   refine hK.out _ _ ⟨((cell_far (p := ⟨gb159, _, none⟩) NB153_159.out _).trans (((cell_far (p := ⟨gb159, _, none⟩) NB153_159.out _).trans (((cell_far (p := ⟨gb159, _, none⟩) NB153_159.out _).trans (((cell_far (p := ⟨gb159, _, none⟩) NB153_159.out _).trans (hHeld.1)))))))), ((cell_far (p := ⟨gb159, _, none⟩) NB153_159.out _).trans (((cell_far (p := ⟨gb159, _, none⟩) NB153_159.out _).trans (((cell_far (p := ⟨gb159, _, none⟩) NB153_159.out _).trans (((cell_far (p := ⟨gb159, _, none⟩) NB153_159.out _).trans (hHeld.2.1)))))))), ((cell_far (p := ⟨gb159, _, none⟩) NB153_159.out _).trans (((cell_far (p := ⟨gb159, _, none⟩) NB153_159.out _).trans (((cell_far (p := ⟨gb159, _, none⟩) NB153_159.out _).trans (((cell_far (p := ⟨gb159, _, none⟩) NB153_159.out _).trans (hHeld.2.2.1)))))))), ((cell_far (p := ⟨gb159, _, none⟩) NB153_159.out _).trans (((cell_far (p := ⟨gb159, _, none⟩) NB153_159.out _).trans (((cell_far (p := ⟨gb159, _, none⟩) NB153_159.out _).trans (((cell_far (p := ⟨gb159, _, none⟩) NB153_159.out _).trans (hHeld.2.2.2))))))))⟩ (fun hHeld => ?_)
   clear hK K
   refine done_ (by kernel_rfl) ?_
   have hnb44 := NB158_153.out
   have hnc44 := NB153_158.out
   have hnb45 := NB158_154.out
   have hnc45 := NB154_158.out
   have hnb46 := NB158_155.out
   have hnc46 := NB155_158.out
   have hnb47 := NB158_159.out
   have hnc47 := NB159_158.out
   obtain ⟨hcz48_0, hcz48_1, hcz48_2, hcz48_3, hfz48_0, hfz48_1, hfz48_2, hfz48_3⟩ := c4_ BK158
   have hnb49 := NB159_153.out
   have hnc49 := NB153_159.out
   have hnb50 := NB159_154.out
   have hnc50 := NB154_159.out
   have hnb51 := NB159_155.out
   have hnc51 := NB155_159.out
   obtain ⟨hcz52_0, hcz52_1, hcz52_2, hcz52_3, hfz52_0, hfz52_1, hfz52_2, hfz52_3⟩ := c4_ BK159
   try go_wp2
   have n0_ : Aside0 (((((((((((w35.setCell ⟨gb158, 0, none⟩ (.bool a0_0)).setCell ⟨gb158, 1, none⟩ (.int .u64 a0_1)).setCell ⟨gb158, 2, none⟩ (.int .u64 a0_2)).setCell ⟨gb158, 3, none⟩ (.int .i64 a0_3)).setCell ⟨gb159, 0, none⟩ (.bool a0_0)).setCell ⟨gb159, 1, none⟩ (.int .u64 a0_1)).setCell ⟨gb159, 2, none⟩ (.int .u64 a0_2)).setCell ⟨gb159, 3, none⟩ (.int .i64 a0_3)).setCell ⟨gb158, 3, none⟩ (.int .i64 (wrap64 (a0_3 + 1)))).setCell ⟨gb159, 3, none⟩ (.int .i64 (wrap64 (a0_3 + 1)))).heap[gb153]? = some (.cells #[.bool a0_0, .int .u64 a0_1, .int .u64 a0_2, .int .i64 a0_3] 38 (0, 0))) := ⟨by refine pw_ ?_; refine blk_far ?_ NB153_159.out _; refine pw_ ?_; refine blk_far ?_ NB153_158.out _; refine pw_ ?_; refine blk_far ?_ NB153_159.out _; refine pw_ ?_; refine blk_far ?_ NB153_159.out _; refine pw_ ?_; refine blk_far ?_ NB153_159.out _; refine pw_ ?_; refine blk_far ?_ NB153_159.out _; refine pw_ ?_; refine blk_far ?_ NB153_158.out _; refine pw_ ?_; refine blk_far ?_ NB153_158.out _; refine pw_ ?_; refine blk_far ?_ NB153_158.out _; refine pw_ ?_; refine blk_far ?_ NB153_158.out _; refine pw_ ?_; exact BK153.out⟩
   have n1_ : Aside0 (((((((((((w35.setCell ⟨gb158, 0, none⟩ (.bool a0_0)).setCell ⟨gb158, 1, none⟩ (.int .u64 a0_1)).setCell ⟨gb158, 2, none⟩ (.int .u64 a0_2)).setCell ⟨gb158, 3, none⟩ (.int .i64 a0_3)).setCell ⟨gb159, 0, none⟩ (.bool a0_0)).setCell ⟨gb159, 1, none⟩ (.int .u64 a0_1)).setCell ⟨gb159, 2, none⟩ (.int .u64 a0_2)).setCell ⟨gb159, 3, none⟩ (.int .i64 a0_3)).setCell ⟨gb158, 3, none⟩ (.int .i64 (wrap64 (a0_3 + 1)))).setCell ⟨gb159, 3, none⟩ (.int .i64 (wrap64 (a0_3 + 1)))).heap[gb154]? = some (.cells #[.bool false, .int .u64 0, .int .u64 0, .int .i64 0] 38 (0, 0))) := ⟨by refine pw_ ?_; refine blk_far ?_ NB154_159.out _; refine pw_ ?_; refine blk_far ?_ NB154_158.out _; refine pw_ ?_; refine blk_far ?_ NB154_159.out _; refine pw_ ?_; refine blk_far ?_ NB154_159.out _; refine pw_ ?_; refine blk_far ?_ NB154_159.out _; refine pw_ ?_; refine blk_far ?_ NB154_159.out _; refine pw_ ?_; refine blk_far ?_ NB154_158.out _; refine pw_ ?_; refine blk_far ?_ NB154_158.out _; refine pw_ ?_; refine blk_far ?_ NB154_158.out _; refine pw_ ?_; refine blk_far ?_ NB154_158.out _; refine pw_ ?_; exact BK154.out⟩
   have n2_ : Aside0 (((((((((((w35.setCell ⟨gb158, 0, none⟩ (.bool a0_0)).setCell ⟨gb158, 1, none⟩ (.int .u64 a0_1)).setCell ⟨gb158, 2, none⟩ (.int .u64 a0_2)).setCell ⟨gb158, 3, none⟩ (.int .i64 a0_3)).setCell ⟨gb159, 0, none⟩ (.bool a0_0)).setCell ⟨gb159, 1, none⟩ (.int .u64 a0_1)).setCell ⟨gb159, 2, none⟩ (.int .u64 a0_2)).setCell ⟨gb159, 3, none⟩ (.int .i64 a0_3)).setCell ⟨gb158, 3, none⟩ (.int .i64 (wrap64 (a0_3 + 1)))).setCell ⟨gb159, 3, none⟩ (.int .i64 (wrap64 (a0_3 + 1)))).heap[gb155]? = some (.cells #[.bool false, .int .u64 0, .int .u64 0, .int .i64 0] 38 (0, 0))) := ⟨by refine pw_ ?_; refine blk_far ?_ NB155_159.out _; refine pw_ ?_; refine blk_far ?_ NB155_158.out _; refine pw_ ?_; refine blk_far ?_ NB155_159.out _; refine pw_ ?_; refine blk_far ?_ NB155_159.out _; refine pw_ ?_; refine blk_far ?_ NB155_159.out _; refine pw_ ?_; refine blk_far ?_ NB155_159.out _; refine pw_ ?_; refine blk_far ?_ NB155_158.out _; refine pw_ ?_; refine blk_far ?_ NB155_158.out _; refine pw_ ?_; refine blk_far ?_ NB155_158.out _; refine pw_ ?_; refine blk_far ?_ NB155_158.out _; refine pw_ ?_; exact BK155.out⟩
   have n3_ : Aside0 (((((((((((w35.setCell ⟨gb158, 0, none⟩ (.bool a0_0)).setCell ⟨gb158, 1, none⟩ (.int .u64 a0_1)).setCell ⟨gb158, 2, none⟩ (.int .u64 a0_2)).setCell ⟨gb158, 3, none⟩ (.int .i64 a0_3)).setCell ⟨gb159, 0, none⟩ (.bool a0_0)).setCell ⟨gb159, 1, none⟩ (.int .u64 a0_1)).setCell ⟨gb159, 2, none⟩ (.int .u64 a0_2)).setCell ⟨gb159, 3, none⟩ (.int .i64 a0_3)).setCell ⟨gb158, 3, none⟩ (.int .i64 (wrap64 (a0_3 + 1)))).setCell ⟨gb159, 3, none⟩ (.int .i64 (wrap64 (a0_3 + 1)))).heap[gb158]? = some (.cells #[.bool a0_0, .int .u64 a0_1, .int .u64 a0_2, .int .i64 (wrap64 (a0_3 + 1))] 38 (0, 0))) := ⟨by refine pw_ ?_; refine blk_far ?_ NB158_159.out _; refine pw_ ?_; refine blk_put (cs := #[.bool a0_0, .int .u64 a0_1, .int .u64 a0_2, .int .i64 a0_3]) ?_ 3 _ rfl; refine pw_ ?_; refine blk_far ?_ NB158_159.out _; refine pw_ ?_; refine blk_far ?_ NB158_159.out _; refine pw_ ?_; refine blk_far ?_ NB158_159.out _; refine pw_ ?_; refine blk_far ?_ NB158_159.out _; refine pw_ ?_; refine blk_put (cs := #[.bool a0_0, .int .u64 a0_1, .int .u64 a0_2, .int .i64 0]) ?_ 3 _ rfl; refine pw_ ?_; refine blk_put (cs := #[.bool a0_0, .int .u64 a0_1, .int .u64 0, .int .i64 0]) ?_ 2 _ rfl; refine pw_ ?_; refine blk_put (cs := #[.bool a0_0, .int .u64 0, .int .u64 0, .int .i64 0]) ?_ 1 _ rfl; refine pw_ ?_; refine blk_put (cs := #[.bool false, .int .u64 0, .int .u64 0, .int .i64 0]) ?_ 0 _ rfl; refine pw_ ?_; exact BK158.out⟩
   have n4_ : Aside0 (((((((((((w35.setCell ⟨gb158, 0, none⟩ (.bool a0_0)).setCell ⟨gb158, 1, none⟩ (.int .u64 a0_1)).setCell ⟨gb158, 2, none⟩ (.int .u64 a0_2)).setCell ⟨gb158, 3, none⟩ (.int .i64 a0_3)).setCell ⟨gb159, 0, none⟩ (.bool a0_0)).setCell ⟨gb159, 1, none⟩ (.int .u64 a0_1)).setCell ⟨gb159, 2, none⟩ (.int .u64 a0_2)).setCell ⟨gb159, 3, none⟩ (.int .i64 a0_3)).setCell ⟨gb158, 3, none⟩ (.int .i64 (wrap64 (a0_3 + 1)))).setCell ⟨gb159, 3, none⟩ (.int .i64 (wrap64 (a0_3 + 1)))).heap[gb159]? = some (.cells #[.bool a0_0, .int .u64 a0_1, .int .u64 a0_2, .int .i64 (wrap64 (a0_3 + 1))] 38 (0, 0))) := ⟨by refine pw_ ?_; refine blk_put (cs := #[.bool a0_0, .int .u64 a0_1, .int .u64 a0_2, .int .i64 a0_3]) ?_ 3 _ rfl; refine pw_ ?_; refine blk_far ?_ NB159_158.out _; refine pw_ ?_; refine blk_put (cs := #[.bool a0_0, .int .u64 a0_1, .int .u64 a0_2, .int .i64 0]) ?_ 3 _ rfl; refine pw_ ?_; refine blk_put (cs := #[.bool a0_0, .int .u64 a0_1, .int .u64 0, .int .i64 0]) ?_ 2 _ rfl; refine pw_ ?_; refine blk_put (cs := #[.bool a0_0, .int .u64 0, .int .u64 0, .int .i64 0]) ?_ 1 _ rfl; refine pw_ ?_; refine blk_put (cs := #[.bool false, .int .u64 0, .int .u64 0, .int .i64 0]) ?_ 0 _ rfl; refine pw_ ?_; refine blk_far ?_ NB159_158.out _; refine pw_ ?_; refine blk_far ?_ NB159_158.out _; refine pw_ ?_; refine blk_far ?_ NB159_158.out _; refine pw_ ?_; refine blk_far ?_ NB159_158.out _; refine pw_ ?_; exact BK159.out⟩
   have n5_ : Aside0 (Below w.heap.size w ((((((((((w35.setCell ⟨gb158, 0, none⟩ (.bool a0_0)).setCell ⟨gb158, 1, none⟩ (.int .u64 a0_1)).setCell ⟨gb158, 2, none⟩ (.int .u64 a0_2)).setCell ⟨gb158, 3, none⟩ (.int .i64 a0_3)).setCell ⟨gb159, 0, none⟩ (.bool a0_0)).setCell ⟨gb159, 1, none⟩ (.int .u64 a0_1)).setCell ⟨gb159, 2, none⟩ (.int .u64 a0_2)).setCell ⟨gb159, 3, none⟩ (.int .i64 a0_3)).setCell ⟨gb158, 3, none⟩ (.int .i64 (wrap64 (a0_3 + 1)))).setCell ⟨gb159, 3, none⟩ (.int .i64 (wrap64 (a0_3 + 1))))) := ⟨pb_ HB⟩
   (try clear BK153)
   (try clear BK154)
   (try clear BK155)
   (try clear BK158)
   (try clear BK159)
   (try clear HB)
   generalize ((((((((((w35.setCell ⟨gb158, 0, none⟩ (.bool a0_0)).setCell ⟨gb158, 1, none⟩ (.int .u64 a0_1)).setCell ⟨gb158, 2, none⟩ (.int .u64 a0_2)).setCell ⟨gb158, 3, none⟩ (.int .i64 a0_3)).setCell ⟨gb159, 0, none⟩ (.bool a0_0)).setCell ⟨gb159, 1, none⟩ (.int .u64 a0_1)).setCell ⟨gb159, 2, none⟩ (.int .u64 a0_2)).setCell ⟨gb159, 3, none⟩ (.int .i64 a0_3)).setCell ⟨gb158, 3, none⟩ (.int .i64 (wrap64 (a0_3 + 1)))).setCell ⟨gb159, 3, none⟩ (.int .i64 (wrap64 (a0_3 + 1)))) = w53 at n0_ n1_ n2_ n3_ n4_ n5_ ⊢
   have BK153 := n0_
   have BK154 := n1_
   have BK155 := n2_
   have BK158 := n3_
   have BK159 := n4_
   have HB := n5_
   clear n0_ n1_ n2_ n3_ n4_ n5_
   replace BK153 := Aside0.mk (blk_drew BK153.out)
   replace BK154 := Aside0.mk (blk_drew BK154.out)
   replace BK155 := Aside0.mk (blk_drew BK155.out)
   replace BK158 := Aside0.mk (blk_drew BK158.out)
   replace BK159 := Aside0.mk (blk_drew BK159.out)
   replace HB := Aside0.mk (below_drew1 HB.out)
   refine start_ (n := 13) (S := fun w' => w'.cell? ⟨gb159, 0, none⟩ = some (.bool a0_0) ∧ w'.cell? ⟨gb159, 1, none⟩ = some (.int .u64 a0_1) ∧ w'.cell? ⟨gb159, 2, none⟩ = some (.int .u64 a0_2) ∧ w'.cell? ⟨gb159, 3, none⟩ = some (.int .i64 (wrap64 (a0_3 + 1)))) (ds := [12]) (bm_ 13 0) (by kernel_rfl) rfl rfl ⟨kc_ BK159 0, kc_ BK159 1, kc_ BK159 2, kc_ BK159 3⟩ (fun hHeld => ?_); refine with_tabW prefix_Halves.tab9 prefix_Halves.bits9 (fun HT_ HW_ => ?_)
   generalize w53.drew = w54 at BK153 BK154 BK155 BK158 BK159 HB hHeld ⊢
   refine pu_ 0 (some 34) (bm_ 13 1) rfl HT_ ⟨by rfl, by intro w'; go_simp; with_reducible rfl⟩ ?_
   refine pu_ 1 (some 35) (bm_ 13 3) rfl HT_ ⟨by rfl, by intro w'; go_simp; with_reducible rfl⟩ ?_
   refine pu_ 4 (some 38) (bm_ 13 19) rfl HT_ ⟨by rfl, by intro w'; go_simp; with_reducible rfl⟩ ?_
   refine pu_ 5 (some 39) (bm_ 13 51) rfl HT_ ⟨by rfl, by intro w'; go_simp; with_reducible rfl⟩ ?_
   refine ta_ 2 (some 36) (bm_ 13 55) rfl HT_ HW_ ⟨by rfl, by rintro w' ⟨s0, s1, s2, s3⟩; go_simp; with_reducible rfl⟩ hHeld ?_
   refine ta_ 6 (some 40) (bm_ 13 119) rfl HT_ HW_ ⟨by rfl, by rintro w' ⟨s0, s1, s2, s3⟩; go_simp; with_reducible rfl⟩ hHeld ?_
   refine pu_ 7 (some 41) (bm_ 13 247) rfl HT_ ⟨by rfl, by intro w'; go_simp; with_reducible rfl⟩ ?_
   refine one_ (i := 3) (N := some 37) (bm_ 13 255) rfl rfl (one_of HT_.out (by kernel_rfl)) (by decide) (fun K hK => ?_)
   refine gr_ Tryz.func59 #[.int .u64 1] ?_
   with_reducible refine (num_Of.calls 1 t160 t161 _ A19.out).mono ?_
   rintro e w55 ⟨rfl, hb⟩
   refine ⟨_, rfl, ?_⟩
   replace BK153 := bb_ BK153 hb
   replace BK154 := bb_ BK154 hb
   replace BK155 := bb_ BK155 hb
   replace BK158 := bb_ BK158 hb
   replace BK159 := bb_ BK159 hb
   replace HB := bs_ HB hb
   (try clear hb)
   (try clear hb2)
   (try clear hk)
   (try clear hi)
   refine hK.out _ _ ⟨kc_ BK159 0, kc_ BK159 1, kc_ BK159 2, kc_ BK159 3⟩ (fun hHeld => ?_)
   clear hK K
   refine norm_ (a' := ?_) ?_ ?_
   rotate_left
   ·
    show Act.put _ (some 37) _ = _
    simp only [Act.put, List.setIfInBounds_toArray, List.set_cons_zero, List.set_cons_succ, i64_w, i32_w]
    rfl
   refine one_ (i := 8) (N := some 42) (bm_ 13 511) rfl rfl (one_of HT_.out (by kernel_rfl)) (by decide) (fun K hK => ?_)
   refine gr_ Tryz.func84 #[.agg #[.int .u64 t160, .int .u64 t161], .int .i64 (wrap64 (t156 - (wrap64 (a0_3 + 1))))] ?_
   with_reducible refine (num_Shl.calls t160 t161 (wrap64 (t156 - (wrap64 (a0_3 + 1)))) t162 t163 _ A20.out).mono ?_
   rintro e w56 ⟨rfl, hb⟩
   refine ⟨_, rfl, ?_⟩
   replace BK153 := bb_ BK153 hb
   replace BK154 := bb_ BK154 hb
   replace BK155 := bb_ BK155 hb
   replace BK158 := bb_ BK158 hb
   replace BK159 := bb_ BK159 hb
   replace HB := bs_ HB hb
   (try clear hb)
   (try clear hb2)
   (try clear hk)
   (try clear hi)
   refine hK.out _ _ ⟨kc_ BK159 0, kc_ BK159 1, kc_ BK159 2, kc_ BK159 3⟩ (fun hHeld => ?_)
   clear hK K
   refine norm_ (a' := ?_) ?_ ?_
   rotate_left
   ·
    show Act.put _ (some 42) _ = _
    simp only [Act.put, List.setIfInBounds_toArray, List.set_cons_zero, List.set_cons_succ, i64_w, i32_w]
    rfl
   refine one_ (i := 9) (N := some 43) (bm_ 13 1023) rfl rfl (one_of HT_.out (by kernel_rfl)) (by decide) (fun K hK => ?_)
   refine gr_ Tryz.func80 #[.agg #[.int .u64 a0_1, .int .u64 a0_2], .agg #[.int .u64 t162, .int .u64 t163]] ?_
   with_reducible refine (num_Or.calls a0_1 a0_2 t162 t163 t164 t165 _ A21.out).mono ?_
   rintro e w57 ⟨rfl, hb⟩
   refine ⟨_, rfl, ?_⟩
   replace BK153 := bb_ BK153 hb
   replace BK154 := bb_ BK154 hb
   replace BK155 := bb_ BK155 hb
   replace BK158 := bb_ BK158 hb
   replace BK159 := bb_ BK159 hb
   replace HB := bs_ HB hb
   (try clear hb)
   (try clear hb2)
   (try clear hk)
   (try clear hi)
   refine hK.out _ _ ⟨kc_ BK159 0, kc_ BK159 1, kc_ BK159 2, kc_ BK159 3⟩ (fun hHeld => ?_)
   clear hK K
   refine norm_ (a' := ?_) ?_ ?_
   rotate_left
   ·
    show Act.put _ (some 43) _ = _
    simp only [Act.put, List.setIfInBounds_toArray, List.set_cons_zero, List.set_cons_succ, i64_w, i32_w]
    rfl
   refine pu_ 10 (some 44) (bm_ 13 2047) rfl HT_ ⟨by rfl, by intro w'; go_simp; with_reducible rfl⟩ ?_
   refine pu_ 11 (some 45) (bm_ 13 4095) rfl HT_ ⟨by rfl, by intro w'; go_simp; with_reducible rfl⟩ ?_
   refine last_ (i := 12) (N := none) (bm_ 13 8191) rfl rfl (one_of HT_.out (by kernel_rfl)) (by decide) (fun K hK => ?_)
   have hs58 : w57.cell? ⟨gb159, 1, none⟩ = some (.int .u64 a0_1) := kc_ BK159 1
   have hfs58 := blk_frozen BK159.out 1
   have hns58_0 := NB153_159.out
   have hns58_1 := NB154_159.out
   have hns58_2 := NB155_159.out
   have hns58_3 := NB158_159.out
   have hms58_0 := NB159_153.out
   have hms58_1 := NB159_154.out
   have hms58_2 := NB159_155.out
   have hms58_3 := NB159_158.out
   have hs59 : w57.cell? ⟨gb159, 2, none⟩ = some (.int .u64 a0_2) := kc_ BK159 2
   have hfs59 := blk_frozen BK159.out 2
   have hns59_0 := NB153_159.out
   have hns59_1 := NB154_159.out
   have hns59_2 := NB155_159.out
   have hns59_3 := NB158_159.out
   have hms59_0 := NB159_153.out
   have hms59_1 := NB159_154.out
   have hms59_2 := NB159_155.out
   have hms59_3 := NB159_158.out
   refine skip_ (w1 := ?_) (by rfl) rfl ?_ ?_
   rotate_left
   ·
    go_simp
    rfl
   refine hK.out _ _ ?_
   clear hK K
   refine done_ (done_of HT_.out (by kernel_rfl)) ?_
   try go_wp2
   have n0_ : Aside0 (((w57.setCell ⟨gb159, 1, none⟩ (.int .u64 t164)).setCell ⟨gb159, 2, none⟩ (.int .u64 t165)).heap[gb153]? = some (.cells #[.bool a0_0, .int .u64 a0_1, .int .u64 a0_2, .int .i64 a0_3] 38 (0, 0))) := ⟨by refine pw_ ?_; refine blk_far ?_ NB153_159.out _; refine pw_ ?_; refine blk_far ?_ NB153_159.out _; refine pw_ ?_; exact BK153.out⟩
   have n1_ : Aside0 (((w57.setCell ⟨gb159, 1, none⟩ (.int .u64 t164)).setCell ⟨gb159, 2, none⟩ (.int .u64 t165)).heap[gb154]? = some (.cells #[.bool false, .int .u64 0, .int .u64 0, .int .i64 0] 38 (0, 0))) := ⟨by refine pw_ ?_; refine blk_far ?_ NB154_159.out _; refine pw_ ?_; refine blk_far ?_ NB154_159.out _; refine pw_ ?_; exact BK154.out⟩
   have n2_ : Aside0 (((w57.setCell ⟨gb159, 1, none⟩ (.int .u64 t164)).setCell ⟨gb159, 2, none⟩ (.int .u64 t165)).heap[gb155]? = some (.cells #[.bool false, .int .u64 0, .int .u64 0, .int .i64 0] 38 (0, 0))) := ⟨by refine pw_ ?_; refine blk_far ?_ NB155_159.out _; refine pw_ ?_; refine blk_far ?_ NB155_159.out _; refine pw_ ?_; exact BK155.out⟩
   have n3_ : Aside0 (((w57.setCell ⟨gb159, 1, none⟩ (.int .u64 t164)).setCell ⟨gb159, 2, none⟩ (.int .u64 t165)).heap[gb158]? = some (.cells #[.bool a0_0, .int .u64 a0_1, .int .u64 a0_2, .int .i64 (wrap64 (a0_3 + 1))] 38 (0, 0))) := ⟨by refine pw_ ?_; refine blk_far ?_ NB158_159.out _; refine pw_ ?_; refine blk_far ?_ NB158_159.out _; refine pw_ ?_; exact BK158.out⟩
   have n4_ : Aside0 (((w57.setCell ⟨gb159, 1, none⟩ (.int .u64 t164)).setCell ⟨gb159, 2, none⟩ (.int .u64 t165)).heap[gb159]? = some (.cells #[.bool a0_0, .int .u64 t164, .int .u64 t165, .int .i64 (wrap64 (a0_3 + 1))] 38 (0, 0))) := ⟨by refine pw_ ?_; refine blk_put (cs := #[.bool a0_0, .int .u64 t164, .int .u64 a0_2, .int .i64 (wrap64 (a0_3 + 1))]) ?_ 2 _ rfl; refine pw_ ?_; refine blk_put (cs := #[.bool a0_0, .int .u64 a0_1, .int .u64 a0_2, .int .i64 (wrap64 (a0_3 + 1))]) ?_ 1 _ rfl; refine pw_ ?_; exact BK159.out⟩
   have n5_ : Aside0 (Below w.heap.size w ((w57.setCell ⟨gb159, 1, none⟩ (.int .u64 t164)).setCell ⟨gb159, 2, none⟩ (.int .u64 t165))) := ⟨pb_ HB⟩
   (try clear BK153)
   (try clear BK154)
   (try clear BK155)
   (try clear BK158)
   (try clear BK159)
   (try clear HB)
   generalize ((w57.setCell ⟨gb159, 1, none⟩ (.int .u64 t164)).setCell ⟨gb159, 2, none⟩ (.int .u64 t165)) = w60 at n0_ n1_ n2_ n3_ n4_ n5_ ⊢
   have BK153 := n0_
   have BK154 := n1_
   have BK155 := n2_
   have BK158 := n3_
   have BK159 := n4_
   have HB := n5_
   clear n0_ n1_ n2_ n3_ n4_ n5_
   replace BK153 := Aside0.mk (blk_drew BK153.out)
   replace BK154 := Aside0.mk (blk_drew BK154.out)
   replace BK155 := Aside0.mk (blk_drew BK155.out)
   replace BK158 := Aside0.mk (blk_drew BK158.out)
   replace BK159 := Aside0.mk (blk_drew BK159.out)
   replace HB := Aside0.mk (below_drew1 HB.out)
   refine start_ (n := 5) (S := fun w' => w'.cell? ⟨gb158, 0, none⟩ = some (.bool a0_0) ∧ w'.cell? ⟨gb158, 1, none⟩ = some (.int .u64 a0_1) ∧ w'.cell? ⟨gb158, 2, none⟩ = some (.int .u64 a0_2) ∧ w'.cell? ⟨gb158, 3, none⟩ = some (.int .i64 (wrap64 (a0_3 + 1))) ∧ w'.cell? ⟨gb159, 0, none⟩ = some (.bool a0_0) ∧ w'.cell? ⟨gb159, 1, none⟩ = some (.int .u64 t164) ∧ w'.cell? ⟨gb159, 2, none⟩ = some (.int .u64 t165) ∧ w'.cell? ⟨gb159, 3, none⟩ = some (.int .i64 (wrap64 (a0_3 + 1)))) (ds := []) #[false, false, false, false, false] (by kernel_rfl) rfl rfl ⟨kc_ BK158 0, kc_ BK158 1, kc_ BK158 2, kc_ BK158 3, kc_ BK159 0, kc_ BK159 1, kc_ BK159 2, kc_ BK159 3⟩ (fun hHeld => ?_)
   generalize w60.drew = w61 at BK153 BK154 BK155 BK158 BK159 HB hHeld ⊢
   refine take_ (i := 0) (N := some 46) (v := ?_) (a' := ?_) #[true, false, false, false, false] rfl rfl (by kernel_rfl) (fun _ _ _ h => h) (Or.inl ⟨by rfl, ?_⟩) hHeld ?_ ?_
   rotate_left
   ·
    rintro w' ⟨s0, s1, s2, s3, s4, s5, s6, s7⟩
    go_simp
    with_reducible rfl
   rotate_left
   ·
    simp only [Act.put, List.setIfInBounds_toArray, List.set_cons_zero, List.set_cons_succ, i64_w, i32_w]
    rfl
   refine take_ (i := 1) (N := some 47) (v := ?_) (a' := ?_) #[true, true, false, false, false] rfl rfl (by kernel_rfl) (fun _ _ _ h => h) (Or.inl ⟨by rfl, ?_⟩) hHeld ?_ ?_
   rotate_left
   ·
    rintro w' ⟨s0, s1, s2, s3, s4, s5, s6, s7⟩
    go_simp
    with_reducible rfl
   rotate_left
   ·
    simp only [Act.put, List.setIfInBounds_toArray, List.set_cons_zero, List.set_cons_succ, i64_w, i32_w]
    rfl
   refine one_ (i := 2) (N := none) #[true, true, true, false, false] rfl rfl (by kernel_rfl) (by decide) (fun K hK => ?_)
   have hs62 : w61.cell? ⟨gb154, 0, none⟩ = some (.bool false) := kc_ BK154 0
   have hfs62 := blk_frozen BK154.out 0
   have hns62_0 := NB153_154.out
   have hns62_2 := NB155_154.out
   have hns62_3 := NB158_154.out
   have hns62_4 := NB159_154.out
   have hms62_0 := NB154_153.out
   have hms62_2 := NB154_155.out
   have hms62_3 := NB154_158.out
   have hms62_4 := NB154_159.out
   have hs63 : w61.cell? ⟨gb154, 1, none⟩ = some (.int .u64 0) := kc_ BK154 1
   have hfs63 := blk_frozen BK154.out 1
   have hns63_0 := NB153_154.out
   have hns63_2 := NB155_154.out
   have hns63_3 := NB158_154.out
   have hns63_4 := NB159_154.out
   have hms63_0 := NB154_153.out
   have hms63_2 := NB154_155.out
   have hms63_3 := NB154_158.out
   have hms63_4 := NB154_159.out
   have hs64 : w61.cell? ⟨gb154, 2, none⟩ = some (.int .u64 0) := kc_ BK154 2
   have hfs64 := blk_frozen BK154.out 2
   have hns64_0 := NB153_154.out
   have hns64_2 := NB155_154.out
   have hns64_3 := NB158_154.out
   have hns64_4 := NB159_154.out
   have hms64_0 := NB154_153.out
   have hms64_2 := NB154_155.out
   have hms64_3 := NB154_158.out
   have hms64_4 := NB154_159.out
   have hs65 : w61.cell? ⟨gb154, 3, none⟩ = some (.int .i64 0) := kc_ BK154 3
   have hfs65 := blk_frozen BK154.out 3
   have hns65_0 := NB153_154.out
   have hns65_2 := NB155_154.out
   have hns65_3 := NB158_154.out
   have hns65_4 := NB159_154.out
   have hms65_0 := NB154_153.out
   have hms65_2 := NB154_155.out
   have hms65_3 := NB154_158.out
   have hms65_4 := NB154_159.out
   refine skip_ (w1 := ?_) (by rfl) rfl ?_ ?_
   rotate_left
   ·
    go_simp
    rfl
   refine hK.out _ _ ⟨((cell_far (p := ⟨gb154, _, none⟩) NB158_154.out _).trans (((cell_far (p := ⟨gb154, _, none⟩) NB158_154.out _).trans (((cell_far (p := ⟨gb154, _, none⟩) NB158_154.out _).trans (((cell_far (p := ⟨gb154, _, none⟩) NB158_154.out _).trans (hHeld.1)))))))), ((cell_far (p := ⟨gb154, _, none⟩) NB158_154.out _).trans (((cell_far (p := ⟨gb154, _, none⟩) NB158_154.out _).trans (((cell_far (p := ⟨gb154, _, none⟩) NB158_154.out _).trans (((cell_far (p := ⟨gb154, _, none⟩) NB158_154.out _).trans (hHeld.2.1)))))))), ((cell_far (p := ⟨gb154, _, none⟩) NB158_154.out _).trans (((cell_far (p := ⟨gb154, _, none⟩) NB158_154.out _).trans (((cell_far (p := ⟨gb154, _, none⟩) NB158_154.out _).trans (((cell_far (p := ⟨gb154, _, none⟩) NB158_154.out _).trans (hHeld.2.2.1)))))))), ((cell_far (p := ⟨gb154, _, none⟩) NB158_154.out _).trans (((cell_far (p := ⟨gb154, _, none⟩) NB158_154.out _).trans (((cell_far (p := ⟨gb154, _, none⟩) NB158_154.out _).trans (((cell_far (p := ⟨gb154, _, none⟩) NB158_154.out _).trans (hHeld.2.2.2.1)))))))), ((cell_far (p := ⟨gb154, _, none⟩) NB159_154.out _).trans (((cell_far (p := ⟨gb154, _, none⟩) NB159_154.out _).trans (((cell_far (p := ⟨gb154, _, none⟩) NB159_154.out _).trans (((cell_far (p := ⟨gb154, _, none⟩) NB159_154.out _).trans (hHeld.2.2.2.2.1)))))))), ((cell_far (p := ⟨gb154, _, none⟩) NB159_154.out _).trans (((cell_far (p := ⟨gb154, _, none⟩) NB159_154.out _).trans (((cell_far (p := ⟨gb154, _, none⟩) NB159_154.out _).trans (((cell_far (p := ⟨gb154, _, none⟩) NB159_154.out _).trans (hHeld.2.2.2.2.2.1)))))))), ((cell_far (p := ⟨gb154, _, none⟩) NB159_154.out _).trans (((cell_far (p := ⟨gb154, _, none⟩) NB159_154.out _).trans (((cell_far (p := ⟨gb154, _, none⟩) NB159_154.out _).trans (((cell_far (p := ⟨gb154, _, none⟩) NB159_154.out _).trans (hHeld.2.2.2.2.2.2.1)))))))), ((cell_far (p := ⟨gb154, _, none⟩) NB159_154.out _).trans (((cell_far (p := ⟨gb154, _, none⟩) NB159_154.out _).trans (((cell_far (p := ⟨gb154, _, none⟩) NB159_154.out _).trans (((cell_far (p := ⟨gb154, _, none⟩) NB159_154.out _).trans (hHeld.2.2.2.2.2.2.2))))))))⟩ (fun hHeld => ?_)
   clear hK K
   refine one_ (i := 3) (N := none) #[true, true, true, true, false] rfl rfl (by kernel_rfl) (by decide) (fun K hK => ?_)
   have hs66 : w61.cell? ⟨gb155, 0, none⟩ = some (.bool false) := kc_ BK155 0
   have hfs66 := blk_frozen BK155.out 0
   have hns66_0 := NB153_155.out
   have hns66_1 := NB154_155.out
   have hns66_3 := NB158_155.out
   have hns66_4 := NB159_155.out
   have hms66_0 := NB155_153.out
   have hms66_1 := NB155_154.out
   have hms66_3 := NB155_158.out
   have hms66_4 := NB155_159.out
   have hs67 : w61.cell? ⟨gb155, 1, none⟩ = some (.int .u64 0) := kc_ BK155 1
   have hfs67 := blk_frozen BK155.out 1
   have hns67_0 := NB153_155.out
   have hns67_1 := NB154_155.out
   have hns67_3 := NB158_155.out
   have hns67_4 := NB159_155.out
   have hms67_0 := NB155_153.out
   have hms67_1 := NB155_154.out
   have hms67_3 := NB155_158.out
   have hms67_4 := NB155_159.out
   have hs68 : w61.cell? ⟨gb155, 2, none⟩ = some (.int .u64 0) := kc_ BK155 2
   have hfs68 := blk_frozen BK155.out 2
   have hns68_0 := NB153_155.out
   have hns68_1 := NB154_155.out
   have hns68_3 := NB158_155.out
   have hns68_4 := NB159_155.out
   have hms68_0 := NB155_153.out
   have hms68_1 := NB155_154.out
   have hms68_3 := NB155_158.out
   have hms68_4 := NB155_159.out
   have hs69 : w61.cell? ⟨gb155, 3, none⟩ = some (.int .i64 0) := kc_ BK155 3
   have hfs69 := blk_frozen BK155.out 3
   have hns69_0 := NB153_155.out
   have hns69_1 := NB154_155.out
   have hns69_3 := NB158_155.out
   have hns69_4 := NB159_155.out
   have hms69_0 := NB155_153.out
   have hms69_1 := NB155_154.out
   have hms69_3 := NB155_158.out
   have hms69_4 := NB155_159.out
   refine skip_ (w1 := ?_) (by rfl) rfl ?_ ?_
   rotate_left
   ·
    go_simp
    rfl
   refine hK.out _ _ ⟨((cell_far (p := ⟨gb155, _, none⟩) NB158_155.out _).trans (((cell_far (p := ⟨gb155, _, none⟩) NB158_155.out _).trans (((cell_far (p := ⟨gb155, _, none⟩) NB158_155.out _).trans (((cell_far (p := ⟨gb155, _, none⟩) NB158_155.out _).trans (hHeld.1)))))))), ((cell_far (p := ⟨gb155, _, none⟩) NB158_155.out _).trans (((cell_far (p := ⟨gb155, _, none⟩) NB158_155.out _).trans (((cell_far (p := ⟨gb155, _, none⟩) NB158_155.out _).trans (((cell_far (p := ⟨gb155, _, none⟩) NB158_155.out _).trans (hHeld.2.1)))))))), ((cell_far (p := ⟨gb155, _, none⟩) NB158_155.out _).trans (((cell_far (p := ⟨gb155, _, none⟩) NB158_155.out _).trans (((cell_far (p := ⟨gb155, _, none⟩) NB158_155.out _).trans (((cell_far (p := ⟨gb155, _, none⟩) NB158_155.out _).trans (hHeld.2.2.1)))))))), ((cell_far (p := ⟨gb155, _, none⟩) NB158_155.out _).trans (((cell_far (p := ⟨gb155, _, none⟩) NB158_155.out _).trans (((cell_far (p := ⟨gb155, _, none⟩) NB158_155.out _).trans (((cell_far (p := ⟨gb155, _, none⟩) NB158_155.out _).trans (hHeld.2.2.2.1)))))))), ((cell_far (p := ⟨gb155, _, none⟩) NB159_155.out _).trans (((cell_far (p := ⟨gb155, _, none⟩) NB159_155.out _).trans (((cell_far (p := ⟨gb155, _, none⟩) NB159_155.out _).trans (((cell_far (p := ⟨gb155, _, none⟩) NB159_155.out _).trans (hHeld.2.2.2.2.1)))))))), ((cell_far (p := ⟨gb155, _, none⟩) NB159_155.out _).trans (((cell_far (p := ⟨gb155, _, none⟩) NB159_155.out _).trans (((cell_far (p := ⟨gb155, _, none⟩) NB159_155.out _).trans (((cell_far (p := ⟨gb155, _, none⟩) NB159_155.out _).trans (hHeld.2.2.2.2.2.1)))))))), ((cell_far (p := ⟨gb155, _, none⟩) NB159_155.out _).trans (((cell_far (p := ⟨gb155, _, none⟩) NB159_155.out _).trans (((cell_far (p := ⟨gb155, _, none⟩) NB159_155.out _).trans (((cell_far (p := ⟨gb155, _, none⟩) NB159_155.out _).trans (hHeld.2.2.2.2.2.2.1)))))))), ((cell_far (p := ⟨gb155, _, none⟩) NB159_155.out _).trans (((cell_far (p := ⟨gb155, _, none⟩) NB159_155.out _).trans (((cell_far (p := ⟨gb155, _, none⟩) NB159_155.out _).trans (((cell_far (p := ⟨gb155, _, none⟩) NB159_155.out _).trans (hHeld.2.2.2.2.2.2.2))))))))⟩ (fun hHeld => ?_)
   clear hK K
   refine pure_ (i := 4) (N := some 4) (v := ?_) (a' := ?_) #[true, true, true, true, true] rfl rfl (by kernel_rfl) (fun _ _ _ h => h) (Or.inl ⟨by rfl, ?_⟩) ?_ ?_
   rotate_left
   ·
    intro w'
    go_simp
    with_reducible rfl
   rotate_left
   ·
    simp only [Act.put, List.setIfInBounds_toArray, List.set_cons_zero, List.set_cons_succ, i64_w, i32_w]
    rfl
   refine done_ (by kernel_rfl) ?_
   try go_wp2
   refine bodyPost_ret (results_list (rs := [.cell 2 38, .cell 3 38, .tmp 4]) rfl (by simp) (.cell gb154 38 #[.bool a0_0, .int .u64 a0_1, .int .u64 a0_2, .int .i64 (wrap64 (a0_3 + 1))] (0, 0) _ rfl (by refine pw_ ?_; refine blk_far ?_ NB154_155.out _; refine pw_ ?_; refine blk_far ?_ NB154_155.out _; refine pw_ ?_; refine blk_far ?_ NB154_155.out _; refine pw_ ?_; refine blk_far ?_ NB154_155.out _; refine pw_ ?_; refine blk_put (cs := #[.bool a0_0, .int .u64 a0_1, .int .u64 a0_2, .int .i64 0]) ?_ 3 _ rfl; refine pw_ ?_; refine blk_put (cs := #[.bool a0_0, .int .u64 a0_1, .int .u64 0, .int .i64 0]) ?_ 2 _ rfl; refine pw_ ?_; refine blk_put (cs := #[.bool a0_0, .int .u64 0, .int .u64 0, .int .i64 0]) ?_ 1 _ rfl; refine pw_ ?_; refine blk_put (cs := #[.bool false, .int .u64 0, .int .u64 0, .int .i64 0]) ?_ 0 _ rfl; refine pw_ ?_; exact BK154.out) Tryz.underlying38 rfl (by kernel_rfl) (.cell gb155 38 #[.bool a0_0, .int .u64 t164, .int .u64 t165, .int .i64 (wrap64 (a0_3 + 1))] (0, 0) _ rfl (by refine pw_ ?_; refine blk_put (cs := #[.bool a0_0, .int .u64 t164, .int .u64 t165, .int .i64 0]) ?_ 3 _ rfl; refine pw_ ?_; refine blk_put (cs := #[.bool a0_0, .int .u64 t164, .int .u64 0, .int .i64 0]) ?_ 2 _ rfl; refine pw_ ?_; refine blk_put (cs := #[.bool a0_0, .int .u64 0, .int .u64 0, .int .i64 0]) ?_ 1 _ rfl; refine pw_ ?_; refine blk_put (cs := #[.bool false, .int .u64 0, .int .u64 0, .int .i64 0]) ?_ 0 _ rfl; refine pw_ ?_; refine blk_far ?_ NB155_154.out _; refine pw_ ?_; refine blk_far ?_ NB155_154.out _; refine pw_ ?_; refine blk_far ?_ NB155_154.out _; refine pw_ ?_; refine blk_far ?_ NB155_154.out _; refine pw_ ?_; exact BK155.out) Tryz.underlying38 rfl (by kernel_rfl) (.tmp .nil)))) rfl ?_
   exact ⟨by first | rfl | (simp [errW_none, errW_some] <;> rfl) | (simp [*, errW_none, errW_some] <;> rfl), pb_ HB⟩
 ·
  replace c4 := Bool.eq_false_iff.mpr c4
  subst c4
  have H1 : (some (false, 0, 0, 0, false, 0, 0, 0, 1)) = some (r1, r2, r3, r4, r5, r6, r7, r8, r9) := by rw [if_neg (show ¬ (false = true) by decide)] at H; exact H
  clear H
  have H := H1
  clear H1
  simp only [Option.some.injEq, Prod.mk.injEq] at H
  obtain ⟨rfl, rfl, rfl, rfl, rfl, rfl, rfl, rfl, rfl⟩ := H
  go_enter Tryz.func33, Tryz.ntmps33
  go_wp2_with (first | ((with_reducible refine gate_dst (N := 1) rfl ?_); refine bx_ 1 #[.bool a0_0, .int .u64 a0_1, .int .u64 a0_2, .int .i64 a0_3] 38 ?_; intro gb153 hg w70 hbox hb; have BK153 := Aside0.mk (hbox); have GW153 := gw_ HB hg; have GE153 := gw_ HB hg; replace HB := bs_ HB hb; clear hb hbox hg) | ((with_reducible refine gate_dst (N := 2) rfl ?_); refine bx_ 2 #[.bool false, .int .u64 0, .int .u64 0, .int .i64 0] 38 ?_; intro gb154 hg w71 hbox hb; have BK154 := Aside0.mk (hbox); have GW154 := gw_ HB hg; have GE154 := gw_ HB hg; have NB153_154 := nl_ BK153 hg; have NB154_153 := ng_ BK153 hg; replace BK153 := bb_ BK153 hb; replace HB := bs_ HB hb; clear hb hbox hg) | ((with_reducible refine gate_dst (N := 3) rfl ?_); refine bx_ 3 #[.bool false, .int .u64 0, .int .u64 0, .int .i64 0] 38 ?_; intro gb155 hg w72 hbox hb; have BK155 := Aside0.mk (hbox); have GW155 := gw_ HB hg; have GE155 := gw_ HB hg; have NB153_155 := nl_ BK153 hg; have NB155_153 := ng_ BK153 hg; have NB154_155 := nl_ BK154 hg; have NB155_154 := ng_ BK154 hg; replace BK153 := bb_ BK153 hb; replace BK154 := bb_ BK154 hb; replace HB := bs_ HB hb; clear hb hbox hg; have hnb73 := NB153_154.out; have hnc73 := NB154_153.out; have hnb74 := NB153_155.out; have hnc74 := NB155_153.out; obtain ⟨hcz75_0, hcz75_1, hcz75_2, hcz75_3, hfz75_0, hfz75_1, hfz75_2, hfz75_3⟩ := c4_ BK153) | ((with_reducible refine gate_callee (f := 22) rfl ?_); refine gl_ (some 10) Tryz.func22 #[.agg #[.bool a0_0, .int .u64 a0_1, .int .u64 a0_2]] ?_; (with_reducible refine (addr_Width.calls a0_0 a0_1 a0_2 t156 _ A2.out).mono ?_); rintro e w76 ⟨rfl, hb⟩; refine ⟨_, rfl, ?_⟩; replace BK153 := bb_ BK153 hb; replace BK154 := bb_ BK154 hb; replace BK155 := bb_ BK155 hb; replace HB := bs_ HB hb; (try clear hb); (try clear hb2); (try clear hk); (try clear hi); obtain ⟨hcz77_0, hcz77_1, hcz77_2, hcz77_3, hfz77_0, hfz77_1, hfz77_2, hfz77_3⟩ := c4_ BK153) | ((with_reducible refine gate_callee (f := 36) rfl ?_); refine gl_ (some 13) Tryz.func36 #[.agg #[.bool a0_0, .int .u64 a0_1, .int .u64 a0_2, .int .i64 a0_3]] ?_; (with_reducible refine (prefix_Right.calls a0_0 a0_1 a0_2 a0_3 false _ A3.out).mono ?_); rintro e w78 ⟨rfl, hb⟩; refine ⟨_, rfl, ?_⟩; replace BK153 := bb_ BK153 hb; replace BK154 := bb_ BK154 hb; replace BK155 := bb_ BK155 hb; replace HB := bs_ HB hb; (try clear hb); (try clear hb2); (try clear hk); (try clear hi); have hnb79 := NB154_155.out; have hnc79 := NB155_154.out; obtain ⟨hcz80_0, hcz80_1, hcz80_2, hcz80_3, hfz80_0, hfz80_1, hfz80_2, hfz80_3⟩ := c4_ BK154; obtain ⟨hcz81_0, hcz81_1, hcz81_2, hcz81_3, hfz81_0, hfz81_1, hfz81_2, hfz81_3⟩ := c4_ BK155))
  refine bodyPost_ret (results_list (rs := [.cell 2 38, .cell 3 38, .tmp 4]) rfl (by simp) (.cell gb154 38 #[.bool false, .int .u64 0, .int .u64 0, .int .i64 0] (0, 0) _ rfl (by refine pw_ ?_; refine blk_far ?_ NB154_155.out _; refine pw_ ?_; refine blk_far ?_ NB154_155.out _; refine pw_ ?_; refine blk_far ?_ NB154_155.out _; refine pw_ ?_; refine blk_far ?_ NB154_155.out _; refine pw_ ?_; refine blk_put (cs := #[.bool false, .int .u64 0, .int .u64 0, .int .i64 0]) ?_ 3 _ rfl; refine pw_ ?_; refine blk_put (cs := #[.bool false, .int .u64 0, .int .u64 0, .int .i64 0]) ?_ 2 _ rfl; refine pw_ ?_; refine blk_put (cs := #[.bool false, .int .u64 0, .int .u64 0, .int .i64 0]) ?_ 1 _ rfl; refine pw_ ?_; refine blk_put (cs := #[.bool false, .int .u64 0, .int .u64 0, .int .i64 0]) ?_ 0 _ rfl; refine pw_ ?_; exact BK154.out) Tryz.underlying38 rfl (by kernel_rfl) (.cell gb155 38 #[.bool false, .int .u64 0, .int .u64 0, .int .i64 0] (0, 0) _ rfl (by refine pw_ ?_; refine blk_put (cs := #[.bool false, .int .u64 0, .int .u64 0, .int .i64 0]) ?_ 3 _ rfl; refine pw_ ?_; refine blk_put (cs := #[.bool false, .int .u64 0, .int .u64 0, .int .i64 0]) ?_ 2 _ rfl; refine pw_ ?_; refine blk_put (cs := #[.bool false, .int .u64 0, .int .u64 0, .int .i64 0]) ?_ 1 _ rfl; refine pw_ ?_; refine blk_put (cs := #[.bool false, .int .u64 0, .int .u64 0, .int .i64 0]) ?_ 0 _ rfl; refine pw_ ?_; refine blk_far ?_ NB155_154.out _; refine pw_ ?_; refine blk_far ?_ NB155_154.out _; refine pw_ ?_; refine blk_far ?_ NB155_154.out _; refine pw_ ?_; refine blk_far ?_ NB155_154.out _; refine pw_ ?_; exact BK155.out) Tryz.underlying38 rfl (by kernel_rfl) (.tmp .nil)))) rfl ?_
  exact ⟨by first | rfl | (simp [errW_none, errW_some] <;> rfl) | (simp [*, errW_none, errW_some] <;> rfl), pb_ HB⟩

end Go.Proofs.YtgdgklibilddgaaGreatDoor.PSp

