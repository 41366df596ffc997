/-
A part of the proof of carveSpreads_card: its lemmas and walks, part 5. No condition.
-/
import Derived.Test.YtgdgklibilddgaaGreatDoorSprM4
set_option linter.unusedVariables false
set_option linter.unusedSimpArgs false
namespace Go.Proofs.YtgdgklibilddgaaGreatDoor.PSp
open Go.RowKit Go.Proofs.YtgdgklibilddgaaGreatDoorW.PrintWords Go.Proofs.YtgdgklibilddgaaGreatDoorW.PrintLast Go.Proofs.YtgdgklibilddgaaGreatDoorW.PrintMore
attribute [local go_sem] max2_int min2_int max_two min_two max_three min_three max_four min_four   -- for this text's walks alone

attribute [local go_sem high] eqA26 eqA38
mutual
def platbooklaw04_CarveSpreads.j0 : Nat → List (S38) → Int → Bool → Bool → Int → Int → Bool → Int → Int → Bool → Int → Int → Option (Bool)
 | 0, _, _, _, _, _, _, _, _, _, _, _, _ => none
 | k + 1, x7, x8, x47, x289000, x289001, x289002, x290000, x290001, x290002, x291000, x291001, x291002 => if x47 = true then (if x8 = 1 then (some ((x7.length : Int) == 0)) else (some false)) else (if x8 = 0 then (if (x7.length : Int) = 0 then (platbooklaw04_CarveSpreads.j1 k x7 true x289000 x289001 x289002 x290000 x290001 x290002 x291000 x291001 x291002) else ((addr_Width.f x289000 x289001 x289002).bind fun t299 => (if (x7.length : Int) > (wrap64 (2 * t299)) then (platbooklaw04_CarveSpreads.j1 k x7 true x289000 x289001 x289002 x290000 x290001 x290002 x291000 x291001 x291002) else (if 0 < (x7.length : Int) then ((prefix_First.f ((rd_T38 x7 0).f0.f0) ((rd_T38 x7 0).f0.f1.f0) ((rd_T38 x7 0).f0.f1.f1) ((rd_T38 x7 0).f1)).bind fun bt301 => (if (!(bt301.1 == x289000) || ((!(bt301.2.1 == x289001) || (!(bt301.2.2 == x289002))))) = true then (platbooklaw04_CarveSpreads.j1 k x7 true x289000 x289001 x289002 x290000 x290001 x290002 x291000 x291001 x291002) else (if 0 ≤ (wrap64 ((x7.length : Int) - 1)) then (if (wrap64 ((x7.length : Int) - 1)) < (x7.length : Int) then ((prefix_Last.f ((rd_T38 x7 (wrap64 ((x7.length : Int) - 1))).f0.f0) ((rd_T38 x7 (wrap64 ((x7.length : Int) - 1))).f0.f1.f0) ((rd_T38 x7 (wrap64 ((x7.length : Int) - 1))).f0.f1.f1) ((rd_T38 x7 (wrap64 ((x7.length : Int) - 1))).f1)).bind fun bt305 => (platbooklaw04_CarveSpreads.j1 k x7 (!(bt305.1 == x290000) || ((!(bt305.2.1 == x290001) || (!(bt305.2.2 == x290002))))) x289000 x289001 x289002 x290000 x290001 x290002 x291000 x291001 x291002)) else (none)) else (none)))) else (none))))) else (platbooklaw04_CarveSpreads.j1 k x7 true x289000 x289001 x289002 x290000 x290001 x290002 x291000 x291001 x291002))
def platbooklaw04_CarveSpreads.j1 : Nat → List (S38) → Bool → Bool → Int → Int → Bool → Int → Int → Bool → Int → Int → Option (Bool)
 | 0, _, _, _, _, _, _, _, _, _, _, _ => none
 | k + 1, x7, x88, x289000, x289001, x289002, x290000, x290001, x290002, x291000, x291001, x291002 => if x88 = true then (some false) else (platbooklaw04_CarveSpreads.l0 k x7 0 0 x289000 x289001 x289002 x290000 x290001 x290002 x291000 x291001 x291002)
def platbooklaw04_CarveSpreads.l0 : Nat → List (S38) → Int → Int → Bool → Int → Int → Bool → Int → Int → Bool → Int → Int → Option (Bool)
 | 0, _, _, _, _, _, _, _, _, _, _, _, _ => none
 | k + 1, x7, x9, x10, x289000, x289001, x289002, x290000, x290001, x290002, x291000, x291001, x291002 => if x10 < (x7.length : Int) then (if 0 ≤ x10 then ((platbookref03_Right.f k ((rd_T38 x7 x10).f0.f0) ((rd_T38 x7 x10).f0.f1.f0) ((rd_T38 x7 x10).f0.f1.f1) ((rd_T38 x7 x10).f1)).bind fun t312 => (if t312 = true then ((prefix_Has.f k ((rd_T38 x7 x10).f0.f0) ((rd_T38 x7 x10).f0.f1.f0) ((rd_T38 x7 x10).f0.f1.f1) ((rd_T38 x7 x10).f1) x291000 x291001 x291002).bind fun t314 => (if t314 = true then (platbooklaw04_CarveSpreads.j3 k x7 (wrap64 (x9 + 1)) x10 x289000 x289001 x289002 x290000 x290001 x290002 x291000 x291001 x291002) else (platbooklaw04_CarveSpreads.j3 k x7 x9 x10 x289000 x289001 x289002 x290000 x290001 x290002 x291000 x291001 x291002))) else (some false))) else (none)) else ((addr_Right.f x291000 x291001 x291002).bind fun t308 => (if t308 = true then ((addr_Cmp.f x289000 x289001 x289002 x291000 x291001 x291002).bind fun t309 => (if t309 ≤ 0 then ((addr_Cmp.f x291000 x291001 x291002 x290000 x290001 x290002).bind fun t310 => (if x9 = 1 then (if t310 ≤ 0 then (some true) else (if x9 = 0 then (some (!(decide (t310 ≤ 0)))) else (some false))) else (if x9 = 0 then (some (!(decide (t310 ≤ 0)))) else (some false)))) else (if x9 = 1 then (if x9 = 0 then (some (!false)) else (some false)) else (if x9 = 0 then (some (!false)) else (some false))))) else (if x9 = 1 then (if x9 = 0 then (some (!false)) else (some false)) else (if x9 = 0 then (some (!false)) else (some false)))))
def platbooklaw04_CarveSpreads.j3 : Nat → List (S38) → Int → Int → Bool → Int → Int → Bool → Int → Int → Bool → Int → Int → Option (Bool)
 | 0, _, _, _, _, _, _, _, _, _, _, _, _ => none
 | k + 1, x7, x9, x10, x289000, x289001, x289002, x290000, x290001, x290002, x291000, x291001, x291002 => if x10 = 0 then (platbooklaw04_CarveSpreads.l0 k x7 x9 (wrap64 (x10 + 1)) x289000 x289001 x289002 x290000 x290001 x290002 x291000 x291001 x291002) else (if 0 ≤ (wrap64 (x10 - 1)) then (if (wrap64 (x10 - 1)) < (x7.length : Int) then ((prefix_Last.f ((rd_T38 x7 (wrap64 (x10 - 1))).f0.f0) ((rd_T38 x7 (wrap64 (x10 - 1))).f0.f1.f0) ((rd_T38 x7 (wrap64 (x10 - 1))).f0.f1.f1) ((rd_T38 x7 (wrap64 (x10 - 1))).f1)).bind fun bt316 => ((num_Of.f 1).bind fun bt319 => ((addr_Plus.f bt316.1 bt316.2.1 bt316.2.2 bt319.1 bt319.2).bind fun bt321 => (if bt321.2.2.2 = 0 then (if 0 ≤ x10 then (if x10 < (x7.length : Int) then ((prefix_First.f ((rd_T38 x7 x10).f0.f0) ((rd_T38 x7 x10).f0.f1.f0) ((rd_T38 x7 x10).f0.f1.f1) ((rd_T38 x7 x10).f1)).bind fun bt327 => (platbooklaw04_CarveSpreads.j4 k x7 x9 x10 (!(bt327.1 == bt321.1) || ((!(bt327.2.1 == bt321.2.1) || (!(bt327.2.2 == bt321.2.2.1))))) x289000 x289001 x289002 x290000 x290001 x290002 x291000 x291001 x291002)) else (none)) else (none)) else (platbooklaw04_CarveSpreads.j4 k x7 x9 x10 true x289000 x289001 x289002 x290000 x290001 x290002 x291000 x291001 x291002))))) else (none)) else (none))
def platbooklaw04_CarveSpreads.j4 : Nat → List (S38) → Int → Int → Bool → Bool → Int → Int → Bool → Int → Int → Bool → Int → Int → Option (Bool)
 | 0, _, _, _, _, _, _, _, _, _, _, _, _, _ => none
 | k + 1, x7, x9, x10, x132, x289000, x289001, x289002, x290000, x290001, x290002, x291000, x291001, x291002 => if x132 = true then (some false) else (if 0 ≤ x10 then (if x10 < (x7.length : Int) then (if 0 ≤ (wrap64 (x10 - 1)) then (if (wrap64 (x10 - 1)) < (x7.length : Int) then (if ((rd_T38 x7 x10).f1) = ((rd_T38 x7 (wrap64 (x10 - 1))).f1) then ((prefix_Of.f k ((rd_T38 x7 x10).f0.f0) ((rd_T38 x7 x10).f0.f1.f0) ((rd_T38 x7 x10).f0.f1.f1) (wrap64 (((rd_T38 x7 x10).f1) - 1))).bind fun bt334 => ((prefix_Halves.f bt334.1 bt334.2.1 bt334.2.2.1 bt334.2.2.2.1).bind fun bt340 => (if ((bt340.1 == ((rd_T38 x7 (wrap64 (x10 - 1))).f0.f0) && ((bt340.2.1 == ((rd_T38 x7 (wrap64 (x10 - 1))).f0.f1.f0) && (bt340.2.2.1 == ((rd_T38 x7 (wrap64 (x10 - 1))).f0.f1.f1))))) && (bt340.2.2.2.1 == ((rd_T38 x7 (wrap64 (x10 - 1))).f1))) = true then (some false) else (platbooklaw04_CarveSpreads.l0 k x7 x9 (wrap64 (x10 + 1)) x289000 x289001 x289002 x290000 x290001 x290002 x291000 x291001 x291002)))) else (platbooklaw04_CarveSpreads.l0 k x7 x9 (wrap64 (x10 + 1)) x289000 x289001 x289002 x290000 x290001 x290002 x291000 x291001 x291002)) else (none)) else (none)) else (none)) else (none))
end
def platbooklaw04_CarveSpreads.f (k : Nat) (a0_0 : Bool) (a0_1 : Int) (a0_2 : Int) (a1_0 : Bool) (a1_1 : Int) (a1_2 : Int) (a2_0 : Bool) (a2_1 : Int) (a2_2 : Int) : Option (Bool) := (platbooklaw04_awake.f k).bind fun t291 => (if t291 = true then ((carve_Spread.f k a0_0 a0_1 a0_2 a1_0 a1_1 a1_2).bind fun bt292 => ((addr_Right.f a0_0 a0_1 a0_2).bind fun t296 => (if t296 = true then ((addr_Right.f a1_0 a1_1 a1_2).bind fun t297 => (if t297 = true then (if (a0_0 != a1_0) = true then (platbooklaw04_CarveSpreads.j0 k bt292.1 bt292.2 true a0_0 a0_1 a0_2 a1_0 a1_1 a1_2 a2_0 a2_1 a2_2) else ((addr_Cmp.f a0_0 a0_1 a0_2 a1_0 a1_1 a1_2).bind fun t298 => (platbooklaw04_CarveSpreads.j0 k bt292.1 bt292.2 (decide (t298 > 0)) a0_0 a0_1 a0_2 a1_0 a1_1 a1_2 a2_0 a2_1 a2_2))) else (platbooklaw04_CarveSpreads.j0 k bt292.1 bt292.2 true a0_0 a0_1 a0_2 a1_0 a1_1 a1_2 a2_0 a2_1 a2_2))) else (platbooklaw04_CarveSpreads.j0 k bt292.1 bt292.2 true a0_0 a0_1 a0_2 a1_0 a1_1 a1_2 a2_0 a2_1 a2_2)))) else (some false))
def platbooklaw04_CarveSpreads.T6 : Bool × List (List Nat × List Nat) := (true, [([], []), ([0], [0]), ([1], [1]), ([2], [2]), ([3, 2], [2, 3]), ([4, 2], [2, 4]), ([2, 5], [2, 5]), ([6, 2], [6]), ([7], [7]), ([8, 7], [7, 8]), ([7], [7]), ([10, 7, 7], [7, 10]), ([11, 7], [7, 11]), ([9, 12, 7], [7, 9, 12]), ([7, 13], [7, 13]), ([14, 11], [14]), ([15], [15]), ([16, 15], [15, 16]), ([17, 15], [15, 17]), ([18, 15, 15], [15, 18]), ([15], [15]), ([19, 20, 15], [15, 19, 20]), ([15, 21], [15, 21]), ([22, 19], [22]), ([23], [23]), ([23], [23]), ([25, 23], [23, 25]), ([26, 23], [23, 26]), ([24, 27, 23], [23, 24, 27]), ([28, 23], [23, 28]), ([29, 23, 23], [23, 29]), ([23], [23]), ([30, 31, 23], [23, 30, 31]), ([23, 32], [23, 32])])
def platbooklaw04_CarveSpreads.B6 : List Nat := [0, 1, 3, 7, 15, 31, 63, 127, 255, 511, 255, 1279, 3327, 8191, 16383, 32767, 65535, 131071, 262143, 524287, 65535, 2097151, 4194303, 8388607, 16777215, 16777215, 50331647, 117440511, 268435455, 536870911, 1073741823, 16777215, 4294967295, 8589934591]
theorem platbooklaw04_CarveSpreads.tab6 : rtab .any (opsOf Tryz.f11 6) = platbooklaw04_CarveSpreads.T6 := by kernel_rfl
theorem platbooklaw04_CarveSpreads.bits6 : waitsOk platbooklaw04_CarveSpreads.T6.2 platbooklaw04_CarveSpreads.B6 = true := by kernel_rfl
def platbooklaw04_CarveSpreads.T18 : Bool × List (List Nat × List Nat) := (true, [([], []), ([0], [0]), ([1], [1]), ([2], [2]), ([2], [2]), ([3, 4, 2], [2, 3, 4]), ([5, 2], [2, 5]), ([6, 2, 2], [2, 6]), ([2], [2]), ([7, 8, 2], [2, 7, 8]), ([2, 9], [2, 9])])
def platbooklaw04_CarveSpreads.B18 : List Nat := [0, 1, 3, 7, 7, 31, 63, 127, 7, 511, 1023]
theorem platbooklaw04_CarveSpreads.tab18 : rtab .any (opsOf Tryz.f11 18) = platbooklaw04_CarveSpreads.T18 := by kernel_rfl
theorem platbooklaw04_CarveSpreads.bits18 : waitsOk platbooklaw04_CarveSpreads.T18.2 platbooklaw04_CarveSpreads.B18 = true := by kernel_rfl
def platbooklaw04_CarveSpreads.T20 : Bool × List (List Nat × List Nat) := (true, [([], []), ([], []), ([0, 1], [0, 1]), ([2], [2]), ([3], [3]), ([], []), ([], []), ([6], [6]), ([5, 7], [5, 7]), ([8], [8]), ([9], [9]), ([4, 10], [4, 10])])
def platbooklaw04_CarveSpreads.B20 : List Nat := [0, 0, 3, 7, 15, 0, 0, 64, 224, 480, 992, 2047]
theorem platbooklaw04_CarveSpreads.tab20 : rtab .any (opsOf Tryz.f11 20) = platbooklaw04_CarveSpreads.T20 := by kernel_rfl
theorem platbooklaw04_CarveSpreads.bits20 : waitsOk platbooklaw04_CarveSpreads.T20.2 platbooklaw04_CarveSpreads.B20 = true := by kernel_rfl
def platbooklaw04_CarveSpreads.T21 : Bool × List (List Nat × List Nat) := (true, [([], []), ([], []), ([0, 1], [0, 1]), ([2], [2]), ([3], [3]), ([], []), ([], []), ([5, 6], [5, 6]), ([7], [7]), ([8], [8]), ([9], [9]), ([4, 10], [4, 10]), ([11], [11]), ([12], [12]), ([12], [12]), ([], []), ([15, 13, 11, 0, 1, 2, 3, 4, 5, 6, 7, 8, 9, 10, 11, 12, 13, 15], [13, 15]), ([14, 16, 0, 1, 2, 3, 4, 5, 6, 7, 8, 9, 10, 11, 12, 13, 14, 15, 16], [14])])
def platbooklaw04_CarveSpreads.B21 : List Nat := [0, 0, 3, 7, 15, 0, 0, 96, 224, 480, 992, 2047, 4095, 8191, 8191, 0, 49151, 131071]
theorem platbooklaw04_CarveSpreads.tab21 : rtab .any (opsOf Tryz.f11 21) = platbooklaw04_CarveSpreads.T21 := by kernel_rfl
theorem platbooklaw04_CarveSpreads.bits21 : waitsOk platbooklaw04_CarveSpreads.T21.2 platbooklaw04_CarveSpreads.B21 = true := by kernel_rfl
set_option maxHeartbeats 64000000 in
set_option maxRecDepth 100000 in
theorem platbooklaw04_CarveSpreads.calls (k : Nat) (a0_0 : Bool) (a0_1 : Int) (a0_2 : Int) (a1_0 : Bool) (a1_1 : Int) (a1_2 : Int) (a2_0 : Bool) (a2_1 : Int) (a2_2 : Int) (r : Bool) (w : World) (hG : Glob w) (hrt : r = true) (h : platbooklaw04_CarveSpreads.f k a0_0 a0_1 a0_2 a1_0 a1_1 a1_2 a2_0 a2_1 a2_2 = some r) :
  Calls Tryz.prog 11 #[.agg #[.bool a0_0, .int .u64 a0_1, .int .u64 a0_2], .agg #[.bool a1_0, .int .u64 a1_1, .int .u64 a1_2], .agg #[.bool a2_0, .int .u64 a2_1, .int .u64 a2_2]] w fun e w' => e = .returned (.bool r) ∧ Below w.heap.size w w' := by
 have hu26 := Tryz.underlying26
 have hu38 := Tryz.underlying38
 have HGLB := Aside0.mk hG
 clear hG
 have HRT := Aside0.mk hrt
 clear hrt
 have HB := Aside0.mk (Below.refl w.heap.size w)
 have H : ((platbooklaw04_awake.f k).bind fun t291 => (if t291 = true then ((carve_Spread.f k a0_0 a0_1 a0_2 a1_0 a1_1 a1_2).bind fun bt292 => ((addr_Right.f a0_0 a0_1 a0_2).bind fun t296 => (if t296 = true then ((addr_Right.f a1_0 a1_1 a1_2).bind fun t297 => (if t297 = true then (if (a0_0 != a1_0) = true then (platbooklaw04_CarveSpreads.j0 k bt292.1 bt292.2 true a0_0 a0_1 a0_2 a1_0 a1_1 a1_2 a2_0 a2_1 a2_2) else ((addr_Cmp.f a0_0 a0_1 a0_2 a1_0 a1_1 a1_2).bind fun t298 => (platbooklaw04_CarveSpreads.j0 k bt292.1 bt292.2 (decide (t298 > 0)) a0_0 a0_1 a0_2 a1_0 a1_1 a1_2 a2_0 a2_1 a2_2))) else (platbooklaw04_CarveSpreads.j0 k bt292.1 bt292.2 true a0_0 a0_1 a0_2 a1_0 a1_1 a1_2 a2_0 a2_1 a2_2))) else (platbooklaw04_CarveSpreads.j0 k bt292.1 bt292.2 true a0_0 a0_1 a0_2 a1_0 a1_1 a1_2 a2_0 a2_1 a2_2)))) else (some false))) = some r := h
 clear h
 replace H := Option.bind_eq_some_iff.mp H
 obtain ⟨t291, A40, H⟩ := H
 replace H : (if t291 = true then ((carve_Spread.f k a0_0 a0_1 a0_2 a1_0 a1_1 a1_2).bind fun bt292 => ((addr_Right.f a0_0 a0_1 a0_2).bind fun t296 => (if t296 = true then ((addr_Right.f a1_0 a1_1 a1_2).bind fun t297 => (if t297 = true then (if (a0_0 != a1_0) = true then (platbooklaw04_CarveSpreads.j0 k bt292.1 bt292.2 true a0_0 a0_1 a0_2 a1_0 a1_1 a1_2 a2_0 a2_1 a2_2) else ((addr_Cmp.f a0_0 a0_1 a0_2 a1_0 a1_1 a1_2).bind fun t298 => (platbooklaw04_CarveSpreads.j0 k bt292.1 bt292.2 (decide (t298 > 0)) a0_0 a0_1 a0_2 a1_0 a1_1 a1_2 a2_0 a2_1 a2_2))) else (platbooklaw04_CarveSpreads.j0 k bt292.1 bt292.2 true a0_0 a0_1 a0_2 a1_0 a1_1 a1_2 a2_0 a2_1 a2_2))) else (platbooklaw04_CarveSpreads.j0 k bt292.1 bt292.2 true a0_0 a0_1 a0_2 a1_0 a1_1 a1_2 a2_0 a2_1 a2_2)))) else (some false)) = some r := H
 have A4 := Aside0.mk A40
 clear A40
 by_cases c5 : t291 = true
 ·
  subst c5
  rw [if_pos rfl] at H
  replace H := Option.bind_eq_some_iff.mp H
  obtain ⟨⟨t292, t295⟩, A60, H⟩ := H
  replace H : ((addr_Right.f a0_0 a0_1 a0_2).bind fun t296 => (if t296 = true then ((addr_Right.f a1_0 a1_1 a1_2).bind fun t297 => (if t297 = true then (if (a0_0 != a1_0) = true then (platbooklaw04_CarveSpreads.j0 k t292 t295 true a0_0 a0_1 a0_2 a1_0 a1_1 a1_2 a2_0 a2_1 a2_2) else ((addr_Cmp.f a0_0 a0_1 a0_2 a1_0 a1_1 a1_2).bind fun t298 => (platbooklaw04_CarveSpreads.j0 k t292 t295 (decide (t298 > 0)) a0_0 a0_1 a0_2 a1_0 a1_1 a1_2 a2_0 a2_1 a2_2))) else (platbooklaw04_CarveSpreads.j0 k t292 t295 true a0_0 a0_1 a0_2 a1_0 a1_1 a1_2 a2_0 a2_1 a2_2))) else (platbooklaw04_CarveSpreads.j0 k t292 t295 true a0_0 a0_1 a0_2 a1_0 a1_1 a1_2 a2_0 a2_1 a2_2))) = some r := H
  have A6 := Aside0.mk A60
  clear A60
  have HC7 := Aside0.mk H
  clear H
  go_enter Tryz.func11, Tryz.ntmps11
  go_upto_region 4 with (first | ((with_reducible refine gate_dst (N := 3) rfl ?_); (try (refine gate_guard (by rfl) ?_; dsimp only)); refine bx_ 3 #[.bool a0_0, .int .u64 a0_1, .int .u64 a0_2] 26 ?_; intro gb288 hg w8 hbox hb; have BK288 := Aside0.mk (hbox); have GW288 := gw_ HB hg; have GE288 := gw_ HB hg; replace HB := bs_ HB hb; clear hb hbox hg) | ((with_reducible refine gate_dst (N := 4) rfl ?_); (try (refine gate_guard (by rfl) ?_; dsimp only)); refine bx_ 4 #[.bool a1_0, .int .u64 a1_1, .int .u64 a1_2] 26 ?_; intro gb289 hg w9 hbox hb; have BK289 := Aside0.mk (hbox); have GW289 := gw_ HB hg; have GE289 := gw_ HB hg; have NB288_289 := nl_ BK288 hg; have NB289_288 := ng_ BK288 hg; replace BK288 := bb_ BK288 hb; replace HB := bs_ HB hb; clear hb hbox hg) | ((with_reducible refine gate_dst (N := 5) rfl ?_); (try (refine gate_guard (by rfl) ?_; dsimp only)); refine bx_ 5 #[.bool a2_0, .int .u64 a2_1, .int .u64 a2_2] 26 ?_; intro gb290 hg w10 hbox hb; have BK290 := Aside0.mk (hbox); have GW290 := gw_ HB hg; have GE290 := gw_ HB hg; have NB288_290 := nl_ BK288 hg; have NB290_288 := ng_ BK288 hg; have NB289_290 := nl_ BK289 hg; have NB290_289 := ng_ BK289 hg; replace BK288 := bb_ BK288 hb; replace BK289 := bb_ BK289 hb; replace HB := bs_ HB hb; clear hb hbox hg) | ((with_reducible refine gate_callee (f := 46) rfl ?_); refine gl_ (some 19) Tryz.func46 #[] ?_; (with_reducible refine (platbooklaw04_awake.calls k  true _ ?side1 rfl A4.out).mono ?_); (case side1 => exact glob_keep HGLB.out (pb_ HB)); rintro e w11 ⟨rfl, hb⟩; refine ⟨_, rfl, ?_⟩; replace BK288 := bb_ BK288 hb; replace BK289 := bb_ BK289 hb; replace BK290 := bb_ BK290 hb; replace HB := bs_ HB hb; (try clear hb); (try clear hb2); (try clear hk); (try clear hi); have hnb12 := NB288_289.out; have hnc12 := NB289_288.out; have hnb13 := NB288_290.out; have hnc13 := NB290_288.out; obtain ⟨hcz14_0, hcz14_1, hcz14_2, hfz14_0, hfz14_1, hfz14_2⟩ := c3_ BK288; have hnb15 := NB289_290.out; have hnc15 := NB290_289.out; obtain ⟨hcz16_0, hcz16_1, hcz16_2, hfz16_0, hfz16_1, hfz16_2⟩ := c3_ BK289) | ((with_reducible refine gate_callee (f := 58) rfl ?_); refine gl_ (some 24) Tryz.func58 #[.agg #[.bool a0_0, .int .u64 a0_1, .int .u64 a0_2], .agg #[.bool a1_0, .int .u64 a1_1, .int .u64 a1_2]] ?_; (with_reducible refine (carve_Spread.calls k a0_0 a0_1 a0_2 a1_0 a1_1 a1_2 t292 t295 _ A6.out).mono ?_); rintro e w17 ⟨v293, rfl, ho0, hb⟩; refine ⟨_, rfl, ?_⟩; have HO294 := Aside0.mk (Kd.R_lower ho0 (below_size (pb_ HB))); replace BK288 := bb_ BK288 hb; replace BK289 := bb_ BK289 hb; replace BK290 := bb_ BK290 hb; replace HB := bs_ HB hb; (try clear hb); (try clear hb2); (try clear hk); (try clear hi); (try clear ho0)))
  (try simp only [Act.put, List.setIfInBounds_toArray, List.set_cons_zero, List.set_cons_succ])
  go_cut [47] (fun v47 wc => ∃ (kq : Nat) (x47_6 : Bool), v47 = .bool x47_6 ∧ Aside0 (platbooklaw04_CarveSpreads.j0 kq t292 t295 x47_6 a0_0 a0_1 a0_2 a1_0 a1_1 a1_2 a2_0 a2_1 a2_2 = some r) ∧ Aside0 (kq ≤ k) ∧ Aside0 (Kd.R k38 38 wc w.heap.size (fun _ => True) v293 t292) ∧ Aside0 (wc.heap[gb288]? = some (.cells #[.bool a0_0, .int .u64 a0_1, .int .u64 a0_2] 26 (0, 0))) ∧ Aside0 (wc.heap[gb289]? = some (.cells #[.bool a1_0, .int .u64 a1_1, .int .u64 a1_2] 26 (0, 0))) ∧ Aside0 (wc.heap[gb290]? = some (.cells #[.bool a2_0, .int .u64 a2_1, .int .u64 a2_2] 26 (0, 0))) ∧ Aside0 (Below w.heap.size w wc))
  case first =>
   have H := HC7.out
   clear HC7
   replace H := Option.bind_eq_some_iff.mp H
   obtain ⟨t296, A180, H⟩ := H
   replace H : (if t296 = true then ((addr_Right.f a1_0 a1_1 a1_2).bind fun t297 => (if t297 = true then (if (a0_0 != a1_0) = true then (platbooklaw04_CarveSpreads.j0 k t292 t295 true a0_0 a0_1 a0_2 a1_0 a1_1 a1_2 a2_0 a2_1 a2_2) else ((addr_Cmp.f a0_0 a0_1 a0_2 a1_0 a1_1 a1_2).bind fun t298 => (platbooklaw04_CarveSpreads.j0 k t292 t295 (decide (t298 > 0)) a0_0 a0_1 a0_2 a1_0 a1_1 a1_2 a2_0 a2_1 a2_2))) else (platbooklaw04_CarveSpreads.j0 k t292 t295 true a0_0 a0_1 a0_2 a1_0 a1_1 a1_2 a2_0 a2_1 a2_2))) else (platbooklaw04_CarveSpreads.j0 k t292 t295 true a0_0 a0_1 a0_2 a1_0 a1_1 a1_2 a2_0 a2_1 a2_2)) = some r := H
   have A18 := Aside0.mk A180
   clear A180
   by_cases c19 : t296 = true
   ·
    subst c19
    rw [if_pos rfl] at H
    replace H := Option.bind_eq_some_iff.mp H
    obtain ⟨t297, A200, H⟩ := H
    replace H : (if t297 = true then (if (a0_0 != a1_0) = true then (platbooklaw04_CarveSpreads.j0 k t292 t295 true a0_0 a0_1 a0_2 a1_0 a1_1 a1_2 a2_0 a2_1 a2_2) else ((addr_Cmp.f a0_0 a0_1 a0_2 a1_0 a1_1 a1_2).bind fun t298 => (platbooklaw04_CarveSpreads.j0 k t292 t295 (decide (t298 > 0)) a0_0 a0_1 a0_2 a1_0 a1_1 a1_2 a2_0 a2_1 a2_2))) else (platbooklaw04_CarveSpreads.j0 k t292 t295 true a0_0 a0_1 a0_2 a1_0 a1_1 a1_2 a2_0 a2_1 a2_2)) = some r := H
    have A20 := Aside0.mk A200
    clear A200
    by_cases c21 : t297 = true
    ·
     subst c21
     rw [if_pos rfl] at H
     by_cases c22 : (a0_0 != a1_0) = true
     ·
      rw [if_pos c22] at H
      have c22b0 : (a0_0 != a1_0) = true := c22
      (try (have c22b1 : decide (a0_0 = a1_0) = false := by simpa using c22))
      (try (have c22b2 : (a0_0 == a1_0) = false := by simpa using c22))
      (try (have c22b3 : ¬ (a0_0 = a1_0) := by simpa using c22))
      clear c22
      (first | rw [c22b0] | (simp only [i64_w, i32_w]; rw [c22b0]) | skip)
      have H' := Aside0.mk H
      clear H
      have hnb23 := NB288_289.out
      have hnc23 := NB289_288.out
      have hnb24 := NB288_290.out
      have hnc24 := NB290_288.out
      obtain ⟨hcz25_0, hcz25_1, hcz25_2, hfz25_0, hfz25_1, hfz25_2⟩ := c3_ BK288
      go_wp2_with (first | ((with_reducible refine gate_callee (f := 18) rfl ?_); refine gl_ (some 28) Tryz.func18 #[.agg #[.bool a0_0, .int .u64 a0_1, .int .u64 a0_2]] ?_; (with_reducible refine (addr_Right.calls a0_0 a0_1 a0_2 true _ A18.out).mono ?_); rintro e w26 ⟨rfl, hb⟩; refine ⟨_, rfl, ?_⟩; replace HO294 := Aside0.mk (Kd.R_below (by (with_reducible repeat (first | apply Kd.R_alloc | apply Kd.R_drewN | apply Kd.R_drew)); exact HO294.out) hb); replace BK288 := bb_ BK288 hb; replace BK289 := bb_ BK289 hb; replace BK290 := bb_ BK290 hb; replace HB := bs_ HB hb; (try clear hb); (try clear hb2); (try clear hk); (try clear hi); have hnb27 := NB289_290.out; have hnc27 := NB290_289.out; obtain ⟨hcz28_0, hcz28_1, hcz28_2, hfz28_0, hfz28_1, hfz28_2⟩ := c3_ BK289) | (go_at_call 18; (with_reducible refine (addr_Right.calls a1_0 a1_1 a1_2 true _ A20.out).mono ?_); rintro e w29 ⟨rfl, hb⟩; replace HO294 := Aside0.mk (Kd.R_below (by (with_reducible repeat (first | apply Kd.R_alloc | apply Kd.R_drewN | apply Kd.R_drew)); exact HO294.out) hb); replace BK288 := bb_ BK288 hb; replace BK289 := bb_ BK289 hb; replace BK290 := bb_ BK290 hb; replace HB := bs_ HB hb; (try clear hb); (try clear hb2); (try clear hk); (try clear hi); obtain ⟨hcz30_0, hcz30_1, hcz30_2, hfz30_0, hfz30_1, hfz30_2⟩ := c3_ BK288; obtain ⟨hcz31_0, hcz31_1, hcz31_2, hfz31_0, hfz31_1, hfz31_2⟩ := c3_ BK289))
      go_meet
      case rel => exact ⟨_, (true), (by first | rfl | (simp; done) | (simp [*]; done)), H', ⟨by first | omega | exact Nat.le_refl _⟩, ⟨by (with_reducible repeat (first | apply Kd.R_alloc | apply Kd.R_drewN | apply Kd.R_drew)); exact HO294.out⟩, ⟨by refine pw_ ?_; exact BK288.out⟩, ⟨by refine pw_ ?_; exact BK289.out⟩, ⟨by refine pw_ ?_; exact BK290.out⟩, ⟨pb_ HB⟩⟩
     ·
      rw [if_neg c22] at H
      have c22b0 : (a0_0 != a1_0) = false := by simpa using c22
      (try (have c22b1 : decide (a0_0 = a1_0) = true := by simpa using c22))
      (try (have c22b2 : (a0_0 == a1_0) = true := by simpa using c22))
      clear c22
      (first | rw [c22b0] | (simp only [i64_w, i32_w]; rw [c22b0]) | skip)
      replace H := Option.bind_eq_some_iff.mp H
      obtain ⟨t298, A320, H⟩ := H
      replace H : (platbooklaw04_CarveSpreads.j0 k t292 t295 (decide (t298 > 0)) a0_0 a0_1 a0_2 a1_0 a1_1 a1_2 a2_0 a2_1 a2_2) = some r := H
      have A32 := Aside0.mk A320
      clear A320
      have H' := Aside0.mk H
      clear H
      have hnb33 := NB288_289.out
      have hnc33 := NB289_288.out
      have hnb34 := NB288_290.out
      have hnc34 := NB290_288.out
      obtain ⟨hcz35_0, hcz35_1, hcz35_2, hfz35_0, hfz35_1, hfz35_2⟩ := c3_ BK288
      go_wp2_with (first | ((with_reducible refine gate_callee (f := 18) rfl ?_); refine gl_ (some 28) Tryz.func18 #[.agg #[.bool a0_0, .int .u64 a0_1, .int .u64 a0_2]] ?_; (with_reducible refine (addr_Right.calls a0_0 a0_1 a0_2 true _ A18.out).mono ?_); rintro e w36 ⟨rfl, hb⟩; refine ⟨_, rfl, ?_⟩; replace HO294 := Aside0.mk (Kd.R_below (by (with_reducible repeat (first | apply Kd.R_alloc | apply Kd.R_drewN | apply Kd.R_drew)); exact HO294.out) hb); replace BK288 := bb_ BK288 hb; replace BK289 := bb_ BK289 hb; replace BK290 := bb_ BK290 hb; replace HB := bs_ HB hb; (try clear hb); (try clear hb2); (try clear hk); (try clear hi); have hnb37 := NB289_290.out; have hnc37 := NB290_289.out; obtain ⟨hcz38_0, hcz38_1, hcz38_2, hfz38_0, hfz38_1, hfz38_2⟩ := c3_ BK289) | (go_at_call 18; (with_reducible refine (addr_Right.calls a1_0 a1_1 a1_2 true _ A20.out).mono ?_); rintro e w39 ⟨rfl, hb⟩; replace HO294 := Aside0.mk (Kd.R_below (by (with_reducible repeat (first | apply Kd.R_alloc | apply Kd.R_drewN | apply Kd.R_drew)); exact HO294.out) hb); replace BK288 := bb_ BK288 hb; replace BK289 := bb_ BK289 hb; replace BK290 := bb_ BK290 hb; replace HB := bs_ HB hb; (try clear hb); (try clear hb2); (try clear hk); (try clear hi); obtain ⟨hcz40_0, hcz40_1, hcz40_2, hfz40_0, hfz40_1, hfz40_2⟩ := c3_ BK288; obtain ⟨hcz41_0, hcz41_1, hcz41_2, hfz41_0, hfz41_1, hfz41_2⟩ := c3_ BK289) | (go_at_call 20; (with_reducible refine (addr_Cmp.calls a0_0 a0_1 a0_2 a1_0 a1_1 a1_2 t298 _ A32.out).mono ?_); rintro e w42 ⟨rfl, hb⟩; replace HO294 := Aside0.mk (Kd.R_below (by (with_reducible repeat (first | apply Kd.R_alloc | apply Kd.R_drewN | apply Kd.R_drew)); exact HO294.out) hb); replace BK288 := bb_ BK288 hb; replace BK289 := bb_ BK289 hb; replace BK290 := bb_ BK290 hb; replace HB := bs_ HB hb; (try clear hb); (try clear hb2); (try clear hk); (try clear hi)))
      go_meet
      case rel => exact ⟨_, (decide (t298 > 0)), (by first | rfl | (simp; done) | (simp [*]; done)), H', ⟨by first | omega | exact Nat.le_refl _⟩, ⟨by (with_reducible repeat (first | apply Kd.R_alloc | apply Kd.R_drewN | apply Kd.R_drew)); exact HO294.out⟩, ⟨by refine pw_ ?_; exact BK288.out⟩, ⟨by refine pw_ ?_; exact BK289.out⟩, ⟨by refine pw_ ?_; exact BK290.out⟩, ⟨pb_ HB⟩⟩
    ·
     replace c21 := Bool.eq_false_iff.mpr c21
     subst c21
     have H1 : (platbooklaw04_CarveSpreads.j0 k t292 t295 true a0_0 a0_1 a0_2 a1_0 a1_1 a1_2 a2_0 a2_1 a2_2) = some r := by rw [if_neg (show ¬ (false = true) by decide)] at H; exact H
     clear H
     have H := H1
     clear H1
     have H' := Aside0.mk H
     clear H
     have hnb43 := NB288_289.out
     have hnc43 := NB289_288.out
     have hnb44 := NB288_290.out
     have hnc44 := NB290_288.out
     obtain ⟨hcz45_0, hcz45_1, hcz45_2, hfz45_0, hfz45_1, hfz45_2⟩ := c3_ BK288
     go_wp2_with (first | ((with_reducible refine gate_callee (f := 18) rfl ?_); refine gl_ (some 28) Tryz.func18 #[.agg #[.bool a0_0, .int .u64 a0_1, .int .u64 a0_2]] ?_; (with_reducible refine (addr_Right.calls a0_0 a0_1 a0_2 true _ A18.out).mono ?_); rintro e w46 ⟨rfl, hb⟩; refine ⟨_, rfl, ?_⟩; replace HO294 := Aside0.mk (Kd.R_below (by (with_reducible repeat (first | apply Kd.R_alloc | apply Kd.R_drewN | apply Kd.R_drew)); exact HO294.out) hb); replace BK288 := bb_ BK288 hb; replace BK289 := bb_ BK289 hb; replace BK290 := bb_ BK290 hb; replace HB := bs_ HB hb; (try clear hb); (try clear hb2); (try clear hk); (try clear hi); have hnb47 := NB289_290.out; have hnc47 := NB290_289.out; obtain ⟨hcz48_0, hcz48_1, hcz48_2, hfz48_0, hfz48_1, hfz48_2⟩ := c3_ BK289) | (go_at_call 18; (with_reducible refine (addr_Right.calls a1_0 a1_1 a1_2 false _ A20.out).mono ?_); rintro e w49 ⟨rfl, hb⟩; replace HO294 := Aside0.mk (Kd.R_below (by (with_reducible repeat (first | apply Kd.R_alloc | apply Kd.R_drewN | apply Kd.R_drew)); exact HO294.out) hb); replace BK288 := bb_ BK288 hb; replace BK289 := bb_ BK289 hb; replace BK290 := bb_ BK290 hb; replace HB := bs_ HB hb; (try clear hb); (try clear hb2); (try clear hk); (try clear hi)))
     go_meet
     case rel => exact ⟨_, (true), (by first | rfl | (simp; done) | (simp [*]; done)), H', ⟨by first | omega | exact Nat.le_refl _⟩, ⟨by (with_reducible repeat (first | apply Kd.R_alloc | apply Kd.R_drewN | apply Kd.R_drew)); exact HO294.out⟩, ⟨by refine pw_ ?_; exact BK288.out⟩, ⟨by refine pw_ ?_; exact BK289.out⟩, ⟨by refine pw_ ?_; exact BK290.out⟩, ⟨pb_ HB⟩⟩
   ·
    replace c19 := Bool.eq_false_iff.mpr c19
    subst c19
    have H1 : (platbooklaw04_CarveSpreads.j0 k t292 t295 true a0_0 a0_1 a0_2 a1_0 a1_1 a1_2 a2_0 a2_1 a2_2) = some r := by rw [if_neg (show ¬ (false = true) by decide)] at H; exact H
    clear H
    have H := H1
    clear H1
    have H' := Aside0.mk H
    clear H
    have hnb50 := NB288_289.out
    have hnc50 := NB289_288.out
    have hnb51 := NB288_290.out
    have hnc51 := NB290_288.out
    obtain ⟨hcz52_0, hcz52_1, hcz52_2, hfz52_0, hfz52_1, hfz52_2⟩ := c3_ BK288
    go_wp2_with (first | ((with_reducible refine gate_callee (f := 18) rfl ?_); refine gl_ (some 28) Tryz.func18 #[.agg #[.bool a0_0, .int .u64 a0_1, .int .u64 a0_2]] ?_; (with_reducible refine (addr_Right.calls a0_0 a0_1 a0_2 false _ A18.out).mono ?_); rintro e w53 ⟨rfl, hb⟩; refine ⟨_, rfl, ?_⟩; replace HO294 := Aside0.mk (Kd.R_below (by (with_reducible repeat (first | apply Kd.R_alloc | apply Kd.R_drewN | apply Kd.R_drew)); exact HO294.out) hb); replace BK288 := bb_ BK288 hb; replace BK289 := bb_ BK289 hb; replace BK290 := bb_ BK290 hb; replace HB := bs_ HB hb; (try clear hb); (try clear hb2); (try clear hk); (try clear hi)))
    go_meet
    case rel => exact ⟨_, (true), (by first | rfl | (simp; done) | (simp [*]; done)), H', ⟨by first | omega | exact Nat.le_refl _⟩, ⟨by (with_reducible repeat (first | apply Kd.R_alloc | apply Kd.R_drewN | apply Kd.R_drew)); exact HO294.out⟩, ⟨by refine pw_ ?_; exact BK288.out⟩, ⟨by refine pw_ ?_; exact BK289.out⟩, ⟨by refine pw_ ?_; exact BK290.out⟩, ⟨pb_ HB⟩⟩
  case rest =>
   as_aux_lemma =>
    clear HC7
    try clear c1
    try clear c2
    try clear p2
    try clear c3
    try clear c4
    try clear c5
    try clear c11
    try clear c12
    try clear c13
    try clear c15
    try clear c18
    try clear c19
    try clear c21
    try clear c22
    try clear c22b0
    try clear c22b1
    try clear c22b2
    try clear c23
    try clear c24
    try clear c27
    try clear c33
    try clear c34
    try clear c37
    try clear c43
    try clear c44
    try clear c46
    try clear c47
    try clear c50
    try clear c51
    try clear hcz14_0
    try clear hcz14_1
    try clear hcz14_2
    try clear hcz16_0
    try clear hcz16_1
    try clear hcz16_2
    try clear hcz25_0
    try clear hcz25_1
    try clear hcz25_2
    try clear hcz28_0
    try clear hcz28_1
    try clear hcz28_2
    try clear hcz30_0
    try clear hcz30_1
    try clear hcz30_2
    try clear hcz31_0
    try clear hcz31_1
    try clear hcz31_2
    try clear hcz35_0
    try clear hcz35_1
    try clear hcz35_2
    try clear hcz38_0
    try clear hcz38_1
    try clear hcz38_2
    try clear hcz40_0
    try clear hcz40_1
    try clear hcz40_2
    try clear hcz41_0
    try clear hcz41_1
    try clear hcz41_2
    try clear hcz45_0
    try clear hcz45_1
    try clear hcz45_2
    try clear hcz48_0
    try clear hcz48_1
    try clear hcz48_2
    try clear hcz52_0
    try clear hcz52_1
    try clear hcz52_2
    try clear hfz14_0
    try clear hfz14_1
    try clear hfz14_2
    try clear hfz16_0
    try clear hfz16_1
    try clear hfz16_2
    try clear hfz25_0
    try clear hfz25_1
    try clear hfz25_2
    try clear hfz28_0
    try clear hfz28_1
    try clear hfz28_2
    try clear hfz30_0
    try clear hfz30_1
    try clear hfz30_2
    try clear hfz31_0
    try clear hfz31_1
    try clear hfz31_2
    try clear hfz35_0
    try clear hfz35_1
    try clear hfz35_2
    try clear hfz38_0
    try clear hfz38_1
    try clear hfz38_2
    try clear hfz40_0
    try clear hfz40_1
    try clear hfz40_2
    try clear hfz41_0
    try clear hfz41_1
    try clear hfz41_2
    try clear hfz45_0
    try clear hfz45_1
    try clear hfz45_2
    try clear hfz48_0
    try clear hfz48_1
    try clear hfz48_2
    try clear hfz52_0
    try clear hfz52_1
    try clear hfz52_2
    obtain ⟨kq, x47_6, rfl, HA, HJ6, HO_7, BK288, BK289, BK290, HB⟩ := hcut
    cases kq with
    | zero => exact absurd HA.out (by simp [platbooklaw04_CarveSpreads.j0])
    | succ kj6 =>
     have H := HA.out
     clear HA
     simp only [platbooklaw04_CarveSpreads.j0] at H
     by_cases c54 : x47_6 = true
     ·
      subst c54
      rw [if_pos rfl] at H
      by_cases c55 : t295 = 1
      ·
       rw [if_pos c55] at H
       have c55b0 : (t295 == 1) = true := beq_iff_eq.mpr c55
       have c55b1 : (t295 != 1) = false := bne_eq_false_iff_eq.mpr c55
       clear c55
       obtain rfl := Option.some.inj H
       obtain ⟨Ao56, co56, eo56⟩ := Kd.R_slice HO_7.out
       subst eo56
       go_wp2
       go_ret
       exact ⟨by first | rfl | (simp [errW_none, errW_some] <;> rfl) | (simp [*, errW_none, errW_some] <;> rfl), pb_ HB⟩
      ·
       rw [if_neg c55] at H
       have c55b0 : (t295 == 1) = false := beq_eq_false_iff_ne.mpr c55
       have c55b1 : (t295 != 1) = true := bne_iff_ne.mpr c55
       obtain rfl := Option.some.inj H
       exact absurd HRT.out (by decide)
     ·
      replace c54 := Bool.eq_false_iff.mpr c54
      subst c54
      have H1 : (if t295 = 0 then (if (t292.length : Int) = 0 then (platbooklaw04_CarveSpreads.j1 kj6 t292 true a0_0 a0_1 a0_2 a1_0 a1_1 a1_2 a2_0 a2_1 a2_2) else ((addr_Width.f a0_0 a0_1 a0_2).bind fun t299 => (if (t292.length : Int) > (wrap64 (2 * t299)) then (platbooklaw04_CarveSpreads.j1 kj6 t292 true a0_0 a0_1 a0_2 a1_0 a1_1 a1_2 a2_0 a2_1 a2_2) else (if 0 < (t292.length : Int) then ((prefix_First.f ((rd_T38 t292 0).f0.f0) ((rd_T38 t292 0).f0.f1.f0) ((rd_T38 t292 0).f0.f1.f1) ((rd_T38 t292 0).f1)).bind fun bt301 => (if (!(bt301.1 == a0_0) || ((!(bt301.2.1 == a0_1) || (!(bt301.2.2 == a0_2))))) = true then (platbooklaw04_CarveSpreads.j1 kj6 t292 true a0_0 a0_1 a0_2 a1_0 a1_1 a1_2 a2_0 a2_1 a2_2) else (if 0 ≤ (wrap64 ((t292.length : Int) - 1)) then (if (wrap64 ((t292.length : Int) - 1)) < (t292.length : Int) then ((prefix_Last.f ((rd_T38 t292 (wrap64 ((t292.length : Int) - 1))).f0.f0) ((rd_T38 t292 (wrap64 ((t292.length : Int) - 1))).f0.f1.f0) ((rd_T38 t292 (wrap64 ((t292.length : Int) - 1))).f0.f1.f1) ((rd_T38 t292 (wrap64 ((t292.length : Int) - 1))).f1)).bind fun bt305 => (platbooklaw04_CarveSpreads.j1 kj6 t292 (!(bt305.1 == a1_0) || ((!(bt305.2.1 == a1_1) || (!(bt305.2.2 == a1_2))))) a0_0 a0_1 a0_2 a1_0 a1_1 a1_2 a2_0 a2_1 a2_2)) else (none)) else (none)))) else (none))))) else (platbooklaw04_CarveSpreads.j1 kj6 t292 true a0_0 a0_1 a0_2 a1_0 a1_1 a1_2 a2_0 a2_1 a2_2)) = some r := by rw [if_neg (show ¬ (false = true) by decide)] at H; exact H
      clear H
      have H := H1
      clear H1
      have HC57 := Aside0.mk H
      clear H
      go_upto_region 6 with (fail)
      go_cut [88] (fun v88 wc => ∃ (kq : Nat) (x88_56 : Bool), v88 = .bool x88_56 ∧ Aside0 (platbooklaw04_CarveSpreads.j1 kq t292 x88_56 a0_0 a0_1 a0_2 a1_0 a1_1 a1_2 a2_0 a2_1 a2_2 = some r) ∧ Aside0 (kq ≤ kj6) ∧ Aside0 (Kd.R k38 38 wc w.heap.size (fun _ => True) v293 t292) ∧ Aside0 (wc.heap[gb288]? = some (.cells #[.bool a0_0, .int .u64 a0_1, .int .u64 a0_2] 26 (0, 0))) ∧ Aside0 (wc.heap[gb289]? = some (.cells #[.bool a1_0, .int .u64 a1_1, .int .u64 a1_2] 26 (0, 0))) ∧ Aside0 (wc.heap[gb290]? = some (.cells #[.bool a2_0, .int .u64 a2_1, .int .u64 a2_2] 26 (0, 0))) ∧ Aside0 (Below w.heap.size w wc))
      case first =>
       have H := HC57.out
       clear HC57
       by_cases c58 : t295 = 0
       ·
        rw [if_pos c58] at H
        have c58b0 : (t295 == 0) = true := beq_iff_eq.mpr c58
        have c58b1 : (t295 != 0) = false := bne_eq_false_iff_eq.mpr c58
        clear c58
        (first | rw [c58b0] | (simp only [i64_w, i32_w]; rw [c58b0]) | skip)
        by_cases c59 : (t292.length : Int) = 0
        ·
         rw [if_pos c59] at H
         have c59b0 : ((t292.length : Int) == 0) = true := beq_iff_eq.mpr c59
         have c59b1 : ((t292.length : Int) != 0) = false := bne_eq_false_iff_eq.mpr c59
         clear c59
         have H' := Aside0.mk H
         clear H
         try go_wp2
         replace HO_7 := Aside0.mk (Kd.R_drew HO_7.out)
         replace BK288 := Aside0.mk (blk_drew BK288.out)
         replace BK289 := Aside0.mk (blk_drew BK289.out)
         replace BK290 := Aside0.mk (blk_drew BK290.out)
         replace HB := Aside0.mk (below_drew1 HB.out)
         obtain ⟨Ao61, co61, eo61⟩ := Kd.R_slice HO_7.out
         (first | subst eo61 | (injection eo61 with f1_ f2_ f3_; have f4_ := f1_.symm; have f5_ := f3_.symm; clear f1_ f2_ f3_; subst f4_; subst f5_))
         refine start_ (n := 34) (S := fun w' => True) (ds := []) (bm_ 34 0) (by kernel_rfl) rfl rfl trivial (fun hHeld => ?_); refine with_tabW platbooklaw04_CarveSpreads.tab6 platbooklaw04_CarveSpreads.bits6 (fun HT_ HW_ => ?_)
         generalize wc.drew = w60 at HO_7 BK288 BK289 BK290 HB hHeld ⊢
         refine pu_ 0 (some 55) (bm_ 34 1) rfl HT_ ⟨by rfl, by intro w'; go_simp; with_reducible rfl⟩ ?_
         refine pu_ 1 (some 56) (bm_ 34 3) rfl HT_ ⟨by rfl, by intro w'; go_simp; with_reducible rfl⟩ ?_
         refine pu_ 2 (some 57) (bm_ 34 7) rfl HT_ ⟨by rfl, by intro w'; go_simp; with_reducible rfl⟩ ?_
         refine pu_ 3 (some 58) (bm_ 34 15) rfl HT_ ⟨by rfl, by intro w'; go_simp; with_reducible rfl⟩ ?_
         refine pu_ 4 (some 59) (bm_ 34 31) rfl HT_ ⟨by rfl, by intro w'; go_simp; with_reducible rfl⟩ ?_
         refine pu_ 5 (some 60) (bm_ 34 63) rfl HT_ ⟨by rfl, by intro w'; go_simp; with_reducible rfl⟩ ?_
         refine pu_ 6 (some 61) (bm_ 34 127) rfl HT_ ⟨by rfl, by intro w'; go_simp; with_reducible rfl⟩ ?_
         refine pu_ 7 (some 62) (bm_ 34 255) rfl HT_ ⟨by rfl, by intro w'; go_simp; with_reducible rfl⟩ ?_
         refine pure_ (i := 8) (N := some 63) (v := undef) (a' := ?_) (bm_ 34 511) rfl rfl (any_of HT_.out (by kernel_rfl)) (fun _ _ _ h => h) (Or.inr ⟨by rfl, rfl⟩) ?_ ?_
         rotate_left
         ·
          simp only [Act.put, List.setIfInBounds_toArray, List.set_cons_zero, List.set_cons_succ, i64_w, i32_w]
          rfl
         refine pure_ (i := 9) (N := some 64) (v := undef) (a' := ?_) (bm_ 34 1023) rfl rfl (any_of HT_.out (by kernel_rfl)) (fun _ _ _ h => h) (Or.inr ⟨by rfl, rfl⟩) ?_ ?_
         rotate_left
         ·
          simp only [Act.put, List.setIfInBounds_toArray, List.set_cons_zero, List.set_cons_succ, i64_w, i32_w]
          rfl
         refine pure_ (i := 10) (N := some 65) (v := undef) (a' := ?_) (bm_ 34 2047) rfl rfl (any_of HT_.out (by kernel_rfl)) (fun _ _ _ h => h) (Or.inr ⟨by rfl, rfl⟩) ?_ ?_
         rotate_left
         ·
          simp only [Act.put, List.setIfInBounds_toArray, List.set_cons_zero, List.set_cons_succ, i64_w, i32_w]
          rfl
         refine pure_ (i := 11) (N := some 66) (v := undef) (a' := ?_) (bm_ 34 4095) rfl rfl (any_of HT_.out (by kernel_rfl)) (fun _ _ _ h => h) (Or.inr ⟨by rfl, rfl⟩) ?_ ?_
         rotate_left
         ·
          simp only [Act.put, List.setIfInBounds_toArray, List.set_cons_zero, List.set_cons_succ, i64_w, i32_w]
          rfl
         refine pure_ (i := 12) (N := some 67) (v := undef) (a' := ?_) (bm_ 34 8191) rfl rfl (any_of HT_.out (by kernel_rfl)) (fun _ _ _ h => h) (Or.inr ⟨by rfl, rfl⟩) ?_ ?_
         rotate_left
         ·
          simp only [Act.put, List.setIfInBounds_toArray, List.set_cons_zero, List.set_cons_succ, i64_w, i32_w]
          rfl
         refine pure_ (i := 13) (N := some 68) (v := undef) (a' := ?_) (bm_ 34 16383) rfl rfl (any_of HT_.out (by kernel_rfl)) (fun _ _ _ h => h) (Or.inr ⟨by rfl, rfl⟩) ?_ ?_
         rotate_left
         ·
          simp only [Act.put, List.setIfInBounds_toArray, List.set_cons_zero, List.set_cons_succ, i64_w, i32_w]
          rfl
         refine pu_ 14 (some 69) (bm_ 34 32767) rfl HT_ ⟨by rfl, by intro w'; go_simp; with_reducible rfl⟩ ?_
         refine pu_ 15 (some 70) (bm_ 34 65535) rfl HT_ ⟨by rfl, by intro w'; go_simp; with_reducible rfl⟩ ?_
         refine pure_ (i := 16) (N := some 71) (v := undef) (a' := ?_) (bm_ 34 131071) rfl rfl (any_of HT_.out (by kernel_rfl)) (fun _ _ _ h => h) (Or.inr ⟨by rfl, rfl⟩) ?_ ?_
         rotate_left
         ·
          simp only [Act.put, List.setIfInBounds_toArray, List.set_cons_zero, List.set_cons_succ, i64_w, i32_w]
          rfl
         refine pure_ (i := 17) (N := some 72) (v := undef) (a' := ?_) (bm_ 34 262143) rfl rfl (any_of HT_.out (by kernel_rfl)) (fun _ _ _ h => h) (Or.inr ⟨by rfl, rfl⟩) ?_ ?_
         rotate_left
         ·
          simp only [Act.put, List.setIfInBounds_toArray, List.set_cons_zero, List.set_cons_succ, i64_w, i32_w]
          rfl
         refine pure_ (i := 18) (N := some 73) (v := undef) (a' := ?_) (bm_ 34 524287) rfl rfl (any_of HT_.out (by kernel_rfl)) (fun _ _ _ h => h) (Or.inr ⟨by rfl, rfl⟩) ?_ ?_
         rotate_left
         ·
          simp only [Act.put, List.setIfInBounds_toArray, List.set_cons_zero, List.set_cons_succ, i64_w, i32_w]
          rfl
         refine pure_ (i := 19) (N := some 74) (v := undef) (a' := ?_) (bm_ 34 1048575) rfl rfl (any_of HT_.out (by kernel_rfl)) (fun _ _ _ h => h) (Or.inr ⟨by rfl, rfl⟩) ?_ ?_
         rotate_left
         ·
          simp only [Act.put, List.setIfInBounds_toArray, List.set_cons_zero, List.set_cons_succ, i64_w, i32_w]
          rfl
         refine pure_ (i := 20) (N := some 75) (v := undef) (a' := ?_) (bm_ 34 2097151) rfl rfl (any_of HT_.out (by kernel_rfl)) (fun _ _ _ h => h) (Or.inr ⟨by rfl, rfl⟩) ?_ ?_
         rotate_left
         ·
          simp only [Act.put, List.setIfInBounds_toArray, List.set_cons_zero, List.set_cons_succ, i64_w, i32_w]
          rfl
         refine pure_ (i := 21) (N := some 76) (v := undef) (a' := ?_) (bm_ 34 4194303) rfl rfl (any_of HT_.out (by kernel_rfl)) (fun _ _ _ h => h) (Or.inr ⟨by rfl, rfl⟩) ?_ ?_
         rotate_left
         ·
          simp only [Act.put, List.setIfInBounds_toArray, List.set_cons_zero, List.set_cons_succ, i64_w, i32_w]
          rfl
         refine pu_ 22 (some 77) (bm_ 34 8388607) rfl HT_ ⟨by rfl, by intro w'; go_simp; with_reducible rfl⟩ ?_
         refine pu_ 23 (some 78) (bm_ 34 16777215) rfl HT_ ⟨by rfl, by intro w'; go_simp; with_reducible rfl⟩ ?_
         refine pure_ (i := 24) (N := some 79) (v := undef) (a' := ?_) (bm_ 34 33554431) rfl rfl (any_of HT_.out (by kernel_rfl)) (fun _ _ _ h => h) (Or.inr ⟨by rfl, rfl⟩) ?_ ?_
         rotate_left
         ·
          simp only [Act.put, List.setIfInBounds_toArray, List.set_cons_zero, List.set_cons_succ, i64_w, i32_w]
          rfl
         refine pure_ (i := 25) (N := some 80) (v := undef) (a' := ?_) (bm_ 34 67108863) rfl rfl (any_of HT_.out (by kernel_rfl)) (fun _ _ _ h => h) (Or.inr ⟨by rfl, rfl⟩) ?_ ?_
         rotate_left
         ·
          simp only [Act.put, List.setIfInBounds_toArray, List.set_cons_zero, List.set_cons_succ, i64_w, i32_w]
          rfl
         refine pure_ (i := 26) (N := some 81) (v := undef) (a' := ?_) (bm_ 34 134217727) rfl rfl (any_of HT_.out (by kernel_rfl)) (fun _ _ _ h => h) (Or.inr ⟨by rfl, rfl⟩) ?_ ?_
         rotate_left
         ·
          simp only [Act.put, List.setIfInBounds_toArray, List.set_cons_zero, List.set_cons_succ, i64_w, i32_w]
          rfl
         refine pure_ (i := 27) (N := some 82) (v := undef) (a' := ?_) (bm_ 34 268435455) rfl rfl (any_of HT_.out (by kernel_rfl)) (fun _ _ _ h => h) (Or.inr ⟨by rfl, rfl⟩) ?_ ?_
         rotate_left
         ·
          simp only [Act.put, List.setIfInBounds_toArray, List.set_cons_zero, List.set_cons_succ, i64_w, i32_w]
          rfl
         refine pure_ (i := 28) (N := some 83) (v := undef) (a' := ?_) (bm_ 34 536870911) rfl rfl (any_of HT_.out (by kernel_rfl)) (fun _ _ _ h => h) (Or.inr ⟨by rfl, rfl⟩) ?_ ?_
         rotate_left
         ·
          simp only [Act.put, List.setIfInBounds_toArray, List.set_cons_zero, List.set_cons_succ, i64_w, i32_w]
          rfl
         refine pure_ (i := 29) (N := some 84) (v := undef) (a' := ?_) (bm_ 34 1073741823) rfl rfl (any_of HT_.out (by kernel_rfl)) (fun _ _ _ h => h) (Or.inr ⟨by rfl, rfl⟩) ?_ ?_
         rotate_left
         ·
          simp only [Act.put, List.setIfInBounds_toArray, List.set_cons_zero, List.set_cons_succ, i64_w, i32_w]
          rfl
         refine pure_ (i := 30) (N := some 85) (v := undef) (a' := ?_) (bm_ 34 2147483647) rfl rfl (any_of HT_.out (by kernel_rfl)) (fun _ _ _ h => h) (Or.inr ⟨by rfl, rfl⟩) ?_ ?_
         rotate_left
         ·
          simp only [Act.put, List.setIfInBounds_toArray, List.set_cons_zero, List.set_cons_succ, i64_w, i32_w]
          rfl
         refine pure_ (i := 31) (N := some 86) (v := undef) (a' := ?_) (bm_ 34 4294967295) rfl rfl (any_of HT_.out (by kernel_rfl)) (fun _ _ _ h => h) (Or.inr ⟨by rfl, rfl⟩) ?_ ?_
         rotate_left
         ·
          simp only [Act.put, List.setIfInBounds_toArray, List.set_cons_zero, List.set_cons_succ, i64_w, i32_w]
          rfl
         refine pure_ (i := 32) (N := some 87) (v := undef) (a' := ?_) (bm_ 34 8589934591) rfl rfl (any_of HT_.out (by kernel_rfl)) (fun _ _ _ h => h) (Or.inr ⟨by rfl, rfl⟩) ?_ ?_
         rotate_left
         ·
          simp only [Act.put, List.setIfInBounds_toArray, List.set_cons_zero, List.set_cons_succ, i64_w, i32_w]
          rfl
         refine pu_ 33 (some 88) (bm_ 34 17179869183) rfl HT_ ⟨by rfl, by intro w'; go_simp; with_reducible rfl⟩ ?_
         refine done_ (done_of HT_.out (by kernel_rfl)) ?_
         try go_wp2
         go_meet
         case rel => exact ⟨_, (true), (by first | rfl | (simp; done) | (simp [*]; done)), H', ⟨by have := HJ6.out; first | omega | exact Nat.le_refl _⟩, ⟨by (with_reducible repeat (first | apply Kd.R_alloc | apply Kd.R_drewN | apply Kd.R_drew)); exact HO_7.out⟩, ⟨by refine pw_ ?_; exact BK288.out⟩, ⟨by refine pw_ ?_; exact BK289.out⟩, ⟨by refine pw_ ?_; exact BK290.out⟩, ⟨pb_ HB⟩⟩
        ·
         rw [if_neg c59] at H
         have c59b0 : ((t292.length : Int) == 0) = false := beq_eq_false_iff_ne.mpr c59
         have c59b1 : ((t292.length : Int) != 0) = true := bne_iff_ne.mpr c59
         have c59b2 : ¬ (t292 = []) := fun h_ => c59 (by rw [h_]; rfl)
         replace H := Option.bind_eq_some_iff.mp H
         obtain ⟨t299, A620, H⟩ := H
         replace H : (if (t292.length : Int) > (wrap64 (2 * t299)) then (platbooklaw04_CarveSpreads.j1 kj6 t292 true a0_0 a0_1 a0_2 a1_0 a1_1 a1_2 a2_0 a2_1 a2_2) else (if 0 < (t292.length : Int) then ((prefix_First.f ((rd_T38 t292 0).f0.f0) ((rd_T38 t292 0).f0.f1.f0) ((rd_T38 t292 0).f0.f1.f1) ((rd_T38 t292 0).f1)).bind fun bt301 => (if (!(bt301.1 == a0_0) || ((!(bt301.2.1 == a0_1) || (!(bt301.2.2 == a0_2))))) = true then (platbooklaw04_CarveSpreads.j1 kj6 t292 true a0_0 a0_1 a0_2 a1_0 a1_1 a1_2 a2_0 a2_1 a2_2) else (if 0 ≤ (wrap64 ((t292.length : Int) - 1)) then (if (wrap64 ((t292.length : Int) - 1)) < (t292.length : Int) then ((prefix_Last.f ((rd_T38 t292 (wrap64 ((t292.length : Int) - 1))).f0.f0) ((rd_T38 t292 (wrap64 ((t292.length : Int) - 1))).f0.f1.f0) ((rd_T38 t292 (wrap64 ((t292.length : Int) - 1))).f0.f1.f1) ((rd_T38 t292 (wrap64 ((t292.length : Int) - 1))).f1)).bind fun bt305 => (platbooklaw04_CarveSpreads.j1 kj6 t292 (!(bt305.1 == a1_0) || ((!(bt305.2.1 == a1_1) || (!(bt305.2.2 == a1_2))))) a0_0 a0_1 a0_2 a1_0 a1_1 a1_2 a2_0 a2_1 a2_2)) else (none)) else (none)))) else (none))) = some r := H
         have A62 := Aside0.mk A620
         clear A620
         by_cases c63 : (t292.length : Int) > (wrap64 (2 * t299))
         ·
          rw [if_pos c63] at H
          have c63b0 : decide ((wrap64 (2 * t299)) < (t292.length : Int)) = true := decide_eq_true c63
          clear c63
          have H' := Aside0.mk H
          clear H
          try go_wp2
          replace HO_7 := Aside0.mk (Kd.R_drew HO_7.out)
          replace BK288 := Aside0.mk (blk_drew BK288.out)
          replace BK289 := Aside0.mk (blk_drew BK289.out)
          replace BK290 := Aside0.mk (blk_drew BK290.out)
          replace HB := Aside0.mk (below_drew1 HB.out)
          obtain ⟨Ao65, co65, eo65⟩ := Kd.R_slice HO_7.out
          (first | subst eo65 | (injection eo65 with f1_ f2_ f3_; have f4_ := f1_.symm; have f5_ := f3_.symm; clear f1_ f2_ f3_; subst f4_; subst f5_))
          refine start_ (n := 34) (S := fun w' => w'.cell? ⟨gb288, 0, none⟩ = some (.bool a0_0) ∧ w'.cell? ⟨gb288, 1, none⟩ = some (.int .u64 a0_1) ∧ w'.cell? ⟨gb288, 2, none⟩ = some (.int .u64 a0_2)) (ds := []) (bm_ 34 0) (by kernel_rfl) rfl rfl ⟨kc_ BK288 0, kc_ BK288 1, kc_ BK288 2⟩ (fun hHeld => ?_); refine with_tabW platbooklaw04_CarveSpreads.tab6 platbooklaw04_CarveSpreads.bits6 (fun HT_ HW_ => ?_)
          generalize wc.drew = w64 at HO_7 BK288 BK289 BK290 HB hHeld ⊢
          refine pu_ 0 (some 55) (bm_ 34 1) rfl HT_ ⟨by rfl, by intro w'; go_simp; with_reducible rfl⟩ ?_
          refine pu_ 1 (some 56) (bm_ 34 3) rfl HT_ ⟨by rfl, by intro w'; go_simp; with_reducible rfl⟩ ?_
          refine pu_ 2 (some 57) (bm_ 34 7) rfl HT_ ⟨by rfl, by intro w'; go_simp; with_reducible rfl⟩ ?_
          refine pu_ 3 (some 58) (bm_ 34 15) rfl HT_ ⟨by rfl, by intro w'; go_simp; with_reducible rfl⟩ ?_
          refine pu_ 4 (some 59) (bm_ 34 31) rfl HT_ ⟨by rfl, by intro w'; go_simp; with_reducible rfl⟩ ?_
          refine pu_ 5 (some 60) (bm_ 34 63) rfl HT_ ⟨by rfl, by intro w'; go_simp; with_reducible rfl⟩ ?_
          refine pu_ 6 (some 61) (bm_ 34 127) rfl HT_ ⟨by rfl, by intro w'; go_simp; with_reducible rfl⟩ ?_
          refine pu_ 7 (some 62) (bm_ 34 255) rfl HT_ ⟨by rfl, by intro w'; go_simp; with_reducible rfl⟩ ?_
          refine pu_ 8 (some 63) (bm_ 34 511) rfl HT_ ⟨by rfl, by intro w'; go_simp; with_reducible rfl⟩ ?_
          refine pu_ 9 (some 64) (bm_ 34 1023) rfl HT_ ⟨by rfl, by intro w'; go_simp; with_reducible rfl⟩ ?_
          refine ta_ 10 (some 65) (bm_ 34 2047) rfl HT_ HW_ ⟨by rfl, by rintro w' ⟨s0, s1, s2⟩; go_simp; with_reducible rfl⟩ hHeld ?_
          refine one_ (i := 11) (N := some 66) (bm_ 34 4095) rfl rfl (one_of HT_.out (by kernel_rfl)) (by decide) (fun K hK => ?_)
          refine gr_ Tryz.func22 #[.agg #[.bool a0_0, .int .u64 a0_1, .int .u64 a0_2]] ?_
          with_reducible refine (addr_Width.calls a0_0 a0_1 a0_2 t299 _ A62.out).mono ?_
          rintro e w66 ⟨rfl, hb⟩
          refine ⟨_, rfl, ?_⟩
          replace HO_7 := Aside0.mk (Kd.R_below (by (with_reducible repeat (first | apply Kd.R_alloc | apply Kd.R_drewN | apply Kd.R_drew)); exact HO_7.out) hb)
          replace BK288 := bb_ BK288 hb
          replace BK289 := bb_ BK289 hb
          replace BK290 := bb_ BK290 hb
          replace HB := bs_ HB hb
          (try clear hb)
          (try clear hb2)
          (try clear hk)
          (try clear hi)
          refine hK.out _ _ ⟨kc_ BK288 0, kc_ BK288 1, kc_ BK288 2⟩ (fun hHeld => ?_)
          clear hK K
          refine norm_ (a' := ?_) ?_ ?_
          rotate_left
          ·
           show Act.put _ (some 66) _ = _
           simp only [Act.put, List.setIfInBounds_toArray, List.set_cons_zero, List.set_cons_succ, i64_w, i32_w]
           rfl
          refine pu_ 12 (some 67) (bm_ 34 8191) rfl HT_ ⟨by rfl, by intro w'; go_simp; with_reducible rfl⟩ ?_
          refine pu_ 13 (some 68) (bm_ 34 16383) rfl HT_ ⟨by rfl, by intro w'; go_simp; with_reducible rfl⟩ ?_
          refine pu_ 14 (some 69) (bm_ 34 32767) rfl HT_ ⟨by rfl, by intro w'; go_simp; with_reducible rfl⟩ ?_
          refine pu_ 15 (some 70) (bm_ 34 65535) rfl HT_ ⟨by rfl, by intro w'; go_simp; with_reducible rfl⟩ ?_
          refine pure_ (i := 16) (N := some 71) (v := undef) (a' := ?_) (bm_ 34 131071) rfl rfl (any_of HT_.out (by kernel_rfl)) (fun _ _ _ h => h) (Or.inr ⟨by rfl, rfl⟩) ?_ ?_
          rotate_left
          ·
           simp only [Act.put, List.setIfInBounds_toArray, List.set_cons_zero, List.set_cons_succ, i64_w, i32_w]
           rfl
          refine pure_ (i := 17) (N := some 72) (v := undef) (a' := ?_) (bm_ 34 262143) rfl rfl (any_of HT_.out (by kernel_rfl)) (fun _ _ _ h => h) (Or.inr ⟨by rfl, rfl⟩) ?_ ?_
          rotate_left
          ·
           simp only [Act.put, List.setIfInBounds_toArray, List.set_cons_zero, List.set_cons_succ, i64_w, i32_w]
           rfl
          refine pure_ (i := 18) (N := some 73) (v := undef) (a' := ?_) (bm_ 34 524287) rfl rfl (any_of HT_.out (by kernel_rfl)) (fun _ _ _ h => h) (Or.inr ⟨by rfl, rfl⟩) ?_ ?_
          rotate_left
          ·
           simp only [Act.put, List.setIfInBounds_toArray, List.set_cons_zero, List.set_cons_succ, i64_w, i32_w]
           rfl
          refine pure_ (i := 19) (N := some 74) (v := undef) (a' := ?_) (bm_ 34 1048575) rfl rfl (any_of HT_.out (by kernel_rfl)) (fun _ _ _ h => h) (Or.inr ⟨by rfl, rfl⟩) ?_ ?_
          rotate_left
          ·
           simp only [Act.put, List.setIfInBounds_toArray, List.set_cons_zero, List.set_cons_succ, i64_w, i32_w]
           rfl
          refine pure_ (i := 20) (N := some 75) (v := undef) (a' := ?_) (bm_ 34 2097151) rfl rfl (any_of HT_.out (by kernel_rfl)) (fun _ _ _ h => h) (Or.inr ⟨by rfl, rfl⟩) ?_ ?_
          rotate_left
          ·
           simp only [Act.put, List.setIfInBounds_toArray, List.set_cons_zero, List.set_cons_succ, i64_w, i32_w]
           rfl
          refine pure_ (i := 21) (N := some 76) (v := undef) (a' := ?_) (bm_ 34 4194303) rfl rfl (any_of HT_.out (by kernel_rfl)) (fun _ _ _ h => h) (Or.inr ⟨by rfl, rfl⟩) ?_ ?_
          rotate_left
          ·
           simp only [Act.put, List.setIfInBounds_toArray, List.set_cons_zero, List.set_cons_succ, i64_w, i32_w]
           rfl
          refine pu_ 22 (some 77) (bm_ 34 8388607) rfl HT_ ⟨by rfl, by intro w'; go_simp; with_reducible rfl⟩ ?_
          refine pu_ 23 (some 78) (bm_ 34 16777215) rfl HT_ ⟨by rfl, by intro w'; go_simp; with_reducible rfl⟩ ?_
          refine pure_ (i := 24) (N := some 79) (v := undef) (a' := ?_) (bm_ 34 33554431) rfl rfl (any_of HT_.out (by kernel_rfl)) (fun _ _ _ h => h) (Or.inr ⟨by rfl, rfl⟩) ?_ ?_
          rotate_left
          ·
           simp only [Act.put, List.setIfInBounds_toArray, List.set_cons_zero, List.set_cons_succ, i64_w, i32_w]
           rfl
          refine pure_ (i := 25) (N := some 80) (v := undef) (a' := ?_) (bm_ 34 67108863) rfl rfl (any_of HT_.out (by kernel_rfl)) (fun _ _ _ h => h) (Or.inr ⟨by rfl, rfl⟩) ?_ ?_
          rotate_left
          ·
           simp only [Act.put, List.setIfInBounds_toArray, List.set_cons_zero, List.set_cons_succ, i64_w, i32_w]
           rfl
          refine pure_ (i := 26) (N := some 81) (v := undef) (a' := ?_) (bm_ 34 134217727) rfl rfl (any_of HT_.out (by kernel_rfl)) (fun _ _ _ h => h) (Or.inr ⟨by rfl, rfl⟩) ?_ ?_
          rotate_left
          ·
           simp only [Act.put, List.setIfInBounds_toArray, List.set_cons_zero, List.set_cons_succ, i64_w, i32_w]
           rfl
          refine pure_ (i := 27) (N := some 82) (v := undef) (a' := ?_) (bm_ 34 268435455) rfl rfl (any_of HT_.out (by kernel_rfl)) (fun _ _ _ h => h) (Or.inr ⟨by rfl, rfl⟩) ?_ ?_
          rotate_left
          ·
           simp only [Act.put, List.setIfInBounds_toArray, List.set_cons_zero, List.set_cons_succ, i64_w, i32_w]
           rfl
          refine pure_ (i := 28) (N := some 83) (v := undef) (a' := ?_) (bm_ 34 536870911) rfl rfl (any_of HT_.out (by kernel_rfl)) (fun _ _ _ h => h) (Or.inr ⟨by rfl, rfl⟩) ?_ ?_
          rotate_left
          ·
           simp only [Act.put, List.setIfInBounds_toArray, List.set_cons_zero, List.set_cons_succ, i64_w, i32_w]
           rfl
          refine pure_ (i := 29) (N := some 84) (v := undef) (a' := ?_) (bm_ 34 1073741823) rfl rfl (any_of HT_.out (by kernel_rfl)) (fun _ _ _ h => h) (Or.inr ⟨by rfl, rfl⟩) ?_ ?_
          rotate_left
          ·
           simp only [Act.put, List.setIfInBounds_toArray, List.set_cons_zero, List.set_cons_succ, i64_w, i32_w]
           rfl
          refine pure_ (i := 30) (N := some 85) (v := undef) (a' := ?_) (bm_ 34 2147483647) rfl rfl (any_of HT_.out (by kernel_rfl)) (fun _ _ _ h => h) (Or.inr ⟨by rfl, rfl⟩) ?_ ?_
          rotate_left
          ·
           simp only [Act.put, List.setIfInBounds_toArray, List.set_cons_zero, List.set_cons_succ, i64_w, i32_w]
           rfl
          refine pure_ (i := 31) (N := some 86) (v := undef) (a' := ?_) (bm_ 34 4294967295) rfl rfl (any_of HT_.out (by kernel_rfl)) (fun _ _ _ h => h) (Or.inr ⟨by rfl, rfl⟩) ?_ ?_
          rotate_left
          ·
           simp only [Act.put, List.setIfInBounds_toArray, List.set_cons_zero, List.set_cons_succ, i64_w, i32_w]
           rfl
          refine pure_ (i := 32) (N := some 87) (v := undef) (a' := ?_) (bm_ 34 8589934591) rfl rfl (any_of HT_.out (by kernel_rfl)) (fun _ _ _ h => h) (Or.inr ⟨by rfl, rfl⟩) ?_ ?_
          rotate_left
          ·
           simp only [Act.put, List.setIfInBounds_toArray, List.set_cons_zero, List.set_cons_succ, i64_w, i32_w]
           rfl
          refine pu_ 33 (some 88) (bm_ 34 17179869183) rfl HT_ ⟨by rfl, by intro w'; go_simp; with_reducible rfl⟩ ?_
          refine done_ (done_of HT_.out (by kernel_rfl)) ?_
          try go_wp2
          go_meet
          case rel => exact ⟨_, (true), (by first | rfl | (simp; done) | (simp [*]; done)), H', ⟨by have := HJ6.out; first | omega | exact Nat.le_refl _⟩, ⟨by (with_reducible repeat (first | apply Kd.R_alloc | apply Kd.R_drewN | apply Kd.R_drew)); exact HO_7.out⟩, ⟨by refine pw_ ?_; exact BK288.out⟩, ⟨by refine pw_ ?_; exact BK289.out⟩, ⟨by refine pw_ ?_; exact BK290.out⟩, ⟨pb_ HB⟩⟩
         ·
          rw [if_neg c63] at H
          have c63b0 : decide ((wrap64 (2 * t299)) < (t292.length : Int)) = false := decide_eq_false c63
          clear c63
          by_cases c67 : 0 < (t292.length : Int)
          ·
           rw [if_pos c67] at H
           have c67b0 : decide (0 < (t292.length : Int)) = true := decide_eq_true c67
           have c67b1 : decide (0 < t292.length) = true := decide_eq_true (by omega)
           clear c67
           replace H := Option.bind_eq_some_iff.mp H
           obtain ⟨⟨t301, t302, t303⟩, A680, H⟩ := H
           replace H : (if (!(t301 == a0_0) || ((!(t302 == a0_1) || (!(t303 == a0_2))))) = true then (platbooklaw04_CarveSpreads.j1 kj6 t292 true a0_0 a0_1 a0_2 a1_0 a1_1 a1_2 a2_0 a2_1 a2_2) else (if 0 ≤ (wrap64 ((t292.length : Int) - 1)) then (if (wrap64 ((t292.length : Int) - 1)) < (t292.length : Int) then ((prefix_Last.f ((rd_T38 t292 (wrap64 ((t292.length : Int) - 1))).f0.f0) ((rd_T38 t292 (wrap64 ((t292.length : Int) - 1))).f0.f1.f0) ((rd_T38 t292 (wrap64 ((t292.length : Int) - 1))).f0.f1.f1) ((rd_T38 t292 (wrap64 ((t292.length : Int) - 1))).f1)).bind fun bt305 => (platbooklaw04_CarveSpreads.j1 kj6 t292 (!(bt305.1 == a1_0) || ((!(bt305.2.1 == a1_1) || (!(bt305.2.2 == a1_2))))) a0_0 a0_1 a0_2 a1_0 a1_1 a1_2 a2_0 a2_1 a2_2)) else (none)) else (none))) = some r := H
           have A68 := Aside0.mk A680
           clear A680
           by_cases c69 : (!(t301 == a0_0) || ((!(t302 == a0_1) || (!(t303 == a0_2))))) = true
           ·
            rw [if_pos c69] at H
            have c69b0 : (!(t301 == a0_0) || ((!(t302 == a0_1) || (!(t303 == a0_2))))) = true := c69
            clear c69
            have H' := Aside0.mk H
            clear H
            try go_wp2
            replace HO_7 := Aside0.mk (Kd.R_drew HO_7.out)
            replace BK288 := Aside0.mk (blk_drew BK288.out)
            replace BK289 := Aside0.mk (blk_drew BK289.out)
            replace BK290 := Aside0.mk (blk_drew BK290.out)
            replace HB := Aside0.mk (below_drew1 HB.out)
            obtain ⟨Ao71, co71, eo71⟩ := Kd.R_slice HO_7.out
            (first | subst eo71 | (injection eo71 with f1_ f2_ f3_; have f4_ := f1_.symm; have f5_ := f3_.symm; clear f1_ f2_ f3_; subst f4_; subst f5_))
            have p300 : 0 ≤ (0 : Int) := (by omega)
            have q300 : 0 < (t292.length : Int) := of_decide_eq_true (by first | (with_reducible assumption) | assumption)
            obtain ⟨ad300, e300, hx300_0, hx300_1, hx300_2, hx300_3⟩ := at_T38 (Kd.R_reads' HO_7.out).2.2 0 p300 q300
            cases e300
            have qi300 : (0 < t292.length) = True := eq_true (by omega)
            (try rw [show ((0 : Int)).toNat = 0 from rfl] at hx300_0)
            (try rw [show 0 * 4 = 0 from rfl] at hx300_0)
            (try rw [Addr.add_zero'] at hx300_0)
            (try rw [show ((0 : Int)).toNat = 0 from rfl] at hx300_1)
            (try rw [show 0 * 4 = 0 from rfl] at hx300_1)
            (try rw [Addr.add_zero'] at hx300_1)
            (try rw [show ((0 : Int)).toNat = 0 from rfl] at hx300_2)
            (try rw [show 0 * 4 = 0 from rfl] at hx300_2)
            (try rw [Addr.add_zero'] at hx300_2)
            (try rw [show ((0 : Int)).toNat = 0 from rfl] at hx300_3)
            (try rw [show 0 * 4 = 0 from rfl] at hx300_3)
            (try rw [Addr.add_zero'] at hx300_3)
            replace p300 := eq_true p300
            replace q300 := eq_true q300
            refine start_ (n := 34) (S := fun w' => w'.cell? ⟨gb288, 0, none⟩ = some (.bool a0_0) ∧ w'.cell? ⟨gb288, 1, none⟩ = some (.int .u64 a0_1) ∧ w'.cell? ⟨gb288, 2, none⟩ = some (.int .u64 a0_2) ∧ w'.cell? ad300 = some (.bool ((rd_T38 t292 0).f0.f0)) ∧ w'.cell? ⟨ad300.block, ad300.off + 1, none⟩ = some (.int .u64 ((rd_T38 t292 0).f0.f1.f0)) ∧ w'.cell? ⟨ad300.block, ad300.off + 2, none⟩ = some (.int .u64 ((rd_T38 t292 0).f0.f1.f1)) ∧ w'.cell? ⟨ad300.block, ad300.off + 3, none⟩ = some (.int .i64 ((rd_T38 t292 0).f1))) (ds := []) (bm_ 34 0) (by kernel_rfl) rfl rfl ⟨kc_ BK288 0, kc_ BK288 1, kc_ BK288 2, hx300_0, hx300_1, hx300_2, hx300_3⟩ (fun hHeld => ?_); refine with_tabW platbooklaw04_CarveSpreads.tab6 platbooklaw04_CarveSpreads.bits6 (fun HT_ HW_ => ?_)
            generalize wc.drew = w70 at HO_7 BK288 BK289 BK290 HB hx300_0 hx300_1 hx300_2 hx300_3 hHeld ⊢
            refine pu_ 0 (some 55) (bm_ 34 1) rfl HT_ ⟨by rfl, by intro w'; go_simp; with_reducible rfl⟩ ?_
            refine pu_ 1 (some 56) (bm_ 34 3) rfl HT_ ⟨by rfl, by intro w'; go_simp; with_reducible rfl⟩ ?_
            refine pu_ 2 (some 57) (bm_ 34 7) rfl HT_ ⟨by rfl, by intro w'; go_simp; with_reducible rfl⟩ ?_
            refine pu_ 3 (some 58) (bm_ 34 15) rfl HT_ ⟨by rfl, by intro w'; go_simp; with_reducible rfl⟩ ?_
            refine pu_ 4 (some 59) (bm_ 34 31) rfl HT_ ⟨by rfl, by intro w'; go_simp; with_reducible rfl⟩ ?_
            refine pu_ 5 (some 60) (bm_ 34 63) rfl HT_ ⟨by rfl, by intro w'; go_simp; with_reducible rfl⟩ ?_
            refine pu_ 6 (some 61) (bm_ 34 127) rfl HT_ ⟨by rfl, by intro w'; go_simp; with_reducible rfl⟩ ?_
            refine pu_ 7 (some 62) (bm_ 34 255) rfl HT_ ⟨by rfl, by intro w'; go_simp; with_reducible rfl⟩ ?_
            refine pu_ 8 (some 63) (bm_ 34 511) rfl HT_ ⟨by rfl, by intro w'; go_simp; with_reducible rfl⟩ ?_
            refine pu_ 9 (some 64) (bm_ 34 1023) rfl HT_ ⟨by rfl, by intro w'; go_simp; with_reducible rfl⟩ ?_
            refine ta_ 10 (some 65) (bm_ 34 2047) rfl HT_ HW_ ⟨by rfl, by rintro w' ⟨s0, s1, s2, s3, s4, s5, s6⟩; go_simp; with_reducible rfl⟩ hHeld ?_
            refine one_ (i := 11) (N := some 66) (bm_ 34 4095) rfl rfl (one_of HT_.out (by kernel_rfl)) (by decide) (fun K hK => ?_)
            refine gr_ Tryz.func22 #[.agg #[.bool a0_0, .int .u64 a0_1, .int .u64 a0_2]] ?_
            with_reducible refine (addr_Width.calls a0_0 a0_1 a0_2 t299 _ A62.out).mono ?_
            rintro e w72 ⟨rfl, hb⟩
            have HS3_ := (hb.cell (World.block_lt_of_cell? _ _ (hHeld.2.2.2.1))).trans (hHeld.2.2.2.1)
            have HS4_ := (hb.cell (World.block_lt_of_cell? _ _ (hHeld.2.2.2.2.1))).trans (hHeld.2.2.2.2.1)
            have HS5_ := (hb.cell (World.block_lt_of_cell? _ _ (hHeld.2.2.2.2.2.1))).trans (hHeld.2.2.2.2.2.1)
            have HS6_ := (hb.cell (World.block_lt_of_cell? _ _ (hHeld.2.2.2.2.2.2))).trans (hHeld.2.2.2.2.2.2)
            refine ⟨_, rfl, ?_⟩
            replace HO_7 := Aside0.mk (Kd.R_below (by (with_reducible repeat (first | apply Kd.R_alloc | apply Kd.R_drewN | apply Kd.R_drew)); exact HO_7.out) hb)
            replace BK288 := bb_ BK288 hb
            replace BK289 := bb_ BK289 hb
            replace BK290 := bb_ BK290 hb
            replace HB := bs_ HB hb
            (try clear hb)
            (try clear hb2)
            (try clear hk)
            (try clear hi)
            refine hK.out _ _ ⟨kc_ BK288 0, kc_ BK288 1, kc_ BK288 2, HS3_, HS4_, HS5_, HS6_⟩ (fun hHeld => ?_)
            clear hK K
            refine norm_ (a' := ?_) ?_ ?_
            rotate_left
            ·
             show Act.put _ (some 66) _ = _
             simp only [Act.put, List.setIfInBounds_toArray, List.set_cons_zero, List.set_cons_succ, i64_w, i32_w]
             rfl
            refine pu_ 12 (some 67) (bm_ 34 8191) rfl HT_ ⟨by rfl, by intro w'; go_simp; with_reducible rfl⟩ ?_
            refine pu_ 13 (some 68) (bm_ 34 16383) rfl HT_ ⟨by rfl, by intro w'; go_simp; with_reducible rfl⟩ ?_
            refine pu_ 14 (some 69) (bm_ 34 32767) rfl HT_ ⟨by rfl, by intro w'; go_simp; with_reducible rfl⟩ ?_
            refine pu_ 15 (some 70) (bm_ 34 65535) rfl HT_ ⟨by rfl, by intro w'; go_simp; with_reducible rfl⟩ ?_
            refine pu_ 16 (some 71) (bm_ 34 131071) rfl HT_ ⟨by rfl, by intro w'; go_simp; with_reducible rfl⟩ ?_
            refine pu_ 17 (some 72) (bm_ 34 262143) rfl HT_ ⟨by rfl, by intro w'; go_simp; with_reducible rfl⟩ ?_
            refine ta_ 18 (some 73) (bm_ 34 524287) rfl HT_ HW_ ⟨by rfl, by rintro w' ⟨s0, s1, s2, s3, s4, s5, s6⟩; go_simp; with_reducible rfl⟩ hHeld ?_
            refine ta_ 20 (some 75) (bm_ 34 1572863) rfl HT_ HW_ ⟨by rfl, by rintro w' ⟨s0, s1, s2, s3, s4, s5, s6⟩; go_simp; with_reducible rfl⟩ hHeld ?_
            refine one_ (i := 19) (N := some 74) (bm_ 34 2097151) rfl rfl (one_of HT_.out (by kernel_rfl)) (by decide) (fun K hK => ?_)
            refine gr_ Tryz.func37 #[.agg #[.bool ((rd_T38 t292 0).f0.f0), .int .u64 ((rd_T38 t292 0).f0.f1.f0), .int .u64 ((rd_T38 t292 0).f0.f1.f1), .int .i64 ((rd_T38 t292 0).f1)]] ?_
            with_reducible refine (prefix_First.calls ((rd_T38 t292 0).f0.f0) ((rd_T38 t292 0).f0.f1.f0) ((rd_T38 t292 0).f0.f1.f1) ((rd_T38 t292 0).f1) t301 t302 t303 _ A68.out).mono ?_
            rintro e w73 ⟨rfl, hb⟩
            have HS3_ := (hb.cell (World.block_lt_of_cell? _ _ (hHeld.2.2.2.1))).trans (hHeld.2.2.2.1)
            have HS4_ := (hb.cell (World.block_lt_of_cell? _ _ (hHeld.2.2.2.2.1))).trans (hHeld.2.2.2.2.1)
            have HS5_ := (hb.cell (World.block_lt_of_cell? _ _ (hHeld.2.2.2.2.2.1))).trans (hHeld.2.2.2.2.2.1)
            have HS6_ := (hb.cell (World.block_lt_of_cell? _ _ (hHeld.2.2.2.2.2.2))).trans (hHeld.2.2.2.2.2.2)
            refine ⟨_, rfl, ?_⟩
            replace HO_7 := Aside0.mk (Kd.R_below (by (with_reducible repeat (first | apply Kd.R_alloc | apply Kd.R_drewN | apply Kd.R_drew)); exact HO_7.out) hb)
            replace BK288 := bb_ BK288 hb
            replace BK289 := bb_ BK289 hb
            replace BK290 := bb_ BK290 hb
            replace HB := bs_ HB hb
            (try clear hb)
            (try clear hb2)
            (try clear hk)
            (try clear hi)
            refine hK.out _ _ ⟨kc_ BK288 0, kc_ BK288 1, kc_ BK288 2, HS3_, HS4_, HS5_, HS6_⟩ (fun hHeld => ?_)
            clear hK K
            refine norm_ (a' := ?_) ?_ ?_
            rotate_left
            ·
             show Act.put _ (some 74) _ = _
             simp only [Act.put, List.setIfInBounds_toArray, List.set_cons_zero, List.set_cons_succ, i64_w, i32_w]
             rfl
            refine pu_ 21 (some 76) (bm_ 34 4194303) rfl HT_ ⟨by rfl, by intro w'; go_simp; with_reducible rfl⟩ ?_
            refine pu_ 22 (some 77) (bm_ 34 8388607) rfl HT_ ⟨by rfl, by intro w'; go_simp; with_reducible rfl⟩ ?_
            refine pu_ 23 (some 78) (bm_ 34 16777215) rfl HT_ ⟨by rfl, by intro w'; go_simp; with_reducible rfl⟩ ?_
            refine pure_ (i := 24) (N := some 79) (v := undef) (a' := ?_) (bm_ 34 33554431) rfl rfl (any_of HT_.out (by kernel_rfl)) (fun _ _ _ h => h) (Or.inr ⟨by rfl, rfl⟩) ?_ ?_
            rotate_left
            ·
             simp only [Act.put, List.setIfInBounds_toArray, List.set_cons_zero, List.set_cons_succ, i64_w, i32_w]
             rfl
            refine pure_ (i := 25) (N := some 80) (v := undef) (a' := ?_) (bm_ 34 67108863) rfl rfl (any_of HT_.out (by kernel_rfl)) (fun _ _ _ h => h) (Or.inr ⟨by rfl, rfl⟩) ?_ ?_
            rotate_left
            ·
             simp only [Act.put, List.setIfInBounds_toArray, List.set_cons_zero, List.set_cons_succ, i64_w, i32_w]
             rfl
            refine pure_ (i := 26) (N := some 81) (v := undef) (a' := ?_) (bm_ 34 134217727) rfl rfl (any_of HT_.out (by kernel_rfl)) (fun _ _ _ h => h) (Or.inr ⟨by rfl, rfl⟩) ?_ ?_
            rotate_left
            ·
             simp only [Act.put, List.setIfInBounds_toArray, List.set_cons_zero, List.set_cons_succ, i64_w, i32_w]
             rfl
            refine pure_ (i := 27) (N := some 82) (v := undef) (a' := ?_) (bm_ 34 268435455) rfl rfl (any_of HT_.out (by kernel_rfl)) (fun _ _ _ h => h) (Or.inr ⟨by rfl, rfl⟩) ?_ ?_
            rotate_left
            ·
             simp only [Act.put, List.setIfInBounds_toArray, List.set_cons_zero, List.set_cons_succ, i64_w, i32_w]
             rfl
            refine pure_ (i := 28) (N := some 83) (v := undef) (a' := ?_) (bm_ 34 536870911) rfl rfl (any_of HT_.out (by kernel_rfl)) (fun _ _ _ h => h) (Or.inr ⟨by rfl, rfl⟩) ?_ ?_
            rotate_left
            ·
             simp only [Act.put, List.setIfInBounds_toArray, List.set_cons_zero, List.set_cons_succ, i64_w, i32_w]
             rfl
            refine pure_ (i := 29) (N := some 84) (v := undef) (a' := ?_) (bm_ 34 1073741823) rfl rfl (any_of HT_.out (by kernel_rfl)) (fun _ _ _ h => h) (Or.inr ⟨by rfl, rfl⟩) ?_ ?_
            rotate_left
            ·
             simp only [Act.put, List.setIfInBounds_toArray, List.set_cons_zero, List.set_cons_succ, i64_w, i32_w]
             rfl
            refine pure_ (i := 30) (N := some 85) (v := undef) (a' := ?_) (bm_ 34 2147483647) rfl rfl (any_of HT_.out (by kernel_rfl)) (fun _ _ _ h => h) (Or.inr ⟨by rfl, rfl⟩) ?_ ?_
            rotate_left
            ·
             simp only [Act.put, List.setIfInBounds_toArray, List.set_cons_zero, List.set_cons_succ, i64_w, i32_w]
             rfl
            refine pure_ (i := 31) (N := some 86) (v := undef) (a' := ?_) (bm_ 34 4294967295) rfl rfl (any_of HT_.out (by kernel_rfl)) (fun _ _ _ h => h) (Or.inr ⟨by rfl, rfl⟩) ?_ ?_
            rotate_left
            ·
             simp only [Act.put, List.setIfInBounds_toArray, List.set_cons_zero, List.set_cons_succ, i64_w, i32_w]
             rfl
            refine pure_ (i := 32) (N := some 87) (v := undef) (a' := ?_) (bm_ 34 8589934591) rfl rfl (any_of HT_.out (by kernel_rfl)) (fun _ _ _ h => h) (Or.inr ⟨by rfl, rfl⟩) ?_ ?_
            rotate_left
            ·
             simp only [Act.put, List.setIfInBounds_toArray, List.set_cons_zero, List.set_cons_succ, i64_w, i32_w]
             rfl
            refine pu_ 33 (some 88) (bm_ 34 17179869183) rfl HT_ ⟨by rfl, by intro w'; go_simp; with_reducible rfl⟩ ?_
            refine done_ (done_of HT_.out (by kernel_rfl)) ?_
            try go_wp2
            go_meet
            case rel => exact ⟨_, (true), (by first | rfl | (simp; done) | (simp [*]; done)), H', ⟨by have := HJ6.out; first | omega | exact Nat.le_refl _⟩, ⟨by (with_reducible repeat (first | apply Kd.R_alloc | apply Kd.R_drewN | apply Kd.R_drew)); exact HO_7.out⟩, ⟨by refine pw_ ?_; exact BK288.out⟩, ⟨by refine pw_ ?_; exact BK289.out⟩, ⟨by refine pw_ ?_; exact BK290.out⟩, ⟨pb_ HB⟩⟩
           ·
            rw [if_neg c69] at H
            have c69b0 : (!(t301 == a0_0) || ((!(t302 == a0_1) || (!(t303 == a0_2))))) = false := by simpa using c69
            clear c69
            obtain ⟨ji74, hji74⟩ : ∃ j_ : Int, (wrap64 ((t292.length : Int) - 1)) = j_ := ⟨_, rfl⟩
            replace H : (if 0 ≤ (ji74) then (if (ji74) < (t292.length : Int) then ((prefix_Last.f ((rd_T38 t292 (ji74)).f0.f0) ((rd_T38 t292 (ji74)).f0.f1.f0) ((rd_T38 t292 (ji74)).f0.f1.f1) ((rd_T38 t292 (ji74)).f1)).bind fun bt305 => (platbooklaw04_CarveSpreads.j1 kj6 t292 (!(bt305.1 == a1_0) || ((!(bt305.2.1 == a1_1) || (!(bt305.2.2 == a1_2))))) a0_0 a0_1 a0_2 a1_0 a1_1 a1_2 a2_0 a2_1 a2_2)) else (none)) else (none)) = some r := by first | (rw [hji74] at H; exact H) | (simp only [hji74] at H ⊢; exact H)
            (try rw [hji74] at A62)
            (try rw [hji74] at A68)
            have hji74w : (IntKind.i64.wrap ((t292.length : Int) - 1)) = ji74 := (i64_w _).trans hji74
            by_cases c75 : 0 ≤ (ji74)
            ·
             rw [if_pos c75] at H
             have c75b0 : decide (0 ≤ (ji74)) = true := decide_eq_true c75
             clear c75
             by_cases c76 : (ji74) < (t292.length : Int)
             ·
              rw [if_pos c76] at H
              have c76b0 : decide ((ji74) < (t292.length : Int)) = true := decide_eq_true c76
              clear c76
              replace H := Option.bind_eq_some_iff.mp H
              obtain ⟨⟨t305, t306, t307⟩, A770, H⟩ := H
              replace H : (platbooklaw04_CarveSpreads.j1 kj6 t292 (!(t305 == a1_0) || ((!(t306 == a1_1) || (!(t307 == a1_2))))) a0_0 a0_1 a0_2 a1_0 a1_1 a1_2 a2_0 a2_1 a2_2) = some r := H
              have A77 := Aside0.mk A770
              clear A770
              have H' := Aside0.mk H
              clear H
              try go_wp2
              replace HO_7 := Aside0.mk (Kd.R_drew HO_7.out)
              replace BK288 := Aside0.mk (blk_drew BK288.out)
              replace BK289 := Aside0.mk (blk_drew BK289.out)
              replace BK290 := Aside0.mk (blk_drew BK290.out)
              replace HB := Aside0.mk (below_drew1 HB.out)
              obtain ⟨Ao79, co79, eo79⟩ := Kd.R_slice HO_7.out
              (first | subst eo79 | (injection eo79 with f1_ f2_ f3_; have f4_ := f1_.symm; have f5_ := f3_.symm; clear f1_ f2_ f3_; subst f4_; subst f5_))
              have p300 : 0 ≤ (0 : Int) := (by omega)
              have q300 : 0 < (t292.length : Int) := of_decide_eq_true (by first | (with_reducible assumption) | assumption)
              obtain ⟨ad300, e300, hx300_0, hx300_1, hx300_2, hx300_3⟩ := at_T38 (Kd.R_reads' HO_7.out).2.2 0 p300 q300
              cases e300
              have qi300 : (0 < t292.length) = True := eq_true (by omega)
              (try rw [show ((0 : Int)).toNat = 0 from rfl] at hx300_0)
              (try rw [show 0 * 4 = 0 from rfl] at hx300_0)
              (try rw [Addr.add_zero'] at hx300_0)
              (try rw [show ((0 : Int)).toNat = 0 from rfl] at hx300_1)
              (try rw [show 0 * 4 = 0 from rfl] at hx300_1)
              (try rw [Addr.add_zero'] at hx300_1)
              (try rw [show ((0 : Int)).toNat = 0 from rfl] at hx300_2)
              (try rw [show 0 * 4 = 0 from rfl] at hx300_2)
              (try rw [Addr.add_zero'] at hx300_2)
              (try rw [show ((0 : Int)).toNat = 0 from rfl] at hx300_3)
              (try rw [show 0 * 4 = 0 from rfl] at hx300_3)
              (try rw [Addr.add_zero'] at hx300_3)
              replace p300 := eq_true p300
              replace q300 := eq_true q300
              have p304 : 0 ≤ ((ji74) : Int) := of_decide_eq_true (by first | (with_reducible assumption) | assumption)
              have q304 : (ji74) < (t292.length : Int) := of_decide_eq_true (by first | (with_reducible assumption) | assumption)
              obtain ⟨ad304, e304, hx304_0, hx304_1, hx304_2, hx304_3⟩ := at_T38 (Kd.R_reads' HO_7.out).2.2 (ji74) p304 q304
              obtain rfl : ad300 = ad304 := (by injection e304)
              replace p304 := eq_true p304
              replace q304 := eq_true q304
              refine start_ (n := 34) (S := fun w' => w'.cell? ⟨gb288, 0, none⟩ = some (.bool a0_0) ∧ w'.cell? ⟨gb288, 1, none⟩ = some (.int .u64 a0_1) ∧ w'.cell? ⟨gb288, 2, none⟩ = some (.int .u64 a0_2) ∧ w'.cell? ⟨gb289, 0, none⟩ = some (.bool a1_0) ∧ w'.cell? ⟨gb289, 1, none⟩ = some (.int .u64 a1_1) ∧ w'.cell? ⟨gb289, 2, none⟩ = some (.int .u64 a1_2) ∧ w'.cell? ad300 = some (.bool ((rd_T38 t292 0).f0.f0)) ∧ w'.cell? ⟨ad300.block, ad300.off + 1, none⟩ = some (.int .u64 ((rd_T38 t292 0).f0.f1.f0)) ∧ w'.cell? ⟨ad300.block, ad300.off + 2, none⟩ = some (.int .u64 ((rd_T38 t292 0).f0.f1.f1)) ∧ w'.cell? ⟨ad300.block, ad300.off + 3, none⟩ = some (.int .i64 ((rd_T38 t292 0).f1)) ∧ w'.cell? (ad300.add (((ji74)).toNat * 4)) = some (.bool ((rd_T38 t292 (ji74)).f0.f0)) ∧ w'.cell? ⟨(ad300.add (((ji74)).toNat * 4)).block, (ad300.add (((ji74)).toNat * 4)).off + 1, none⟩ = some (.int .u64 ((rd_T38 t292 (ji74)).f0.f1.f0)) ∧ w'.cell? ⟨(ad300.add (((ji74)).toNat * 4)).block, (ad300.add (((ji74)).toNat * 4)).off + 2, none⟩ = some (.int .u64 ((rd_T38 t292 (ji74)).f0.f1.f1)) ∧ w'.cell? ⟨(ad300.add (((ji74)).toNat * 4)).block, (ad300.add (((ji74)).toNat * 4)).off + 3, none⟩ = some (.int .i64 ((rd_T38 t292 (ji74)).f1))) (ds := []) (bm_ 34 0) (by kernel_rfl) rfl rfl ⟨kc_ BK288 0, kc_ BK288 1, kc_ BK288 2, kc_ BK289 0, kc_ BK289 1, kc_ BK289 2, hx300_0, hx300_1, hx300_2, hx300_3, hx304_0, hx304_1, hx304_2, hx304_3⟩ (fun hHeld => ?_); refine with_tabW platbooklaw04_CarveSpreads.tab6 platbooklaw04_CarveSpreads.bits6 (fun HT_ HW_ => ?_)
              generalize wc.drew = w78 at HO_7 BK288 BK289 BK290 HB hx300_0 hx300_1 hx300_2 hx300_3 hx304_0 hx304_1 hx304_2 hx304_3 hHeld ⊢
              refine pu_ 0 (some 55) (bm_ 34 1) rfl HT_ ⟨by rfl, by intro w'; go_simp; with_reducible rfl⟩ ?_
              refine pu_ 1 (some 56) (bm_ 34 3) rfl HT_ ⟨by rfl, by intro w'; go_simp; with_reducible rfl⟩ ?_
              refine pu_ 2 (some 57) (bm_ 34 7) rfl HT_ ⟨by rfl, by intro w'; go_simp; with_reducible rfl⟩ ?_
              refine pu_ 3 (some 58) (bm_ 34 15) rfl HT_ ⟨by rfl, by intro w'; go_simp; with_reducible rfl⟩ ?_
              refine pu_ 4 (some 59) (bm_ 34 31) rfl HT_ ⟨by rfl, by intro w'; go_simp; with_reducible rfl⟩ ?_
              refine pu_ 5 (some 60) (bm_ 34 63) rfl HT_ ⟨by rfl, by intro w'; go_simp; with_reducible rfl⟩ ?_
              refine pu_ 6 (some 61) (bm_ 34 127) rfl HT_ ⟨by rfl, by intro w'; go_simp; with_reducible rfl⟩ ?_
              refine pu_ 7 (some 62) (bm_ 34 255) rfl HT_ ⟨by rfl, by intro w'; go_simp; with_reducible rfl⟩ ?_
              refine pu_ 8 (some 63) (bm_ 34 511) rfl HT_ ⟨by rfl, by intro w'; go_simp; with_reducible rfl⟩ ?_
              refine pu_ 9 (some 64) (bm_ 34 1023) rfl HT_ ⟨by rfl, by intro w'; go_simp; with_reducible rfl⟩ ?_
              refine ta_ 10 (some 65) (bm_ 34 2047) rfl HT_ HW_ ⟨by rfl, by rintro w' ⟨s0, s1, s2, s3, s4, s5, s6, s7, s8, s9, s10, s11, s12, s13⟩; go_simp; with_reducible rfl⟩ hHeld ?_
              refine one_ (i := 11) (N := some 66) (bm_ 34 4095) rfl rfl (one_of HT_.out (by kernel_rfl)) (by decide) (fun K hK => ?_)
              refine gr_ Tryz.func22 #[.agg #[.bool a0_0, .int .u64 a0_1, .int .u64 a0_2]] ?_
              with_reducible refine (addr_Width.calls a0_0 a0_1 a0_2 t299 _ A62.out).mono ?_
              rintro e w80 ⟨rfl, hb⟩
              have HS6_ := (hb.cell (World.block_lt_of_cell? _ _ (hHeld.2.2.2.2.2.2.1))).trans (hHeld.2.2.2.2.2.2.1)
              have HS7_ := (hb.cell (World.block_lt_of_cell? _ _ (hHeld.2.2.2.2.2.2.2.1))).trans (hHeld.2.2.2.2.2.2.2.1)
              have HS8_ := (hb.cell (World.block_lt_of_cell? _ _ (hHeld.2.2.2.2.2.2.2.2.1))).trans (hHeld.2.2.2.2.2.2.2.2.1)
              have HS9_ := (hb.cell (World.block_lt_of_cell? _ _ (hHeld.2.2.2.2.2.2.2.2.2.1))).trans (hHeld.2.2.2.2.2.2.2.2.2.1)
              have HS10_ := (hb.cell (World.block_lt_of_cell? _ _ (hHeld.2.2.2.2.2.2.2.2.2.2.1))).trans (hHeld.2.2.2.2.2.2.2.2.2.2.1)
              have HS11_ := (hb.cell (World.block_lt_of_cell? _ _ (hHeld.2.2.2.2.2.2.2.2.2.2.2.1))).trans (hHeld.2.2.2.2.2.2.2.2.2.2.2.1)
              have HS12_ := (hb.cell (World.block_lt_of_cell? _ _ (hHeld.2.2.2.2.2.2.2.2.2.2.2.2.1))).trans (hHeld.2.2.2.2.2.2.2.2.2.2.2.2.1)
              have HS13_ := (hb.cell (World.block_lt_of_cell? _ _ (hHeld.2.2.2.2.2.2.2.2.2.2.2.2.2))).trans (hHeld.2.2.2.2.2.2.2.2.2.2.2.2.2)
              refine ⟨_, rfl, ?_⟩
              replace HO_7 := Aside0.mk (Kd.R_below (by (with_reducible repeat (first | apply Kd.R_alloc | apply Kd.R_drewN | apply Kd.R_drew)); exact HO_7.out) hb)
              replace BK288 := bb_ BK288 hb
              replace BK289 := bb_ BK289 hb
              replace BK290 := bb_ BK290 hb
              replace HB := bs_ HB hb
              (try clear hb)
              (try clear hb2)
              (try clear hk)
              (try clear hi)
              refine hK.out _ _ ⟨kc_ BK288 0, kc_ BK288 1, kc_ BK288 2, kc_ BK289 0, kc_ BK289 1, kc_ BK289 2, HS6_, HS7_, HS8_, HS9_, HS10_, HS11_, HS12_, HS13_⟩ (fun hHeld => ?_)
              clear hK K
              refine norm_ (a' := ?_) ?_ ?_
              rotate_left
              ·
               show Act.put _ (some 66) _ = _
               simp only [Act.put, List.setIfInBounds_toArray, List.set_cons_zero, List.set_cons_succ, i64_w, i32_w]
               rfl
              refine pu_ 12 (some 67) (bm_ 34 8191) rfl HT_ ⟨by rfl, by intro w'; go_simp; with_reducible rfl⟩ ?_
              refine pu_ 13 (some 68) (bm_ 34 16383) rfl HT_ ⟨by rfl, by intro w'; go_simp; with_reducible rfl⟩ ?_
              refine pu_ 14 (some 69) (bm_ 34 32767) rfl HT_ ⟨by rfl, by intro w'; go_simp; with_reducible rfl⟩ ?_
              refine pu_ 15 (some 70) (bm_ 34 65535) rfl HT_ ⟨by rfl, by intro w'; go_simp; with_reducible rfl⟩ ?_
              refine pu_ 16 (some 71) (bm_ 34 131071) rfl HT_ ⟨by rfl, by intro w'; go_simp; with_reducible rfl⟩ ?_
              refine pu_ 17 (some 72) (bm_ 34 262143) rfl HT_ ⟨by rfl, by intro w'; go_simp; with_reducible rfl⟩ ?_
              refine ta_ 18 (some 73) (bm_ 34 524287) rfl HT_ HW_ ⟨by rfl, by rintro w' ⟨s0, s1, s2, s3, s4, s5, s6, s7, s8, s9, s10, s11, s12, s13⟩; go_simp; with_reducible rfl⟩ hHeld ?_
              refine ta_ 20 (some 75) (bm_ 34 1572863) rfl HT_ HW_ ⟨by rfl, by rintro w' ⟨s0, s1, s2, s3, s4, s5, s6, s7, s8, s9, s10, s11, s12, s13⟩; go_simp; with_reducible rfl⟩ hHeld ?_
              refine one_ (i := 19) (N := some 74) (bm_ 34 2097151) rfl rfl (one_of HT_.out (by kernel_rfl)) (by decide) (fun K hK => ?_)
              refine gr_ Tryz.func37 #[.agg #[.bool ((rd_T38 t292 0).f0.f0), .int .u64 ((rd_T38 t292 0).f0.f1.f0), .int .u64 ((rd_T38 t292 0).f0.f1.f1), .int .i64 ((rd_T38 t292 0).f1)]] ?_
              with_reducible refine (prefix_First.calls ((rd_T38 t292 0).f0.f0) ((rd_T38 t292 0).f0.f1.f0) ((rd_T38 t292 0).f0.f1.f1) ((rd_T38 t292 0).f1) t301 t302 t303 _ A68.out).mono ?_
              rintro e w81 ⟨rfl, hb⟩
              have HS6_ := (hb.cell (World.block_lt_of_cell? _ _ (hHeld.2.2.2.2.2.2.1))).trans (hHeld.2.2.2.2.2.2.1)
              have HS7_ := (hb.cell (World.block_lt_of_cell? _ _ (hHeld.2.2.2.2.2.2.2.1))).trans (hHeld.2.2.2.2.2.2.2.1)
              have HS8_ := (hb.cell (World.block_lt_of_cell? _ _ (hHeld.2.2.2.2.2.2.2.2.1))).trans (hHeld.2.2.2.2.2.2.2.2.1)
              have HS9_ := (hb.cell (World.block_lt_of_cell? _ _ (hHeld.2.2.2.2.2.2.2.2.2.1))).trans (hHeld.2.2.2.2.2.2.2.2.2.1)
              have HS10_ := (hb.cell (World.block_lt_of_cell? _ _ (hHeld.2.2.2.2.2.2.2.2.2.2.1))).trans (hHeld.2.2.2.2.2.2.2.2.2.2.1)
              have HS11_ := (hb.cell (World.block_lt_of_cell? _ _ (hHeld.2.2.2.2.2.2.2.2.2.2.2.1))).trans (hHeld.2.2.2.2.2.2.2.2.2.2.2.1)
              have HS12_ := (hb.cell (World.block_lt_of_cell? _ _ (hHeld.2.2.2.2.2.2.2.2.2.2.2.2.1))).trans (hHeld.2.2.2.2.2.2.2.2.2.2.2.2.1)
              have HS13_ := (hb.cell (World.block_lt_of_cell? _ _ (hHeld.2.2.2.2.2.2.2.2.2.2.2.2.2))).trans (hHeld.2.2.2.2.2.2.2.2.2.2.2.2.2)
              refine ⟨_, rfl, ?_⟩
              replace HO_7 := Aside0.mk (Kd.R_below (by (with_reducible repeat (first | apply Kd.R_alloc | apply Kd.R_drewN | apply Kd.R_drew)); exact HO_7.out) hb)
              replace BK288 := bb_ BK288 hb
              replace BK289 := bb_ BK289 hb
              replace BK290 := bb_ BK290 hb
              replace HB := bs_ HB hb
              (try clear hb)
              (try clear hb2)
              (try clear hk)
              (try clear hi)
              refine hK.out _ _ ⟨kc_ BK288 0, kc_ BK288 1, kc_ BK288 2, kc_ BK289 0, kc_ BK289 1, kc_ BK289 2, HS6_, HS7_, HS8_, HS9_, HS10_, HS11_, HS12_, HS13_⟩ (fun hHeld => ?_)
              clear hK K
              refine norm_ (a' := ?_) ?_ ?_
              rotate_left
              ·
               show Act.put _ (some 74) _ = _
               simp only [Act.put, List.setIfInBounds_toArray, List.set_cons_zero, List.set_cons_succ, i64_w, i32_w]
               rfl
              refine pu_ 21 (some 76) (bm_ 34 4194303) rfl HT_ ⟨by rfl, by intro w'; go_simp; with_reducible rfl⟩ ?_
              refine pu_ 22 (some 77) (bm_ 34 8388607) rfl HT_ ⟨by rfl, by intro w'; go_simp; with_reducible rfl⟩ ?_
              refine pu_ 23 (some 78) (bm_ 34 16777215) rfl HT_ ⟨by rfl, by intro w'; go_simp; with_reducible rfl⟩ ?_
              refine pu_ 24 (some 79) (bm_ 34 33554431) rfl HT_ ⟨by rfl, by intro w'; go_simp; with_reducible rfl⟩ ?_
              refine pu_ 25 (some 80) (bm_ 34 67108863) rfl HT_ ⟨by rfl, by intro w'; go_simp; with_reducible rfl⟩ ?_
              refine pu_ 26 (some 81) (bm_ 34 134217727) rfl HT_ ⟨by rfl, by intro w'; go_simp; with_reducible rfl⟩ ?_
              refine pu_ 27 (some 82) (bm_ 34 268435455) rfl HT_ ⟨by rfl, by intro w'; go_simp; with_reducible rfl⟩ ?_
              refine pu_ 28 (some 83) (bm_ 34 536870911) rfl HT_ ⟨by rfl, by intro w'; go_simp; with_reducible rfl⟩ ?_
              refine ta_ 29 (some 84) (bm_ 34 1073741823) rfl HT_ HW_ ⟨by rfl, by rintro w' ⟨s0, s1, s2, s3, s4, s5, s6, s7, s8, s9, s10, s11, s12, s13⟩; go_simp; with_reducible rfl⟩ hHeld ?_
              refine ta_ 31 (some 86) (bm_ 34 3221225471) rfl HT_ HW_ ⟨by rfl, by rintro w' ⟨s0, s1, s2, s3, s4, s5, s6, s7, s8, s9, s10, s11, s12, s13⟩; go_simp; with_reducible rfl⟩ hHeld ?_
              refine one_ (i := 30) (N := some 85) (bm_ 34 4294967295) rfl rfl (one_of HT_.out (by kernel_rfl)) (by decide) (fun K hK => ?_)
              refine goes_ Tryz.func38 (by kernel_rfl) rfl #[.agg #[.bool ((rd_T38 t292 (ji74)).f0.f0), .int .u64 ((rd_T38 t292 (ji74)).f0.f1.f0), .int .u64 ((rd_T38 t292 (ji74)).f0.f1.f1), .int .i64 ((rd_T38 t292 (ji74)).f1)]] (by rfl) rfl rfl (by (try simp only [List.map_toArray, List.map_cons, List.map_nil]); first | done | (simp only [hji74]; rfl) | rfl | (simp only [List.length_drop, List.length_take]; rfl)) ?_
              with_reducible refine (prefix_Last.calls ((rd_T38 t292 (ji74)).f0.f0) ((rd_T38 t292 (ji74)).f0.f1.f0) ((rd_T38 t292 (ji74)).f0.f1.f1) ((rd_T38 t292 (ji74)).f1) t305 t306 t307 _ A77.out).mono ?_
              rintro e w82 ⟨rfl, hb⟩
              have HS6_ := (hb.cell (World.block_lt_of_cell? _ _ (hHeld.2.2.2.2.2.2.1))).trans (hHeld.2.2.2.2.2.2.1)
              have HS7_ := (hb.cell (World.block_lt_of_cell? _ _ (hHeld.2.2.2.2.2.2.2.1))).trans (hHeld.2.2.2.2.2.2.2.1)
              have HS8_ := (hb.cell (World.block_lt_of_cell? _ _ (hHeld.2.2.2.2.2.2.2.2.1))).trans (hHeld.2.2.2.2.2.2.2.2.1)
              have HS9_ := (hb.cell (World.block_lt_of_cell? _ _ (hHeld.2.2.2.2.2.2.2.2.2.1))).trans (hHeld.2.2.2.2.2.2.2.2.2.1)
              have HS10_ := (hb.cell (World.block_lt_of_cell? _ _ (hHeld.2.2.2.2.2.2.2.2.2.2.1))).trans (hHeld.2.2.2.2.2.2.2.2.2.2.1)
              have HS11_ := (hb.cell (World.block_lt_of_cell? _ _ (hHeld.2.2.2.2.2.2.2.2.2.2.2.1))).trans (hHeld.2.2.2.2.2.2.2.2.2.2.2.1)
              have HS12_ := (hb.cell (World.block_lt_of_cell? _ _ (hHeld.2.2.2.2.2.2.2.2.2.2.2.2.1))).trans (hHeld.2.2.2.2.2.2.2.2.2.2.2.2.1)
              have HS13_ := (hb.cell (World.block_lt_of_cell? _ _ (hHeld.2.2.2.2.2.2.2.2.2.2.2.2.2))).trans (hHeld.2.2.2.2.2.2.2.2.2.2.2.2.2)
              refine ⟨_, rfl, ?_⟩
              replace HO_7 := Aside0.mk (Kd.R_below (by (with_reducible repeat (first | apply Kd.R_alloc | apply Kd.R_drewN | apply Kd.R_drew)); exact HO_7.out) hb)
              replace BK288 := bb_ BK288 hb
              replace BK289 := bb_ BK289 hb
              replace BK290 := bb_ BK290 hb
              replace HB := bs_ HB hb
              (try clear hb)
              (try clear hb2)
              (try clear hk)
              (try clear hi)
              refine hK.out _ _ ⟨kc_ BK288 0, kc_ BK288 1, kc_ BK288 2, kc_ BK289 0, kc_ BK289 1, kc_ BK289 2, HS6_, HS7_, HS8_, HS9_, HS10_, HS11_, HS12_, HS13_⟩ (fun hHeld => ?_)
              clear hK K
              refine norm_ (a' := ?_) ?_ ?_
              rotate_left
              ·
               show Act.put _ (some 85) _ = _
               simp only [Act.put, List.setIfInBounds_toArray, List.set_cons_zero, List.set_cons_succ, i64_w, i32_w]
               rfl
              refine pu_ 32 (some 87) (bm_ 34 8589934591) rfl HT_ ⟨by rfl, by intro w'; go_simp; with_reducible rfl⟩ ?_
              refine pu_ 33 (some 88) (bm_ 34 17179869183) rfl HT_ ⟨by rfl, by intro w'; go_simp; with_reducible rfl⟩ ?_
              refine done_ (done_of HT_.out (by kernel_rfl)) ?_
              try go_wp2
              go_meet
              case rel => exact ⟨_, ((!(t305 == a1_0) || ((!(t306 == a1_1) || (!(t307 == a1_2)))))), (by first | rfl | (simp; done) | (simp [*]; done)), H', ⟨by have := HJ6.out; first | omega | exact Nat.le_refl _⟩, ⟨by (with_reducible repeat (first | apply Kd.R_alloc | apply Kd.R_drewN | apply Kd.R_drew)); exact HO_7.out⟩, ⟨by refine pw_ ?_; exact BK288.out⟩, ⟨by refine pw_ ?_; exact BK289.out⟩, ⟨by refine pw_ ?_; exact BK290.out⟩, ⟨pb_ HB⟩⟩
             ·
              rw [if_neg c76] at H
              exact absurd H (by simp)
            ·
             rw [if_neg c75] at H
             exact absurd H (by simp)
          ·
           rw [if_neg c67] at H
           exact absurd H (by simp)
       ·
        rw [if_neg c58] at H
        have c58b0 : (t295 == 0) = false := beq_eq_false_iff_ne.mpr c58
        have c58b1 : (t295 != 0) = true := bne_iff_ne.mpr c58
        (first | rw [c58b0] | (simp only [i64_w, i32_w]; rw [c58b0]) | skip)
        have H' := Aside0.mk H
        clear H
        try go_wp2
        replace HO_7 := Aside0.mk (Kd.R_drew HO_7.out)
        replace BK288 := Aside0.mk (blk_drew BK288.out)
        replace BK289 := Aside0.mk (blk_drew BK289.out)
        replace BK290 := Aside0.mk (blk_drew BK290.out)
        replace HB := Aside0.mk (below_drew1 HB.out)
        refine start_ (n := 34) (S := fun w' => True) (ds := []) (bm_ 34 0) (by kernel_rfl) rfl rfl trivial (fun hHeld => ?_); refine with_tabW platbooklaw04_CarveSpreads.tab6 platbooklaw04_CarveSpreads.bits6 (fun HT_ HW_ => ?_)
        generalize wc.drew = w83 at HO_7 BK288 BK289 BK290 HB hHeld ⊢
        refine pu_ 0 (some 55) (bm_ 34 1) rfl HT_ ⟨by rfl, by intro w'; go_simp; with_reducible rfl⟩ ?_
        refine pu_ 1 (some 56) (bm_ 34 3) rfl HT_ ⟨by rfl, by intro w'; go_simp; with_reducible rfl⟩ ?_
        refine pu_ 2 (some 57) (bm_ 34 7) rfl HT_ ⟨by rfl, by intro w'; go_simp; with_reducible rfl⟩ ?_
        refine pure_ (i := 3) (N := some 58) (v := undef) (a' := ?_) (bm_ 34 15) rfl rfl (any_of HT_.out (by kernel_rfl)) (fun _ _ _ h => h) (Or.inr ⟨by rfl, rfl⟩) ?_ ?_
        rotate_left
        ·
         simp only [Act.put, List.setIfInBounds_toArray, List.set_cons_zero, List.set_cons_succ, i64_w, i32_w]
         rfl
        refine pure_ (i := 4) (N := some 59) (v := undef) (a' := ?_) (bm_ 34 31) rfl rfl (any_of HT_.out (by kernel_rfl)) (fun _ _ _ h => h) (Or.inr ⟨by rfl, rfl⟩) ?_ ?_
        rotate_left
        ·
         simp only [Act.put, List.setIfInBounds_toArray, List.set_cons_zero, List.set_cons_succ, i64_w, i32_w]
         rfl
        refine pure_ (i := 5) (N := some 60) (v := undef) (a' := ?_) (bm_ 34 63) rfl rfl (any_of HT_.out (by kernel_rfl)) (fun _ _ _ h => h) (Or.inr ⟨by rfl, rfl⟩) ?_ ?_
        rotate_left
        ·
         simp only [Act.put, List.setIfInBounds_toArray, List.set_cons_zero, List.set_cons_succ, i64_w, i32_w]
         rfl
        refine pu_ 6 (some 61) (bm_ 34 127) rfl HT_ ⟨by rfl, by intro w'; go_simp; with_reducible rfl⟩ ?_
        refine pu_ 7 (some 62) (bm_ 34 255) rfl HT_ ⟨by rfl, by intro w'; go_simp; with_reducible rfl⟩ ?_
        refine pure_ (i := 8) (N := some 63) (v := undef) (a' := ?_) (bm_ 34 511) rfl rfl (any_of HT_.out (by kernel_rfl)) (fun _ _ _ h => h) (Or.inr ⟨by rfl, rfl⟩) ?_ ?_
        rotate_left
        ·
         simp only [Act.put, List.setIfInBounds_toArray, List.set_cons_zero, List.set_cons_succ, i64_w, i32_w]
         rfl
        refine pure_ (i := 9) (N := some 64) (v := undef) (a' := ?_) (bm_ 34 1023) rfl rfl (any_of HT_.out (by kernel_rfl)) (fun _ _ _ h => h) (Or.inr ⟨by rfl, rfl⟩) ?_ ?_
        rotate_left
        ·
         simp only [Act.put, List.setIfInBounds_toArray, List.set_cons_zero, List.set_cons_succ, i64_w, i32_w]
         rfl
        refine pure_ (i := 10) (N := some 65) (v := undef) (a' := ?_) (bm_ 34 2047) rfl rfl (any_of HT_.out (by kernel_rfl)) (fun _ _ _ h => h) (Or.inr ⟨by rfl, rfl⟩) ?_ ?_
        rotate_left
        ·
         simp only [Act.put, List.setIfInBounds_toArray, List.set_cons_zero, List.set_cons_succ, i64_w, i32_w]
         rfl
        refine pure_ (i := 11) (N := some 66) (v := undef) (a' := ?_) (bm_ 34 4095) rfl rfl (any_of HT_.out (by kernel_rfl)) (fun _ _ _ h => h) (Or.inr ⟨by rfl, rfl⟩) ?_ ?_
        rotate_left
        ·
         simp only [Act.put, List.setIfInBounds_toArray, List.set_cons_zero, List.set_cons_succ, i64_w, i32_w]
         rfl
        refine pure_ (i := 12) (N := some 67) (v := undef) (a' := ?_) (bm_ 34 8191) rfl rfl (any_of HT_.out (by kernel_rfl)) (fun _ _ _ h => h) (Or.inr ⟨by rfl, rfl⟩) ?_ ?_
        rotate_left
        ·
         simp only [Act.put, List.setIfInBounds_toArray, List.set_cons_zero, List.set_cons_succ, i64_w, i32_w]
         rfl
        refine pure_ (i := 13) (N := some 68) (v := undef) (a' := ?_) (bm_ 34 16383) rfl rfl (any_of HT_.out (by kernel_rfl)) (fun _ _ _ h => h) (Or.inr ⟨by rfl, rfl⟩) ?_ ?_
        rotate_left
        ·
         simp only [Act.put, List.setIfInBounds_toArray, List.set_cons_zero, List.set_cons_succ, i64_w, i32_w]
         rfl
        refine pu_ 14 (some 69) (bm_ 34 32767) rfl HT_ ⟨by rfl, by intro w'; go_simp; with_reducible rfl⟩ ?_
        refine pu_ 15 (some 70) (bm_ 34 65535) rfl HT_ ⟨by rfl, by intro w'; go_simp; with_reducible rfl⟩ ?_
        refine pure_ (i := 16) (N := some 71) (v := undef) (a' := ?_) (bm_ 34 131071) rfl rfl (any_of HT_.out (by kernel_rfl)) (fun _ _ _ h => h) (Or.inr ⟨by rfl, rfl⟩) ?_ ?_
        rotate_left
        ·
         simp only [Act.put, List.setIfInBounds_toArray, List.set_cons_zero, List.set_cons_succ, i64_w, i32_w]
         rfl
        refine pure_ (i := 17) (N := some 72) (v := undef) (a' := ?_) (bm_ 34 262143) rfl rfl (any_of HT_.out (by kernel_rfl)) (fun _ _ _ h => h) (Or.inr ⟨by rfl, rfl⟩) ?_ ?_
        rotate_left
        ·
         simp only [Act.put, List.setIfInBounds_toArray, List.set_cons_zero, List.set_cons_succ, i64_w, i32_w]
         rfl
        refine pure_ (i := 18) (N := some 73) (v := undef) (a' := ?_) (bm_ 34 524287) rfl rfl (any_of HT_.out (by kernel_rfl)) (fun _ _ _ h => h) (Or.inr ⟨by rfl, rfl⟩) ?_ ?_
        rotate_left
        ·
         simp only [Act.put, List.setIfInBounds_toArray, List.set_cons_zero, List.set_cons_succ, i64_w, i32_w]
         rfl
        refine pure_ (i := 19) (N := some 74) (v := undef) (a' := ?_) (bm_ 34 1048575) rfl rfl (any_of HT_.out (by kernel_rfl)) (fun _ _ _ h => h) (Or.inr ⟨by rfl, rfl⟩) ?_ ?_
        rotate_left
        ·
         simp only [Act.put, List.setIfInBounds_toArray, List.set_cons_zero, List.set_cons_succ, i64_w, i32_w]
         rfl
        refine pure_ (i := 20) (N := some 75) (v := undef) (a' := ?_) (bm_ 34 2097151) rfl rfl (any_of HT_.out (by kernel_rfl)) (fun _ _ _ h => h) (Or.inr ⟨by rfl, rfl⟩) ?_ ?_
        rotate_left
        ·
         simp only [Act.put, List.setIfInBounds_toArray, List.set_cons_zero, List.set_cons_succ, i64_w, i32_w]
         rfl
        refine pure_ (i := 21) (N := some 76) (v := undef) (a' := ?_) (bm_ 34 4194303) rfl rfl (any_of HT_.out (by kernel_rfl)) (fun _ _ _ h => h) (Or.inr ⟨by rfl, rfl⟩) ?_ ?_
        rotate_left
        ·
         simp only [Act.put, List.setIfInBounds_toArray, List.set_cons_zero, List.set_cons_succ, i64_w, i32_w]
         rfl
        refine pu_ 22 (some 77) (bm_ 34 8388607) rfl HT_ ⟨by rfl, by intro w'; go_simp; with_reducible rfl⟩ ?_
        refine pu_ 23 (some 78) (bm_ 34 16777215) rfl HT_ ⟨by rfl, by intro w'; go_simp; with_reducible rfl⟩ ?_
        refine pure_ (i := 24) (N := some 79) (v := undef) (a' := ?_) (bm_ 34 33554431) rfl rfl (any_of HT_.out (by kernel_rfl)) (fun _ _ _ h => h) (Or.inr ⟨by rfl, rfl⟩) ?_ ?_
        rotate_left
        ·
         simp only [Act.put, List.setIfInBounds_toArray, List.set_cons_zero, List.set_cons_succ, i64_w, i32_w]
         rfl
        refine pure_ (i := 25) (N := some 80) (v := undef) (a' := ?_) (bm_ 34 67108863) rfl rfl (any_of HT_.out (by kernel_rfl)) (fun _ _ _ h => h) (Or.inr ⟨by rfl, rfl⟩) ?_ ?_
        rotate_left
        ·
         simp only [Act.put, List.setIfInBounds_toArray, List.set_cons_zero, List.set_cons_succ, i64_w, i32_w]
         rfl
        refine pure_ (i := 26) (N := some 81) (v := undef) (a' := ?_) (bm_ 34 134217727) rfl rfl (any_of HT_.out (by kernel_rfl)) (fun _ _ _ h => h) (Or.inr ⟨by rfl, rfl⟩) ?_ ?_
        rotate_left
        ·
         simp only [Act.put, List.setIfInBounds_toArray, List.set_cons_zero, List.set_cons_succ, i64_w, i32_w]
         rfl
        refine pure_ (i := 27) (N := some 82) (v := undef) (a' := ?_) (bm_ 34 268435455) rfl rfl (any_of HT_.out (by kernel_rfl)) (fun _ _ _ h => h) (Or.inr ⟨by rfl, rfl⟩) ?_ ?_
        rotate_left
        ·
         simp only [Act.put, List.setIfInBounds_toArray, List.set_cons_zero, List.set_cons_succ, i64_w, i32_w]
         rfl
        refine pure_ (i := 28) (N := some 83) (v := undef) (a' := ?_) (bm_ 34 536870911) rfl rfl (any_of HT_.out (by kernel_rfl)) (fun _ _ _ h => h) (Or.inr ⟨by rfl, rfl⟩) ?_ ?_
        rotate_left
        ·
         simp only [Act.put, List.setIfInBounds_toArray, List.set_cons_zero, List.set_cons_succ, i64_w, i32_w]
         rfl
        refine pure_ (i := 29) (N := some 84) (v := undef) (a' := ?_) (bm_ 34 1073741823) rfl rfl (any_of HT_.out (by kernel_rfl)) (fun _ _ _ h => h) (Or.inr ⟨by rfl, rfl⟩) ?_ ?_
        rotate_left
        ·
         simp only [Act.put, List.setIfInBounds_toArray, List.set_cons_zero, List.set_cons_succ, i64_w, i32_w]
         rfl
        refine pure_ (i := 30) (N := some 85) (v := undef) (a' := ?_) (bm_ 34 2147483647) rfl rfl (any_of HT_.out (by kernel_rfl)) (fun _ _ _ h => h) (Or.inr ⟨by rfl, rfl⟩) ?_ ?_
        rotate_left
        ·
         simp only [Act.put, List.setIfInBounds_toArray, List.set_cons_zero, List.set_cons_succ, i64_w, i32_w]
         rfl
        refine pure_ (i := 31) (N := some 86) (v := undef) (a' := ?_) (bm_ 34 4294967295) rfl rfl (any_of HT_.out (by kernel_rfl)) (fun _ _ _ h => h) (Or.inr ⟨by rfl, rfl⟩) ?_ ?_
        rotate_left
        ·
         simp only [Act.put, List.setIfInBounds_toArray, List.set_cons_zero, List.set_cons_succ, i64_w, i32_w]
         rfl
        refine pure_ (i := 32) (N := some 87) (v := undef) (a' := ?_) (bm_ 34 8589934591) rfl rfl (any_of HT_.out (by kernel_rfl)) (fun _ _ _ h => h) (Or.inr ⟨by rfl, rfl⟩) ?_ ?_
        rotate_left
        ·
         simp only [Act.put, List.setIfInBounds_toArray, List.set_cons_zero, List.set_cons_succ, i64_w, i32_w]
         rfl
        refine pu_ 33 (some 88) (bm_ 34 17179869183) rfl HT_ ⟨by rfl, by intro w'; go_simp; with_reducible rfl⟩ ?_
        refine done_ (done_of HT_.out (by kernel_rfl)) ?_
        try go_wp2
        go_meet
        case rel => exact ⟨_, (true), (by first | rfl | (simp; done) | (simp [*]; done)), H', ⟨by have := HJ6.out; first | omega | exact Nat.le_refl _⟩, ⟨by (with_reducible repeat (first | apply Kd.R_alloc | apply Kd.R_drewN | apply Kd.R_drew)); exact HO_7.out⟩, ⟨by refine pw_ ?_; exact BK288.out⟩, ⟨by refine pw_ ?_; exact BK289.out⟩, ⟨by refine pw_ ?_; exact BK290.out⟩, ⟨pb_ HB⟩⟩
      case rest =>
       as_aux_lemma =>
        clear HC57
        try clear c2
        try clear p2
        try clear c3
        try clear p3
        try clear q3
        try clear hx3
        try clear qi3
        try clear c5
        try clear c6
        try clear p6
        try clear c7
        try clear c22
        try clear p30
        try clear q30
        try clear hx30
        try clear qi30
        try clear c37
        try clear c38
        try clear c58
        try clear c58b0
        try clear c58b1
        try clear p64
        try clear c67
        try clear c69
        try clear c69b0
        try clear c75
        try clear c75b0
        try clear c76
        try clear c76b0
        try clear hx300_0
        try clear hx300_1
        try clear hx300_2
        try clear hx300_3
        try clear hx304_0
        try clear hx304_1
        try clear hx304_2
        try clear hx304_3
        try clear p300
        try clear p304
        try clear q300
        try clear q304
        obtain ⟨kq, x88_56, rfl, HA, HJ56, HO_7, BK288, BK289, BK290, HB⟩ := hcut
        cases kq with
        | zero => exact absurd HA.out (by simp [platbooklaw04_CarveSpreads.j1])
        | succ kj56 =>
         have H := HA.out
         clear HA
         simp only [platbooklaw04_CarveSpreads.j1] at H
         by_cases c84 : x88_56 = true
         ·
          subst c84
          rw [if_pos rfl] at H
          obtain rfl := Option.some.inj H
          exact absurd HRT.out (by decide)
         ·
          replace c84 := Bool.eq_false_iff.mpr c84
          subst c84
          have H1 : (platbooklaw04_CarveSpreads.l0 kj56 t292 0 0 a0_0 a0_1 a0_2 a1_0 a1_1 a1_2 a2_0 a2_1 a2_2) = some r := by rw [if_neg (show ¬ (false = true) by decide)] at H; exact H
          clear H
          have H := H1
          clear H1
          have H' := Aside0.mk H
          clear H
          go_wp2
          go_loopg [9, 10] kj56 (fun kq v9 v10 w' => ∃ (x9_3 : Int) (x10_3 : Int), v9 = .int .i64 x9_3 ∧ v10 = .int .i64 x10_3 ∧ Aside0 (platbooklaw04_CarveSpreads.l0 kq t292 x9_3 x10_3 a0_0 a0_1 a0_2 a1_0 a1_1 a1_2 a2_0 a2_1 a2_2 = some r) ∧ Aside0 (kq ≤ kj56) ∧ Aside0 (Kd.R k38 38 w' w.heap.size (fun _ => True) v293 t292) ∧ Aside0 (w'.heap[gb288]? = some (.cells #[.bool a0_0, .int .u64 a0_1, .int .u64 a0_2] 26 (0, 0))) ∧ Aside0 (w'.heap[gb289]? = some (.cells #[.bool a1_0, .int .u64 a1_1, .int .u64 a1_2] 26 (0, 0))) ∧ Aside0 (w'.heap[gb290]? = some (.cells #[.bool a2_0, .int .u64 a2_1, .int .u64 a2_2] 26 (0, 0))) ∧ Aside0 (Below w.heap.size w w'))
          case atStart => exact ⟨(0), (0), (by first | rfl | (simp; done) | (simp [*]; done)), (by first | rfl | (simp; done) | (simp [*]; done)), H', ⟨Nat.le_refl _⟩, ⟨by (with_reducible repeat (first | apply Kd.R_alloc | apply Kd.R_drewN | apply Kd.R_drew)); exact HO_7.out⟩, ⟨by refine pw_ ?_; exact BK288.out⟩, ⟨by refine pw_ ?_; exact BK289.out⟩, ⟨by refine pw_ ?_; exact BK290.out⟩, ⟨pb_ HB⟩⟩
          case round =>
           as_aux_lemma =>
            clear H'
            try clear c2
            try clear p2
            try clear c3
            try clear p3
            try clear q3
            try clear hx3
            try clear qi3
            try clear c5
            try clear c6
            try clear p6
            try clear c7
            try clear c8
            try clear c22
            try clear p30
            try clear q30
            try clear hx30
            try clear qi30
            try clear c37
            try clear c38
            try clear c58
            try clear c58b0
            try clear c58b1
            try clear p64
            try clear c67
            try clear c69
            try clear c69b0
            try clear c75
            try clear c75b0
            try clear c76
            try clear c76b0
            try clear c84
            try clear hx300_0
            try clear hx300_1
            try clear hx300_2
            try clear hx300_3
            try clear hx304_0
            try clear hx304_1
            try clear hx304_2
            try clear hx304_3
            try clear p2
            try clear p3
            try clear p30
            try clear p300
            try clear p304
            try clear p6
            try clear p64
            try clear q3
            try clear q30
            try clear q300
            try clear q304
            obtain ⟨x9_3, x10_3, rfl, rfl, HA, HK3, HO_7, BK288, BK289, BK290, HB⟩ := hrel
            cases gk with
            | zero => exact absurd HA.out (by simp [platbooklaw04_CarveSpreads.l0])
            | succ k3 =>
             have H := HA.out
             clear HA
             simp only [platbooklaw04_CarveSpreads.l0] at H
             by_cases c85 : x10_3 < (t292.length : Int)
             ·
              rw [if_pos c85] at H
              have c85b0 : decide (x10_3 < (t292.length : Int)) = true := decide_eq_true c85
              clear c85
              by_cases c86 : 0 ≤ x10_3
              ·
               rw [if_pos c86] at H
               have c86b0 : decide (0 ≤ x10_3) = true := decide_eq_true c86
               clear c86
               replace H := Option.bind_eq_some_iff.mp H
               obtain ⟨t312, A870, H⟩ := H
               replace H : (if t312 = true then ((prefix_Has.f k3 ((rd_T38 t292 x10_3).f0.f0) ((rd_T38 t292 x10_3).f0.f1.f0) ((rd_T38 t292 x10_3).f0.f1.f1) ((rd_T38 t292 x10_3).f1) a2_0 a2_1 a2_2).bind fun t314 => (if t314 = true then (platbooklaw04_CarveSpreads.j3 k3 t292 (wrap64 (x9_3 + 1)) x10_3 a0_0 a0_1 a0_2 a1_0 a1_1 a1_2 a2_0 a2_1 a2_2) else (platbooklaw04_CarveSpreads.j3 k3 t292 x9_3 x10_3 a0_0 a0_1 a0_2 a1_0 a1_1 a1_2 a2_0 a2_1 a2_2))) else (some false)) = some r := H
               have A87 := Aside0.mk A870
               clear A870
               by_cases c88 : t312 = true
               ·
                subst c88
                rw [if_pos rfl] at H
                replace H := Option.bind_eq_some_iff.mp H
                obtain ⟨t314, A890, H⟩ := H
                replace H : (if t314 = true then (platbooklaw04_CarveSpreads.j3 k3 t292 (wrap64 (x9_3 + 1)) x10_3 a0_0 a0_1 a0_2 a1_0 a1_1 a1_2 a2_0 a2_1 a2_2) else (platbooklaw04_CarveSpreads.j3 k3 t292 x9_3 x10_3 a0_0 a0_1 a0_2 a1_0 a1_1 a1_2 a2_0 a2_1 a2_2)) = some r := H
                have A89 := Aside0.mk A890
                clear A890
                have HC90 := Aside0.mk H
                clear H
                obtain ⟨Ao91, co91, eo91⟩ := Kd.R_slice HO_7.out
                subst eo91
                have p311 : 0 ≤ (x10_3 : Int) := of_decide_eq_true (by first | (with_reducible assumption) | assumption)
                have q311 : x10_3 < (t292.length : Int) := of_decide_eq_true (by first | (with_reducible assumption) | assumption)
                obtain ⟨ad311, e311, hx311_0, hx311_1, hx311_2, hx311_3⟩ := at_T38 (Kd.R_reads' HO_7.out).2.2 x10_3 p311 q311
                cases e311
                replace p311 := eq_true p311
                replace q311 := eq_true q311
                try go_wp2_with (first | ((with_reducible refine gate_callee (f := 29) rfl ?_); refine gl_ (some 99) Tryz.func29 #[.agg #[.bool ((rd_T38 t292 x10_3).f0.f0), .int .u64 ((rd_T38 t292 x10_3).f0.f1.f0), .int .u64 ((rd_T38 t292 x10_3).f0.f1.f1), .int .i64 ((rd_T38 t292 x10_3).f1)]] ?_; (with_reducible refine (platbookref03_Right.calls k3 ((rd_T38 t292 x10_3).f0.f0) ((rd_T38 t292 x10_3).f0.f1.f0) ((rd_T38 t292 x10_3).f0.f1.f1) ((rd_T38 t292 x10_3).f1) true _ A87.out).mono ?_); rintro e w92 ⟨rfl, hb⟩; refine ⟨_, rfl, ?_⟩; replace HO_7 := Aside0.mk (Kd.R_below (by (with_reducible repeat (first | apply Kd.R_alloc | apply Kd.R_drewN | apply Kd.R_drew)); exact HO_7.out) hb); replace BK288 := bb_ BK288 hb; replace BK289 := bb_ BK289 hb; replace BK290 := bb_ BK290 hb; replace HB := bs_ HB hb; (try clear hb); (try clear hb2); (try clear hk); (try clear hi)))
                replace HO_7 := Aside0.mk (Kd.R_drew HO_7.out)
                replace BK288 := Aside0.mk (blk_drew BK288.out)
                replace BK289 := Aside0.mk (blk_drew BK289.out)
                replace BK290 := Aside0.mk (blk_drew BK290.out)
                replace HB := Aside0.mk (below_drew1 HB.out)
                have p313 : 0 ≤ (x10_3 : Int) := of_decide_eq_true (by first | (with_reducible assumption) | assumption)
                have q313 : x10_3 < (t292.length : Int) := of_decide_eq_true (by first | (with_reducible assumption) | assumption)
                obtain ⟨ad313, e313, hx313_0, hx313_1, hx313_2, hx313_3⟩ := at_T38 (Kd.R_reads' HO_7.out).2.2 x10_3 p313 q313
                obtain rfl : ad311 = ad313 := (by injection e313)
                replace p313 := eq_true p313
                replace q313 := eq_true q313
                refine start_ (n := 6) (S := fun w' => w'.cell? ⟨gb290, 0, none⟩ = some (.bool a2_0) ∧ w'.cell? ⟨gb290, 1, none⟩ = some (.int .u64 a2_1) ∧ w'.cell? ⟨gb290, 2, none⟩ = some (.int .u64 a2_2) ∧ w'.cell? (ad311.add ((x10_3).toNat * 4)) = some (.bool ((rd_T38 t292 x10_3).f0.f0)) ∧ w'.cell? ⟨(ad311.add ((x10_3).toNat * 4)).block, (ad311.add ((x10_3).toNat * 4)).off + 1, none⟩ = some (.int .u64 ((rd_T38 t292 x10_3).f0.f1.f0)) ∧ w'.cell? ⟨(ad311.add ((x10_3).toNat * 4)).block, (ad311.add ((x10_3).toNat * 4)).off + 2, none⟩ = some (.int .u64 ((rd_T38 t292 x10_3).f0.f1.f1)) ∧ w'.cell? ⟨(ad311.add ((x10_3).toNat * 4)).block, (ad311.add ((x10_3).toNat * 4)).off + 3, none⟩ = some (.int .i64 ((rd_T38 t292 x10_3).f1))) (ds := []) (bm_ 6 0) (by kernel_rfl) rfl rfl ⟨kc_ BK290 0, kc_ BK290 1, kc_ BK290 2, hx313_0, hx313_1, hx313_2, hx313_3⟩ (fun hHeld => ?_)
                generalize w92.drew = w93 at HO_7 BK288 BK289 BK290 HB hx313_0 hx313_1 hx313_2 hx313_3 hHeld ⊢
                refine pure_ (i := 0) (N := some 101) (v := ?_) (a' := ?_) (bm_ 6 1) rfl rfl (by kernel_rfl) (fun _ _ _ h => h) (Or.inl ⟨by rfl, ?_⟩) ?_ ?_
                rotate_left
                ·
                 intro w'
                 go_simp
                 with_reducible rfl
                rotate_left
                ·
                 simp only [Act.put, List.setIfInBounds_toArray, List.set_cons_zero, List.set_cons_succ, i64_w, i32_w]
                 rfl
                refine pure_ (i := 1) (N := some 102) (v := ?_) (a' := ?_) (bm_ 6 3) rfl rfl (by kernel_rfl) (fun _ _ _ h => h) (Or.inl ⟨by rfl, ?_⟩) ?_ ?_
                rotate_left
                ·
                 intro w'
                 go_simp
                 with_reducible rfl
                rotate_left
                ·
                 simp only [Act.put, List.setIfInBounds_toArray, List.set_cons_zero, List.set_cons_succ, i64_w, i32_w]
                 rfl
                refine pure_ (i := 2) (N := some 103) (v := ?_) (a' := ?_) (bm_ 6 7) rfl rfl (by kernel_rfl) (fun _ _ _ h => h) (Or.inl ⟨by rfl, ?_⟩) ?_ ?_
                rotate_left
                ·
                 intro w'
                 go_simp
                 with_reducible rfl
                rotate_left
                ·
                 simp only [Act.put, List.setIfInBounds_toArray, List.set_cons_zero, List.set_cons_succ, i64_w, i32_w]
                 rfl
                refine take_ (i := 3) (N := some 104) (v := ?_) (a' := ?_) (bm_ 6 15) rfl rfl (by kernel_rfl) (fun _ _ _ h => h) (Or.inl ⟨by rfl, ?_⟩) hHeld ?_ ?_
                rotate_left
                ·
                 rintro w' ⟨s0, s1, s2, s3, s4, s5, s6⟩
                 go_simp
                 with_reducible rfl
                rotate_left
                ·
                 simp only [Act.put, List.setIfInBounds_toArray, List.set_cons_zero, List.set_cons_succ, i64_w, i32_w]
                 rfl
                refine take_ (i := 4) (N := some 105) (v := ?_) (a' := ?_) (bm_ 6 31) rfl rfl (by kernel_rfl) (fun _ _ _ h => h) (Or.inl ⟨by rfl, ?_⟩) hHeld ?_ ?_
                rotate_left
                ·
                 rintro w' ⟨s0, s1, s2, s3, s4, s5, s6⟩
                 go_simp
                 with_reducible rfl
                rotate_left
                ·
                 simp only [Act.put, List.setIfInBounds_toArray, List.set_cons_zero, List.set_cons_succ, i64_w, i32_w]
                 rfl
                refine one_ (i := 5) (N := some 106) (bm_ 6 63) rfl rfl (by kernel_rfl) (by decide) (fun K hK => ?_)
                refine gr_ Tryz.func40 #[.agg #[.bool ((rd_T38 t292 x10_3).f0.f0), .int .u64 ((rd_T38 t292 x10_3).f0.f1.f0), .int .u64 ((rd_T38 t292 x10_3).f0.f1.f1), .int .i64 ((rd_T38 t292 x10_3).f1)], .agg #[.bool a2_0, .int .u64 a2_1, .int .u64 a2_2]] ?_
                with_reducible refine (prefix_Has.calls k3 ((rd_T38 t292 x10_3).f0.f0) ((rd_T38 t292 x10_3).f0.f1.f0) ((rd_T38 t292 x10_3).f0.f1.f1) ((rd_T38 t292 x10_3).f1) a2_0 a2_1 a2_2 t314 _ A89.out).mono ?_
                rintro e w94 ⟨rfl, hb⟩
                have HS3_ := (hb.cell (World.block_lt_of_cell? _ _ (hHeld.2.2.2.1))).trans (hHeld.2.2.2.1)
                have HS4_ := (hb.cell (World.block_lt_of_cell? _ _ (hHeld.2.2.2.2.1))).trans (hHeld.2.2.2.2.1)
                have HS5_ := (hb.cell (World.block_lt_of_cell? _ _ (hHeld.2.2.2.2.2.1))).trans (hHeld.2.2.2.2.2.1)
                have HS6_ := (hb.cell (World.block_lt_of_cell? _ _ (hHeld.2.2.2.2.2.2))).trans (hHeld.2.2.2.2.2.2)
                refine ⟨_, rfl, ?_⟩
                replace HO_7 := Aside0.mk (Kd.R_below (by (with_reducible repeat (first | apply Kd.R_alloc | apply Kd.R_drewN | apply Kd.R_drew)); exact HO_7.out) hb)
                replace BK288 := bb_ BK288 hb
                replace BK289 := bb_ BK289 hb
                replace BK290 := bb_ BK290 hb
                replace HB := bs_ HB hb
                (try clear hb)
                (try clear hb2)
                (try clear hk)
                (try clear hi)
                refine hK.out _ _ ⟨kc_ BK290 0, kc_ BK290 1, kc_ BK290 2, HS3_, HS4_, HS5_, HS6_⟩ (fun hHeld => ?_)
                clear hK K
                refine norm_ (a' := ?_) ?_ ?_
                rotate_left
                ·
                 show Act.put _ (some 106) _ = _
                 simp only [Act.put, List.setIfInBounds_toArray, List.set_cons_zero, List.set_cons_succ, i64_w, i32_w]
                 rfl
                refine done_ (by kernel_rfl) ?_
                go_upto_if 106 with (fail)
                go_cut [9] (fun v9 wc => ∃ (kq : Nat) (x9_89 : Int), v9 = .int .i64 x9_89 ∧ Aside0 (platbooklaw04_CarveSpreads.j3 kq t292 x9_89 x10_3 a0_0 a0_1 a0_2 a1_0 a1_1 a1_2 a2_0 a2_1 a2_2 = some r) ∧ Aside0 (kq ≤ k3) ∧ Aside0 (Kd.R k38 38 wc w.heap.size (fun _ => True) (.slice (some ad311) t292.length co91) t292) ∧ Aside0 (wc.heap[gb288]? = some (.cells #[.bool a0_0, .int .u64 a0_1, .int .u64 a0_2] 26 (0, 0))) ∧ Aside0 (wc.heap[gb289]? = some (.cells #[.bool a1_0, .int .u64 a1_1, .int .u64 a1_2] 26 (0, 0))) ∧ Aside0 (wc.heap[gb290]? = some (.cells #[.bool a2_0, .int .u64 a2_1, .int .u64 a2_2] 26 (0, 0))) ∧ Aside0 (Below w.heap.size w wc))
                case first =>
                 have H := HC90.out
                 clear HC90
                 by_cases c95 : t314 = true
                 ·
                  subst c95
                  rw [if_pos rfl] at H
                  have H' := Aside0.mk H
                  clear H
                  go_wp2
                  go_meet
                  case rel => exact ⟨_, (wrap64 (x9_3 + 1)), (by first | rfl | (simp; done) | (simp [*]; done)), H', ⟨by have := HJ6.out; have := HJ56.out; have := HK3.out; first | omega | exact Nat.le_refl _⟩, ⟨by (with_reducible repeat (first | apply Kd.R_alloc | apply Kd.R_drewN | apply Kd.R_drew)); exact HO_7.out⟩, ⟨by refine pw_ ?_; exact BK288.out⟩, ⟨by refine pw_ ?_; exact BK289.out⟩, ⟨by refine pw_ ?_; exact BK290.out⟩, ⟨pb_ HB⟩⟩
                 ·
                  replace c95 := Bool.eq_false_iff.mpr c95
                  subst c95
                  have H1 : (platbooklaw04_CarveSpreads.j3 k3 t292 x9_3 x10_3 a0_0 a0_1 a0_2 a1_0 a1_1 a1_2 a2_0 a2_1 a2_2) = some r := by rw [if_neg (show ¬ (false = true) by decide)] at H; exact H
                  clear H
                  have H := H1
                  clear H1
                  have H' := Aside0.mk H
                  clear H
                  go_wp2
                  go_meet
                  case rel => exact ⟨_, (x9_3), (by first | rfl | (simp; done) | (simp [*]; done)), H', ⟨by have := HJ6.out; have := HJ56.out; have := HK3.out; first | omega | exact Nat.le_refl _⟩, ⟨by (with_reducible repeat (first | apply Kd.R_alloc | apply Kd.R_drewN | apply Kd.R_drew)); exact HO_7.out⟩, ⟨by refine pw_ ?_; exact BK288.out⟩, ⟨by refine pw_ ?_; exact BK289.out⟩, ⟨by refine pw_ ?_; exact BK290.out⟩, ⟨pb_ HB⟩⟩
                case rest =>
                 as_aux_lemma =>
                  clear HC90
                  try clear c2
                  try clear p2
                  try clear c3
                  try clear p3
                  try clear q3
                  try clear hx3
                  try clear qi3
                  try clear c4
                  try clear c5
                  try clear c6
                  try clear p6
                  try clear c7
                  try clear c8
                  try clear c9
                  try clear c22
                  try clear c29
                  try clear p30
                  try clear q30
                  try clear hx30
                  try clear qi30
                  try clear p31
                  try clear q31
                  try clear hx31
                  try clear c37
                  try clear c38
                  try clear c40
                  try clear c58
                  try clear c58b0
                  try clear c58b1
                  try clear p64
                  try clear c67
                  try clear c69
                  try clear c69b0
                  try clear c75
                  try clear c75b0
                  try clear c76
                  try clear c76b0
                  try clear c84
                  try clear c85
                  try clear c85b0
                  try clear c86
                  try clear c86b0
                  try clear c88
                  try clear c95
                  try clear hx300_0
                  try clear hx300_1
                  try clear hx300_2
                  try clear hx300_3
                  try clear hx304_0
                  try clear hx304_1
                  try clear hx304_2
                  try clear hx304_3
                  try clear hx311_0
                  try clear hx311_1
                  try clear hx311_2
                  try clear hx311_3
                  try clear hx313_0
                  try clear hx313_1
                  try clear hx313_2
                  try clear hx313_3
                  try clear p2
                  try clear p3
                  try clear p30
                  try clear p300
                  try clear p304
                  try clear p311
                  try clear p313
                  try clear p6
                  try clear p64
                  try clear q3
                  try clear q30
                  try clear q300
                  try clear q304
                  try clear q311
                  try clear q313
                  obtain ⟨kq, x9_89, rfl, HA, HJ89, HO_7, BK288, BK289, BK290, HB⟩ := hcut
                  cases kq with
                  | zero => exact absurd HA.out (by simp [platbooklaw04_CarveSpreads.j3])
                  | succ kj89 =>
                   have H := HA.out
                   clear HA
                   simp only [platbooklaw04_CarveSpreads.j3] at H
                   by_cases c96 : x10_3 = 0
                   ·
                    rw [if_pos c96] at H
                    have c96b0 : (x10_3 == 0) = true := beq_iff_eq.mpr c96
                    have c96b1 : (x10_3 != 0) = false := bne_eq_false_iff_eq.mpr c96
                    clear c96
                    have H' := Aside0.mk H
                    clear H
                    go_wp2
                    go_roundg kj89
                    case measure => have := HJ6.out; have := HJ56.out; have := HK3.out; have := HJ89.out; omega
                    case rel => exact ⟨(x9_89), (wrap64 (x10_3 + 1)), (by first | rfl | (simp; done) | (simp [*]; done)), (by first | rfl | (simp; done) | (simp [*]; done)), H', ⟨by have := HJ6.out; have := HJ56.out; have := HK3.out; have := HJ89.out; omega⟩, ⟨by (with_reducible repeat (first | apply Kd.R_alloc | apply Kd.R_drewN | apply Kd.R_drew)); exact HO_7.out⟩, ⟨by refine pw_ ?_; exact BK288.out⟩, ⟨by refine pw_ ?_; exact BK289.out⟩, ⟨by refine pw_ ?_; exact BK290.out⟩, ⟨pb_ HB⟩⟩
                   ·
                    rw [if_neg c96] at H
                    have c96b0 : (x10_3 == 0) = false := beq_eq_false_iff_ne.mpr c96
                    have c96b1 : (x10_3 != 0) = true := bne_iff_ne.mpr c96
                    obtain ⟨ji97, hji97⟩ : ∃ j_ : Int, (wrap64 (x10_3 - 1)) = j_ := ⟨_, rfl⟩
                    replace H : (if 0 ≤ (ji97) then (if (ji97) < (t292.length : Int) then ((prefix_Last.f ((rd_T38 t292 (ji97)).f0.f0) ((rd_T38 t292 (ji97)).f0.f1.f0) ((rd_T38 t292 (ji97)).f0.f1.f1) ((rd_T38 t292 (ji97)).f1)).bind fun bt316 => ((num_Of.f 1).bind fun bt319 => ((addr_Plus.f bt316.1 bt316.2.1 bt316.2.2 bt319.1 bt319.2).bind fun bt321 => (if bt321.2.2.2 = 0 then (if 0 ≤ x10_3 then (if x10_3 < (t292.length : Int) then ((prefix_First.f ((rd_T38 t292 x10_3).f0.f0) ((rd_T38 t292 x10_3).f0.f1.f0) ((rd_T38 t292 x10_3).f0.f1.f1) ((rd_T38 t292 x10_3).f1)).bind fun bt327 => (platbooklaw04_CarveSpreads.j4 kj89 t292 x9_89 x10_3 (!(bt327.1 == bt321.1) || ((!(bt327.2.1 == bt321.2.1) || (!(bt327.2.2 == bt321.2.2.1))))) a0_0 a0_1 a0_2 a1_0 a1_1 a1_2 a2_0 a2_1 a2_2)) else (none)) else (none)) else (platbooklaw04_CarveSpreads.j4 kj89 t292 x9_89 x10_3 true a0_0 a0_1 a0_2 a1_0 a1_1 a1_2 a2_0 a2_1 a2_2))))) else (none)) else (none)) = some r := by first | (rw [hji97] at H; exact H) | (simp only [hji97] at H ⊢; exact H)
                    have hji97w : (IntKind.i64.wrap (x10_3 - 1)) = ji97 := (i64_w _).trans hji97
                    by_cases c98 : 0 ≤ (ji97)
                    ·
                     rw [if_pos c98] at H
                     have c98b0 : decide (0 ≤ (ji97)) = true := decide_eq_true c98
                     clear c98
                     by_cases c99 : (ji97) < (t292.length : Int)
                     ·
                      rw [if_pos c99] at H
                      have c99b0 : decide ((ji97) < (t292.length : Int)) = true := decide_eq_true c99
                      clear c99
                      replace H := Option.bind_eq_some_iff.mp H
                      obtain ⟨⟨t316, t317, t318⟩, A1000, H⟩ := H
                      replace H : ((num_Of.f 1).bind fun bt319 => ((addr_Plus.f t316 t317 t318 bt319.1 bt319.2).bind fun bt321 => (if bt321.2.2.2 = 0 then (if 0 ≤ x10_3 then (if x10_3 < (t292.length : Int) then ((prefix_First.f ((rd_T38 t292 x10_3).f0.f0) ((rd_T38 t292 x10_3).f0.f1.f0) ((rd_T38 t292 x10_3).f0.f1.f1) ((rd_T38 t292 x10_3).f1)).bind fun bt327 => (platbooklaw04_CarveSpreads.j4 kj89 t292 x9_89 x10_3 (!(bt327.1 == bt321.1) || ((!(bt327.2.1 == bt321.2.1) || (!(bt327.2.2 == bt321.2.2.1))))) a0_0 a0_1 a0_2 a1_0 a1_1 a1_2 a2_0 a2_1 a2_2)) else (none)) else (none)) else (platbooklaw04_CarveSpreads.j4 kj89 t292 x9_89 x10_3 true a0_0 a0_1 a0_2 a1_0 a1_1 a1_2 a2_0 a2_1 a2_2)))) = some r := H
                      have A100 := Aside0.mk A1000
                      clear A1000
                      replace H := Option.bind_eq_some_iff.mp H
                      obtain ⟨⟨t319, t320⟩, A1010, H⟩ := H
                      replace H : ((addr_Plus.f t316 t317 t318 t319 t320).bind fun bt321 => (if bt321.2.2.2 = 0 then (if 0 ≤ x10_3 then (if x10_3 < (t292.length : Int) then ((prefix_First.f ((rd_T38 t292 x10_3).f0.f0) ((rd_T38 t292 x10_3).f0.f1.f0) ((rd_T38 t292 x10_3).f0.f1.f1) ((rd_T38 t292 x10_3).f1)).bind fun bt327 => (platbooklaw04_CarveSpreads.j4 kj89 t292 x9_89 x10_3 (!(bt327.1 == bt321.1) || ((!(bt327.2.1 == bt321.2.1) || (!(bt327.2.2 == bt321.2.2.1))))) a0_0 a0_1 a0_2 a1_0 a1_1 a1_2 a2_0 a2_1 a2_2)) else (none)) else (none)) else (platbooklaw04_CarveSpreads.j4 kj89 t292 x9_89 x10_3 true a0_0 a0_1 a0_2 a1_0 a1_1 a1_2 a2_0 a2_1 a2_2))) = some r := H
                      have A101 := Aside0.mk A1010
                      clear A1010
                      replace H := Option.bind_eq_some_iff.mp H
                      obtain ⟨⟨t321, t322, t323, t324⟩, A1020, H⟩ := H
                      replace H : (if t324 = 0 then (if 0 ≤ x10_3 then (if x10_3 < (t292.length : Int) then ((prefix_First.f ((rd_T38 t292 x10_3).f0.f0) ((rd_T38 t292 x10_3).f0.f1.f0) ((rd_T38 t292 x10_3).f0.f1.f1) ((rd_T38 t292 x10_3).f1)).bind fun bt327 => (platbooklaw04_CarveSpreads.j4 kj89 t292 x9_89 x10_3 (!(bt327.1 == t321) || ((!(bt327.2.1 == t322) || (!(bt327.2.2 == t323))))) a0_0 a0_1 a0_2 a1_0 a1_1 a1_2 a2_0 a2_1 a2_2)) else (none)) else (none)) else (platbooklaw04_CarveSpreads.j4 kj89 t292 x9_89 x10_3 true a0_0 a0_1 a0_2 a1_0 a1_1 a1_2 a2_0 a2_1 a2_2)) = some r := H
                      have A102 := Aside0.mk A1020
                      clear A1020
                      have HC103 := Aside0.mk H
                      clear H
                      have p315 : 0 ≤ ((ji97) : Int) := of_decide_eq_true (by first | (with_reducible assumption) | assumption)
                      have q315 : (ji97) < (t292.length : Int) := of_decide_eq_true (by first | (with_reducible assumption) | assumption)
                      obtain ⟨ad315, e315, hx315_0, hx315_1, hx315_2, hx315_3⟩ := at_T38 (Kd.R_reads' HO_7.out).2.2 (ji97) p315 q315
                      obtain rfl : ad311 = ad315 := (by injection e315)
                      replace p315 := eq_true p315
                      replace q315 := eq_true q315
                      go_upto_region 18 with (first | ((with_reducible refine gate_callee (f := 38) rfl ?_); refine goesL_ (some 117) rfl rfl Tryz.func38 (by kernel_rfl) rfl #[.agg #[.bool ((rd_T38 t292 (ji97)).f0.f0), .int .u64 ((rd_T38 t292 (ji97)).f0.f1.f0), .int .u64 ((rd_T38 t292 (ji97)).f0.f1.f1), .int .i64 ((rd_T38 t292 (ji97)).f1)]] rfl (by (try simp only [List.map_toArray, List.map_cons, List.map_nil]); first | done | (simp only [hji97]; rfl) | rfl | (simp only [List.length_drop, List.length_take]; rfl)) ?_; (with_reducible refine (prefix_Last.calls ((rd_T38 t292 (ji97)).f0.f0) ((rd_T38 t292 (ji97)).f0.f1.f0) ((rd_T38 t292 (ji97)).f0.f1.f1) ((rd_T38 t292 (ji97)).f1) t316 t317 t318 _ A100.out).mono ?_); rintro e w104 ⟨rfl, hb⟩; refine ⟨_, rfl, ?_⟩; replace HO_7 := Aside0.mk (Kd.R_below (by (with_reducible repeat (first | apply Kd.R_alloc | apply Kd.R_drewN | apply Kd.R_drew)); exact HO_7.out) hb); replace BK288 := bb_ BK288 hb; replace BK289 := bb_ BK289 hb; replace BK290 := bb_ BK290 hb; replace HB := bs_ HB hb; (try clear hb); (try clear hb2); (try clear hk); (try clear hi)) | ((with_reducible refine gate_callee (f := 59) rfl ?_); refine gl_ (some 118) Tryz.func59 #[.int .u64 1] ?_; (with_reducible refine (num_Of.calls 1 t319 t320 _ A101.out).mono ?_); rintro e w105 ⟨rfl, hb⟩; refine ⟨_, rfl, ?_⟩; replace HO_7 := Aside0.mk (Kd.R_below (by (with_reducible repeat (first | apply Kd.R_alloc | apply Kd.R_drewN | apply Kd.R_drew)); exact HO_7.out) hb); replace BK288 := bb_ BK288 hb; replace BK289 := bb_ BK289 hb; replace BK290 := bb_ BK290 hb; replace HB := bs_ HB hb; (try clear hb); (try clear hb2); (try clear hk); (try clear hi)) | ((with_reducible refine gate_callee (f := 14) rfl ?_); refine gl_ (some 119) Tryz.func14 #[.agg #[.bool t316, .int .u64 t317, .int .u64 t318], .agg #[.int .u64 t319, .int .u64 t320]] ?_; (with_reducible refine (addr_Plus.calls t316 t317 t318 t319 t320 t321 t322 t323 t324 _ A102.out).mono ?_); rintro e w106 ⟨rfl, hb⟩; refine ⟨_, rfl, ?_⟩; replace HO_7 := Aside0.mk (Kd.R_below (by (with_reducible repeat (first | apply Kd.R_alloc | apply Kd.R_drewN | apply Kd.R_drew)); exact HO_7.out) hb); replace BK288 := bb_ BK288 hb; replace BK289 := bb_ BK289 hb; replace BK290 := bb_ BK290 hb; replace HB := bs_ HB hb; (try clear hb); (try clear hb2); (try clear hk); (try clear hi)) | ((with_reducible refine gate_dst (N := 11) rfl ?_); (try (refine gate_guard (by rfl) ?_; dsimp only)); refine bx_ 11 #[.bool false, .int .u64 0, .int .u64 0] 26 ?_; intro gb325 hg w107 hbox hb; have BK325 := Aside0.mk (hbox); have GW325 := gw_ HB hg; have GE325 := gw_ HB hg; have NB288_325 := nl_ BK288 hg; have NB325_288 := ng_ BK288 hg; have NB289_325 := nl_ BK289 hg; have NB325_289 := ng_ BK289 hg; have NB290_325 := nl_ BK290 hg; have NB325_290 := ng_ BK290 hg; replace HO_7 := Aside0.mk (Kd.R_below (by (with_reducible repeat (first | apply Kd.R_alloc | apply Kd.R_drewN | apply Kd.R_drew)); exact HO_7.out) hb); replace BK288 := bb_ BK288 hb; replace BK289 := bb_ BK289 hb; replace BK290 := bb_ BK290 hb; replace HB := bs_ HB hb; clear hb hbox hg; have hnb108 := NB325_288.out; have hnc108 := NB288_325.out; have hnb109 := NB325_289.out; have hnc109 := NB289_325.out; have hnb110 := NB325_290.out; have hnc110 := NB290_325.out; obtain ⟨hcz111_0, hcz111_1, hcz111_2, hfz111_0, hfz111_1, hfz111_2⟩ := c3_ BK325))
                      (try simp only [Act.put, List.setIfInBounds_toArray, List.set_cons_zero, List.set_cons_succ])
                      go_cut [132] (fun v132 wc => ∃ (kq : Nat) (x132_102 : Bool), v132 = .bool x132_102 ∧ Aside0 (platbooklaw04_CarveSpreads.j4 kq t292 x9_89 x10_3 x132_102 a0_0 a0_1 a0_2 a1_0 a1_1 a1_2 a2_0 a2_1 a2_2 = some r) ∧ Aside0 (kq ≤ kj89) ∧ Aside0 (Kd.R k38 38 wc w.heap.size (fun _ => True) (.slice (some ad311) t292.length co91) t292) ∧ Aside0 (wc.heap[gb288]? = some (.cells #[.bool a0_0, .int .u64 a0_1, .int .u64 a0_2] 26 (0, 0))) ∧ Aside0 (wc.heap[gb289]? = some (.cells #[.bool a1_0, .int .u64 a1_1, .int .u64 a1_2] 26 (0, 0))) ∧ Aside0 (wc.heap[gb290]? = some (.cells #[.bool a2_0, .int .u64 a2_1, .int .u64 a2_2] 26 (0, 0))) ∧ Aside0 (wc.heap[gb325]? = some (.cells #[.bool t321, .int .u64 t322, .int .u64 t323] 26 (0, 0))) ∧ Aside0 (Below w.heap.size w wc))
                      case first =>
                       have H := HC103.out
                       clear HC103
                       by_cases c112 : t324 = 0
                       ·
                        rw [if_pos c112] at H
                        have c112b0 : (t324 == 0) = true := beq_iff_eq.mpr c112
                        have c112b1 : (t324 != 0) = false := bne_eq_false_iff_eq.mpr c112
                        clear c112
                        (first | rw [c112b0] | (simp only [i64_w, i32_w]; rw [c112b0]) | skip)
                        by_cases c113 : 0 ≤ x10_3
                        ·
                         rw [if_pos c113] at H
                         have c113b0 : decide (0 ≤ x10_3) = true := decide_eq_true c113
                         clear c113
                         by_cases c114 : x10_3 < (t292.length : Int)
                         ·
                          rw [if_pos c114] at H
                          have c114b0 : decide (x10_3 < (t292.length : Int)) = true := decide_eq_true c114
                          clear c114
                          replace H := Option.bind_eq_some_iff.mp H
                          obtain ⟨⟨t327, t328, t329⟩, A1150, H⟩ := H
                          replace H : (platbooklaw04_CarveSpreads.j4 kj89 t292 x9_89 x10_3 (!(t327 == t321) || ((!(t328 == t322) || (!(t329 == t323))))) a0_0 a0_1 a0_2 a1_0 a1_1 a1_2 a2_0 a2_1 a2_2) = some r := H
                          have A115 := Aside0.mk A1150
                          clear A1150
                          have H' := Aside0.mk H
                          clear H
                          try go_wp2
                          have n0_ : Aside0 (Kd.R k38 38 (((w107.setCell ⟨gb325, 0, none⟩ (.bool t321)).setCell ⟨gb325, 1, none⟩ (.int .u64 t322)).setCell ⟨gb325, 2, none⟩ (.int .u64 t323)) w.heap.size (fun _ => True) (.slice (some ad311) t292.length co91) t292) := ⟨by (with_reducible repeat (first | apply Kd.R_alloc | apply Kd.R_drewN | apply Kd.R_drew)); exact Kd.R_mono (Kd.R_far (p := ⟨gb325, 2, none⟩) (Kd.R_far (p := ⟨gb325, 1, none⟩) (Kd.R_far (p := ⟨gb325, 0, none⟩) (Kd.R_types HO_7.out BK325.out (by decide)) (fun _ hk => hk.2) (.bool t321)) (fun _ hk => hk.2) (.int .u64 t322)) (fun _ hk => hk.2) (.int .u64 t323)) (fun _ hk => trivial)⟩
                          have n1_ : Aside0 ((((w107.setCell ⟨gb325, 0, none⟩ (.bool t321)).setCell ⟨gb325, 1, none⟩ (.int .u64 t322)).setCell ⟨gb325, 2, none⟩ (.int .u64 t323)).heap[gb288]? = some (.cells #[.bool a0_0, .int .u64 a0_1, .int .u64 a0_2] 26 (0, 0))) := ⟨by refine pw_ ?_; refine blk_far ?_ NB288_325.out _; refine pw_ ?_; refine blk_far ?_ NB288_325.out _; refine pw_ ?_; refine blk_far ?_ NB288_325.out _; refine pw_ ?_; exact BK288.out⟩
                          have n2_ : Aside0 ((((w107.setCell ⟨gb325, 0, none⟩ (.bool t321)).setCell ⟨gb325, 1, none⟩ (.int .u64 t322)).setCell ⟨gb325, 2, none⟩ (.int .u64 t323)).heap[gb289]? = some (.cells #[.bool a1_0, .int .u64 a1_1, .int .u64 a1_2] 26 (0, 0))) := ⟨by refine pw_ ?_; refine blk_far ?_ NB289_325.out _; refine pw_ ?_; refine blk_far ?_ NB289_325.out _; refine pw_ ?_; refine blk_far ?_ NB289_325.out _; refine pw_ ?_; exact BK289.out⟩
                          have n3_ : Aside0 ((((w107.setCell ⟨gb325, 0, none⟩ (.bool t321)).setCell ⟨gb325, 1, none⟩ (.int .u64 t322)).setCell ⟨gb325, 2, none⟩ (.int .u64 t323)).heap[gb290]? = some (.cells #[.bool a2_0, .int .u64 a2_1, .int .u64 a2_2] 26 (0, 0))) := ⟨by refine pw_ ?_; refine blk_far ?_ NB290_325.out _; refine pw_ ?_; refine blk_far ?_ NB290_325.out _; refine pw_ ?_; refine blk_far ?_ NB290_325.out _; refine pw_ ?_; exact BK290.out⟩
                          have n4_ : Aside0 ((((w107.setCell ⟨gb325, 0, none⟩ (.bool t321)).setCell ⟨gb325, 1, none⟩ (.int .u64 t322)).setCell ⟨gb325, 2, none⟩ (.int .u64 t323)).heap[gb325]? = some (.cells #[.bool t321, .int .u64 t322, .int .u64 t323] 26 (0, 0))) := ⟨by refine pw_ ?_; refine blk_put (cs := #[.bool t321, .int .u64 t322, .int .u64 0]) ?_ 2 _ rfl; refine pw_ ?_; refine blk_put (cs := #[.bool t321, .int .u64 0, .int .u64 0]) ?_ 1 _ rfl; refine pw_ ?_; refine blk_put (cs := #[.bool false, .int .u64 0, .int .u64 0]) ?_ 0 _ rfl; refine pw_ ?_; exact BK325.out⟩
                          have n5_ : Aside0 (Below w.heap.size w (((w107.setCell ⟨gb325, 0, none⟩ (.bool t321)).setCell ⟨gb325, 1, none⟩ (.int .u64 t322)).setCell ⟨gb325, 2, none⟩ (.int .u64 t323))) := ⟨pb_ HB⟩
                          (try clear HO_7)
                          (try clear BK288)
                          (try clear BK289)
                          (try clear BK290)
                          (try clear BK325)
                          (try clear HB)
                          generalize (((w107.setCell ⟨gb325, 0, none⟩ (.bool t321)).setCell ⟨gb325, 1, none⟩ (.int .u64 t322)).setCell ⟨gb325, 2, none⟩ (.int .u64 t323)) = w116 at n0_ n1_ n2_ n3_ n4_ n5_ ⊢
                          have HO_7 := n0_
                          have BK288 := n1_
                          have BK289 := n2_
                          have BK290 := n3_
                          have BK325 := n4_
                          have HB := n5_
                          clear n0_ n1_ n2_ n3_ n4_ n5_
                          replace HO_7 := Aside0.mk (Kd.R_drew HO_7.out)
                          replace BK288 := Aside0.mk (blk_drew BK288.out)
                          replace BK289 := Aside0.mk (blk_drew BK289.out)
                          replace BK290 := Aside0.mk (blk_drew BK290.out)
                          replace BK325 := Aside0.mk (blk_drew BK325.out)
                          replace HB := Aside0.mk (below_drew1 HB.out)
                          have p326 : 0 ≤ (x10_3 : Int) := of_decide_eq_true (by first | (with_reducible assumption) | assumption)
                          have q326 : x10_3 < (t292.length : Int) := of_decide_eq_true (by first | (with_reducible assumption) | assumption)
                          obtain ⟨ad326, e326, hx326_0, hx326_1, hx326_2, hx326_3⟩ := at_T38 (Kd.R_reads' HO_7.out).2.2 x10_3 p326 q326
                          obtain rfl : ad311 = ad326 := (by injection e326)
                          replace p326 := eq_true p326
                          replace q326 := eq_true q326
                          refine start_ (n := 11) (S := fun w' => w'.cell? ⟨gb325, 0, none⟩ = some (.bool t321) ∧ w'.cell? ⟨gb325, 1, none⟩ = some (.int .u64 t322) ∧ w'.cell? ⟨gb325, 2, none⟩ = some (.int .u64 t323) ∧ w'.cell? (ad311.add ((x10_3).toNat * 4)) = some (.bool ((rd_T38 t292 x10_3).f0.f0)) ∧ w'.cell? ⟨(ad311.add ((x10_3).toNat * 4)).block, (ad311.add ((x10_3).toNat * 4)).off + 1, none⟩ = some (.int .u64 ((rd_T38 t292 x10_3).f0.f1.f0)) ∧ w'.cell? ⟨(ad311.add ((x10_3).toNat * 4)).block, (ad311.add ((x10_3).toNat * 4)).off + 2, none⟩ = some (.int .u64 ((rd_T38 t292 x10_3).f0.f1.f1)) ∧ w'.cell? ⟨(ad311.add ((x10_3).toNat * 4)).block, (ad311.add ((x10_3).toNat * 4)).off + 3, none⟩ = some (.int .i64 ((rd_T38 t292 x10_3).f1))) (ds := []) (bm_ 11 0) (by kernel_rfl) rfl rfl ⟨kc_ BK325 0, kc_ BK325 1, kc_ BK325 2, hx326_0, hx326_1, hx326_2, hx326_3⟩ (fun hHeld => ?_); refine with_tabW platbooklaw04_CarveSpreads.tab18 platbooklaw04_CarveSpreads.bits18 (fun HT_ HW_ => ?_)
                          generalize w116.drew = w117 at HO_7 BK288 BK289 BK290 BK325 HB hx326_0 hx326_1 hx326_2 hx326_3 hHeld ⊢
                          refine pu_ 0 (some 122) (bm_ 11 1) rfl HT_ ⟨by rfl, by intro w'; go_simp; with_reducible rfl⟩ ?_
                          refine pu_ 1 (some 123) (bm_ 11 3) rfl HT_ ⟨by rfl, by intro w'; go_simp; with_reducible rfl⟩ ?_
                          refine pu_ 2 (some 124) (bm_ 11 7) rfl HT_ ⟨by rfl, by intro w'; go_simp; with_reducible rfl⟩ ?_
                          refine pu_ 3 (some 125) (bm_ 11 15) rfl HT_ ⟨by rfl, by intro w'; go_simp; with_reducible rfl⟩ ?_
                          refine pu_ 4 (some 126) (bm_ 11 31) rfl HT_ ⟨by rfl, by intro w'; go_simp; with_reducible rfl⟩ ?_
                          refine pu_ 5 (some 127) (bm_ 11 63) rfl HT_ ⟨by rfl, by intro w'; go_simp; with_reducible rfl⟩ ?_
                          refine ta_ 6 (some 128) (bm_ 11 127) rfl HT_ HW_ ⟨by rfl, by rintro w' ⟨s0, s1, s2, s3, s4, s5, s6⟩; go_simp; with_reducible rfl⟩ hHeld ?_
                          refine ta_ 8 (some 130) (bm_ 11 383) rfl HT_ HW_ ⟨by rfl, by rintro w' ⟨s0, s1, s2, s3, s4, s5, s6⟩; go_simp; with_reducible rfl⟩ hHeld ?_
                          refine one_ (i := 7) (N := some 129) (bm_ 11 511) rfl rfl (one_of HT_.out (by kernel_rfl)) (by decide) (fun K hK => ?_)
                          refine gr_ Tryz.func37 #[.agg #[.bool ((rd_T38 t292 x10_3).f0.f0), .int .u64 ((rd_T38 t292 x10_3).f0.f1.f0), .int .u64 ((rd_T38 t292 x10_3).f0.f1.f1), .int .i64 ((rd_T38 t292 x10_3).f1)]] ?_
                          with_reducible refine (prefix_First.calls ((rd_T38 t292 x10_3).f0.f0) ((rd_T38 t292 x10_3).f0.f1.f0) ((rd_T38 t292 x10_3).f0.f1.f1) ((rd_T38 t292 x10_3).f1) t327 t328 t329 _ A115.out).mono ?_
                          rintro e w118 ⟨rfl, hb⟩
                          have HS3_ := (hb.cell (World.block_lt_of_cell? _ _ (hHeld.2.2.2.1))).trans (hHeld.2.2.2.1)
                          have HS4_ := (hb.cell (World.block_lt_of_cell? _ _ (hHeld.2.2.2.2.1))).trans (hHeld.2.2.2.2.1)
                          have HS5_ := (hb.cell (World.block_lt_of_cell? _ _ (hHeld.2.2.2.2.2.1))).trans (hHeld.2.2.2.2.2.1)
                          have HS6_ := (hb.cell (World.block_lt_of_cell? _ _ (hHeld.2.2.2.2.2.2))).trans (hHeld.2.2.2.2.2.2)
                          refine ⟨_, rfl, ?_⟩
                          replace HO_7 := Aside0.mk (Kd.R_below (by (with_reducible repeat (first | apply Kd.R_alloc | apply Kd.R_drewN | apply Kd.R_drew)); exact HO_7.out) hb)
                          replace BK288 := bb_ BK288 hb
                          replace BK289 := bb_ BK289 hb
                          replace BK290 := bb_ BK290 hb
                          replace BK325 := bb_ BK325 hb
                          replace HB := bs_ HB hb
                          (try clear hb)
                          (try clear hb2)
                          (try clear hk)
                          (try clear hi)
                          refine hK.out _ _ ⟨kc_ BK325 0, kc_ BK325 1, kc_ BK325 2, HS3_, HS4_, HS5_, HS6_⟩ (fun hHeld => ?_)
                          clear hK K
                          refine norm_ (a' := ?_) ?_ ?_
                          rotate_left
                          ·
                           show Act.put _ (some 129) _ = _
                           simp only [Act.put, List.setIfInBounds_toArray, List.set_cons_zero, List.set_cons_succ, i64_w, i32_w]
                           rfl
                          refine pu_ 9 (some 131) (bm_ 11 1023) rfl HT_ ⟨by rfl, by intro w'; go_simp; with_reducible rfl⟩ ?_
                          refine pu_ 10 (some 132) (bm_ 11 2047) rfl HT_ ⟨by rfl, by intro w'; go_simp; with_reducible rfl⟩ ?_
                          refine done_ (done_of HT_.out (by kernel_rfl)) ?_
                          try go_wp2
                          go_meet
                          case rel => exact ⟨_, ((!(t327 == t321) || ((!(t328 == t322) || (!(t329 == t323)))))), (by first | rfl | (simp; done) | (simp [*]; done)), H', ⟨by have := HJ6.out; have := HJ56.out; have := HK3.out; have := HJ89.out; first | omega | exact Nat.le_refl _⟩, ⟨by (with_reducible repeat (first | apply Kd.R_alloc | apply Kd.R_drewN | apply Kd.R_drew)); exact HO_7.out⟩, ⟨by refine pw_ ?_; exact BK288.out⟩, ⟨by refine pw_ ?_; exact BK289.out⟩, ⟨by refine pw_ ?_; exact BK290.out⟩, ⟨by refine pw_ ?_; exact BK325.out⟩, ⟨pb_ HB⟩⟩
                         ·
                          rw [if_neg c114] at H
                          exact absurd H (by simp)
                        ·
                         rw [if_neg c113] at H
                         exact absurd H (by simp)
                       ·
                        rw [if_neg c112] at H
                        have c112b0 : (t324 == 0) = false := beq_eq_false_iff_ne.mpr c112
                        have c112b1 : (t324 != 0) = true := bne_iff_ne.mpr c112
                        (first | rw [c112b0] | (simp only [i64_w, i32_w]; rw [c112b0]) | skip)
                        have H' := Aside0.mk H
                        clear H
                        try go_wp2
                        have n0_ : Aside0 (Kd.R k38 38 (((w107.setCell ⟨gb325, 0, none⟩ (.bool t321)).setCell ⟨gb325, 1, none⟩ (.int .u64 t322)).setCell ⟨gb325, 2, none⟩ (.int .u64 t323)) w.heap.size (fun _ => True) (.slice (some ad311) t292.length co91) t292) := ⟨by (with_reducible repeat (first | apply Kd.R_alloc | apply Kd.R_drewN | apply Kd.R_drew)); exact Kd.R_mono (Kd.R_far (p := ⟨gb325, 2, none⟩) (Kd.R_far (p := ⟨gb325, 1, none⟩) (Kd.R_far (p := ⟨gb325, 0, none⟩) (Kd.R_types HO_7.out BK325.out (by decide)) (fun _ hk => hk.2) (.bool t321)) (fun _ hk => hk.2) (.int .u64 t322)) (fun _ hk => hk.2) (.int .u64 t323)) (fun _ hk => trivial)⟩
                        have n1_ : Aside0 ((((w107.setCell ⟨gb325, 0, none⟩ (.bool t321)).setCell ⟨gb325, 1, none⟩ (.int .u64 t322)).setCell ⟨gb325, 2, none⟩ (.int .u64 t323)).heap[gb288]? = some (.cells #[.bool a0_0, .int .u64 a0_1, .int .u64 a0_2] 26 (0, 0))) := ⟨by refine pw_ ?_; refine blk_far ?_ NB288_325.out _; refine pw_ ?_; refine blk_far ?_ NB288_325.out _; refine pw_ ?_; refine blk_far ?_ NB288_325.out _; refine pw_ ?_; exact BK288.out⟩
                        have n2_ : Aside0 ((((w107.setCell ⟨gb325, 0, none⟩ (.bool t321)).setCell ⟨gb325, 1, none⟩ (.int .u64 t322)).setCell ⟨gb325, 2, none⟩ (.int .u64 t323)).heap[gb289]? = some (.cells #[.bool a1_0, .int .u64 a1_1, .int .u64 a1_2] 26 (0, 0))) := ⟨by refine pw_ ?_; refine blk_far ?_ NB289_325.out _; refine pw_ ?_; refine blk_far ?_ NB289_325.out _; refine pw_ ?_; refine blk_far ?_ NB289_325.out _; refine pw_ ?_; exact BK289.out⟩
                        have n3_ : Aside0 ((((w107.setCell ⟨gb325, 0, none⟩ (.bool t321)).setCell ⟨gb325, 1, none⟩ (.int .u64 t322)).setCell ⟨gb325, 2, none⟩ (.int .u64 t323)).heap[gb290]? = some (.cells #[.bool a2_0, .int .u64 a2_1, .int .u64 a2_2] 26 (0, 0))) := ⟨by refine pw_ ?_; refine blk_far ?_ NB290_325.out _; refine pw_ ?_; refine blk_far ?_ NB290_325.out _; refine pw_ ?_; refine blk_far ?_ NB290_325.out _; refine pw_ ?_; exact BK290.out⟩
                        have n4_ : Aside0 ((((w107.setCell ⟨gb325, 0, none⟩ (.bool t321)).setCell ⟨gb325, 1, none⟩ (.int .u64 t322)).setCell ⟨gb325, 2, none⟩ (.int .u64 t323)).heap[gb325]? = some (.cells #[.bool t321, .int .u64 t322, .int .u64 t323] 26 (0, 0))) := ⟨by refine pw_ ?_; refine blk_put (cs := #[.bool t321, .int .u64 t322, .int .u64 0]) ?_ 2 _ rfl; refine pw_ ?_; refine blk_put (cs := #[.bool t321, .int .u64 0, .int .u64 0]) ?_ 1 _ rfl; refine pw_ ?_; refine blk_put (cs := #[.bool false, .int .u64 0, .int .u64 0]) ?_ 0 _ rfl; refine pw_ ?_; exact BK325.out⟩
                        have n5_ : Aside0 (Below w.heap.size w (((w107.setCell ⟨gb325, 0, none⟩ (.bool t321)).setCell ⟨gb325, 1, none⟩ (.int .u64 t322)).setCell ⟨gb325, 2, none⟩ (.int .u64 t323))) := ⟨pb_ HB⟩
                        (try clear HO_7)
                        (try clear BK288)
                        (try clear BK289)
                        (try clear BK290)
                        (try clear BK325)
                        (try clear HB)
                        generalize (((w107.setCell ⟨gb325, 0, none⟩ (.bool t321)).setCell ⟨gb325, 1, none⟩ (.int .u64 t322)).setCell ⟨gb325, 2, none⟩ (.int .u64 t323)) = w119 at n0_ n1_ n2_ n3_ n4_ n5_ ⊢
                        have HO_7 := n0_
                        have BK288 := n1_
                        have BK289 := n2_
                        have BK290 := n3_
                        have BK325 := n4_
                        have HB := n5_
                        clear n0_ n1_ n2_ n3_ n4_ n5_
                        replace HO_7 := Aside0.mk (Kd.R_drew HO_7.out)
                        replace BK288 := Aside0.mk (blk_drew BK288.out)
                        replace BK289 := Aside0.mk (blk_drew BK289.out)
                        replace BK290 := Aside0.mk (blk_drew BK290.out)
                        replace BK325 := Aside0.mk (blk_drew BK325.out)
                        replace HB := Aside0.mk (below_drew1 HB.out)
                        refine start_ (n := 11) (S := fun w' => True) (ds := []) (bm_ 11 0) (by kernel_rfl) rfl rfl trivial (fun hHeld => ?_); refine with_tabW platbooklaw04_CarveSpreads.tab18 platbooklaw04_CarveSpreads.bits18 (fun HT_ HW_ => ?_)
                        generalize w119.drew = w120 at HO_7 BK288 BK289 BK290 BK325 HB hHeld ⊢
                        refine pu_ 0 (some 122) (bm_ 11 1) rfl HT_ ⟨by rfl, by intro w'; go_simp; with_reducible rfl⟩ ?_
                        refine pu_ 1 (some 123) (bm_ 11 3) rfl HT_ ⟨by rfl, by intro w'; go_simp; with_reducible rfl⟩ ?_
                        refine pu_ 2 (some 124) (bm_ 11 7) rfl HT_ ⟨by rfl, by intro w'; go_simp; with_reducible rfl⟩ ?_
                        refine pure_ (i := 3) (N := some 125) (v := undef) (a' := ?_) (bm_ 11 15) rfl rfl (any_of HT_.out (by kernel_rfl)) (fun _ _ _ h => h) (Or.inr ⟨by rfl, rfl⟩) ?_ ?_
                        rotate_left
                        ·
                         simp only [Act.put, List.setIfInBounds_toArray, List.set_cons_zero, List.set_cons_succ, i64_w, i32_w]
                         rfl
                        refine pure_ (i := 4) (N := some 126) (v := undef) (a' := ?_) (bm_ 11 31) rfl rfl (any_of HT_.out (by kernel_rfl)) (fun _ _ _ h => h) (Or.inr ⟨by rfl, rfl⟩) ?_ ?_
                        rotate_left
                        ·
                         simp only [Act.put, List.setIfInBounds_toArray, List.set_cons_zero, List.set_cons_succ, i64_w, i32_w]
                         rfl
                        refine pure_ (i := 5) (N := some 127) (v := undef) (a' := ?_) (bm_ 11 63) rfl rfl (any_of HT_.out (by kernel_rfl)) (fun _ _ _ h => h) (Or.inr ⟨by rfl, rfl⟩) ?_ ?_
                        rotate_left
                        ·
                         simp only [Act.put, List.setIfInBounds_toArray, List.set_cons_zero, List.set_cons_succ, i64_w, i32_w]
                         rfl
                        refine pure_ (i := 6) (N := some 128) (v := undef) (a' := ?_) (bm_ 11 127) rfl rfl (any_of HT_.out (by kernel_rfl)) (fun _ _ _ h => h) (Or.inr ⟨by rfl, rfl⟩) ?_ ?_
                        rotate_left
                        ·
                         simp only [Act.put, List.setIfInBounds_toArray, List.set_cons_zero, List.set_cons_succ, i64_w, i32_w]
                         rfl
                        refine pure_ (i := 7) (N := some 129) (v := undef) (a' := ?_) (bm_ 11 255) rfl rfl (any_of HT_.out (by kernel_rfl)) (fun _ _ _ h => h) (Or.inr ⟨by rfl, rfl⟩) ?_ ?_
                        rotate_left
                        ·
                         simp only [Act.put, List.setIfInBounds_toArray, List.set_cons_zero, List.set_cons_succ, i64_w, i32_w]
                         rfl
                        refine pure_ (i := 8) (N := some 130) (v := undef) (a' := ?_) (bm_ 11 511) rfl rfl (any_of HT_.out (by kernel_rfl)) (fun _ _ _ h => h) (Or.inr ⟨by rfl, rfl⟩) ?_ ?_
                        rotate_left
                        ·
                         simp only [Act.put, List.setIfInBounds_toArray, List.set_cons_zero, List.set_cons_succ, i64_w, i32_w]
                         rfl
                        refine pure_ (i := 9) (N := some 131) (v := undef) (a' := ?_) (bm_ 11 1023) rfl rfl (any_of HT_.out (by kernel_rfl)) (fun _ _ _ h => h) (Or.inr ⟨by rfl, rfl⟩) ?_ ?_
                        rotate_left
                        ·
                         simp only [Act.put, List.setIfInBounds_toArray, List.set_cons_zero, List.set_cons_succ, i64_w, i32_w]
                         rfl
                        refine pu_ 10 (some 132) (bm_ 11 2047) rfl HT_ ⟨by rfl, by intro w'; go_simp; with_reducible rfl⟩ ?_
                        refine done_ (done_of HT_.out (by kernel_rfl)) ?_
                        try go_wp2
                        go_meet
                        case rel => exact ⟨_, (true), (by first | rfl | (simp; done) | (simp [*]; done)), H', ⟨by have := HJ6.out; have := HJ56.out; have := HK3.out; have := HJ89.out; first | omega | exact Nat.le_refl _⟩, ⟨by (with_reducible repeat (first | apply Kd.R_alloc | apply Kd.R_drewN | apply Kd.R_drew)); exact HO_7.out⟩, ⟨by refine pw_ ?_; exact BK288.out⟩, ⟨by refine pw_ ?_; exact BK289.out⟩, ⟨by refine pw_ ?_; exact BK290.out⟩, ⟨by refine pw_ ?_; exact BK325.out⟩, ⟨pb_ HB⟩⟩
                      case rest =>
                       as_aux_lemma =>
                        clear HC103
                        try clear c1
                        try clear c2
                        try clear p2
                        try clear c3
                        try clear p3
                        try clear q3
                        try clear hx3
                        try clear qi3
                        try clear c4
                        try clear c5
                        try clear c6
                        try clear p6
                        try clear c7
                        try clear c8
                        try clear c9
                        try clear c10
                        try clear c11
                        try clear c14
                        try clear c22
                        try clear c29
                        try clear p30
                        try clear q30
                        try clear hx30
                        try clear qi30
                        try clear p31
                        try clear q31
                        try clear hx31
                        try clear p32
                        try clear q32
                        try clear hx32
                        try clear c37
                        try clear c38
                        try clear c40
                        try clear c58
                        try clear c58b0
                        try clear c58b1
                        try clear c59
                        try clear p64
                        try clear c67
                        try clear c69
                        try clear c69b0
                        try clear c75
                        try clear c75b0
                        try clear c76
                        try clear c76b0
                        try clear c84
                        try clear c85
                        try clear c85b0
                        try clear c86
                        try clear c86b0
                        try clear c88
                        try clear c95
                        try clear c96
                        try clear c96b0
                        try clear c96b1
                        try clear c98
                        try clear c98b0
                        try clear c99
                        try clear c99b0
                        try clear c108
                        try clear c109
                        try clear c110
                        try clear c112
                        try clear c112b0
                        try clear c112b1
                        try clear c113
                        try clear c113b0
                        try clear c114
                        try clear c114b0
                        try clear hcz111_0
                        try clear hcz111_1
                        try clear hcz111_2
                        try clear hfz111_0
                        try clear hfz111_1
                        try clear hfz111_2
                        try clear hx300_0
                        try clear hx300_1
                        try clear hx300_2
                        try clear hx300_3
                        try clear hx304_0
                        try clear hx304_1
                        try clear hx304_2
                        try clear hx304_3
                        try clear hx311_0
                        try clear hx311_1
                        try clear hx311_2
                        try clear hx311_3
                        try clear hx313_0
                        try clear hx313_1
                        try clear hx313_2
                        try clear hx313_3
                        try clear hx315_0
                        try clear hx315_1
                        try clear hx315_2
                        try clear hx315_3
                        try clear hx326_0
                        try clear hx326_1
                        try clear hx326_2
                        try clear hx326_3
                        try clear p2
                        try clear p3
                        try clear p30
                        try clear p300
                        try clear p304
                        try clear p31
                        try clear p311
                        try clear p313
                        try clear p315
                        try clear p326
                        try clear p6
                        try clear p64
                        try clear q3
                        try clear q30
                        try clear q300
                        try clear q304
                        try clear q31
                        try clear q311
                        try clear q313
                        try clear q315
                        try clear q326
                        obtain ⟨kq, x132_102, rfl, HA, HJ102, HO_7, BK288, BK289, BK290, BK325, HB⟩ := hcut
                        cases kq with
                        | zero => exact absurd HA.out (by simp [platbooklaw04_CarveSpreads.j4])
                        | succ kj102 =>
                         have H := HA.out
                         clear HA
                         simp only [platbooklaw04_CarveSpreads.j4] at H
                         by_cases c121 : x132_102 = true
                         ·
                          subst c121
                          rw [if_pos rfl] at H
                          obtain rfl := Option.some.inj H
                          exact absurd HRT.out (by decide)
                         ·
                          replace c121 := Bool.eq_false_iff.mpr c121
                          subst c121
                          have H1 : (if 0 ≤ x10_3 then (if x10_3 < (t292.length : Int) then (if 0 ≤ (wrap64 (x10_3 - 1)) then (if (wrap64 (x10_3 - 1)) < (t292.length : Int) then (if ((rd_T38 t292 x10_3).f1) = ((rd_T38 t292 (wrap64 (x10_3 - 1))).f1) then ((prefix_Of.f kj102 ((rd_T38 t292 x10_3).f0.f0) ((rd_T38 t292 x10_3).f0.f1.f0) ((rd_T38 t292 x10_3).f0.f1.f1) (wrap64 (((rd_T38 t292 x10_3).f1) - 1))).bind fun bt334 => ((prefix_Halves.f bt334.1 bt334.2.1 bt334.2.2.1 bt334.2.2.2.1).bind fun bt340 => (if ((bt340.1 == ((rd_T38 t292 (wrap64 (x10_3 - 1))).f0.f0) && ((bt340.2.1 == ((rd_T38 t292 (wrap64 (x10_3 - 1))).f0.f1.f0) && (bt340.2.2.1 == ((rd_T38 t292 (wrap64 (x10_3 - 1))).f0.f1.f1))))) && (bt340.2.2.2.1 == ((rd_T38 t292 (wrap64 (x10_3 - 1))).f1))) = true then (some false) else (platbooklaw04_CarveSpreads.l0 kj102 t292 x9_89 (wrap64 (x10_3 + 1)) a0_0 a0_1 a0_2 a1_0 a1_1 a1_2 a2_0 a2_1 a2_2)))) else (platbooklaw04_CarveSpreads.l0 kj102 t292 x9_89 (wrap64 (x10_3 + 1)) a0_0 a0_1 a0_2 a1_0 a1_1 a1_2 a2_0 a2_1 a2_2)) else (none)) else (none)) else (none)) else (none)) = some r := by rw [if_neg (show ¬ (false = true) by decide)] at H; exact H
                          clear H
                          have H := H1
                          clear H1
                          by_cases c122 : 0 ≤ x10_3
                          ·
                           rw [if_pos c122] at H
                           have c122b0 : decide (0 ≤ x10_3) = true := decide_eq_true c122
                           clear c122
                           by_cases c123 : x10_3 < (t292.length : Int)
                           ·
                            rw [if_pos c123] at H
                            have c123b0 : decide (x10_3 < (t292.length : Int)) = true := decide_eq_true c123
                            clear c123
                            obtain ⟨ji124, hji124⟩ : ∃ j_ : Int, (wrap64 (x10_3 - 1)) = j_ := ⟨_, rfl⟩
                            replace H : (if 0 ≤ (ji124) then (if (ji124) < (t292.length : Int) then (if ((rd_T38 t292 x10_3).f1) = ((rd_T38 t292 (ji124)).f1) then ((prefix_Of.f kj102 ((rd_T38 t292 x10_3).f0.f0) ((rd_T38 t292 x10_3).f0.f1.f0) ((rd_T38 t292 x10_3).f0.f1.f1) (wrap64 (((rd_T38 t292 x10_3).f1) - 1))).bind fun bt334 => ((prefix_Halves.f bt334.1 bt334.2.1 bt334.2.2.1 bt334.2.2.2.1).bind fun bt340 => (if ((bt340.1 == ((rd_T38 t292 (ji124)).f0.f0) && ((bt340.2.1 == ((rd_T38 t292 (ji124)).f0.f1.f0) && (bt340.2.2.1 == ((rd_T38 t292 (ji124)).f0.f1.f1))))) && (bt340.2.2.2.1 == ((rd_T38 t292 (ji124)).f1))) = true then (some false) else (platbooklaw04_CarveSpreads.l0 kj102 t292 x9_89 (wrap64 (x10_3 + 1)) a0_0 a0_1 a0_2 a1_0 a1_1 a1_2 a2_0 a2_1 a2_2)))) else (platbooklaw04_CarveSpreads.l0 kj102 t292 x9_89 (wrap64 (x10_3 + 1)) a0_0 a0_1 a0_2 a1_0 a1_1 a1_2 a2_0 a2_1 a2_2)) else (none)) else (none)) = some r := by first | (rw [hji124] at H; exact H) | (simp only [hji124] at H ⊢; exact H)
                            have hji124w : (IntKind.i64.wrap (x10_3 - 1)) = ji124 := (i64_w _).trans hji124
                            obtain rfl : ji124 = ji97 := hji124.symm.trans hji97
                            by_cases c125 : 0 ≤ (ji124)
                            ·
                             rw [if_pos c125] at H
                             have c125b0 : decide (0 ≤ (ji124)) = true := decide_eq_true c125
                             clear c125
                             by_cases c126 : (ji124) < (t292.length : Int)
                             ·
                              rw [if_pos c126] at H
                              have c126b0 : decide ((ji124) < (t292.length : Int)) = true := decide_eq_true c126
                              clear c126
                              by_cases c127 : ((rd_T38 t292 x10_3).f1) = ((rd_T38 t292 (ji124)).f1)
                              ·
                               rw [if_pos c127] at H
                               have c127b0 : (((rd_T38 t292 x10_3).f1) == ((rd_T38 t292 (ji124)).f1)) = true := beq_iff_eq.mpr c127
                               have c127b1 : (((rd_T38 t292 x10_3).f1) != ((rd_T38 t292 (ji124)).f1)) = false := bne_eq_false_iff_eq.mpr c127
                               clear c127
                               replace H := Option.bind_eq_some_iff.mp H
                               obtain ⟨⟨t334, t335, t336, t337, t338⟩, A1280, H⟩ := H
                               replace H : ((prefix_Halves.f t334 t335 t336 t337).bind fun bt340 => (if ((bt340.1 == ((rd_T38 t292 (ji124)).f0.f0) && ((bt340.2.1 == ((rd_T38 t292 (ji124)).f0.f1.f0) && (bt340.2.2.1 == ((rd_T38 t292 (ji124)).f0.f1.f1))))) && (bt340.2.2.2.1 == ((rd_T38 t292 (ji124)).f1))) = true then (some false) else (platbooklaw04_CarveSpreads.l0 kj102 t292 x9_89 (wrap64 (x10_3 + 1)) a0_0 a0_1 a0_2 a1_0 a1_1 a1_2 a2_0 a2_1 a2_2))) = some r := H
                               have A128 := Aside0.mk A1280
                               clear A1280
                               replace H := Option.bind_eq_some_iff.mp H
                               obtain ⟨⟨t340, t341, t342, t343, t344, t345, t346, t347, t348⟩, A1290, H⟩ := H
                               replace H : (if ((t340 == ((rd_T38 t292 (ji124)).f0.f0) && ((t341 == ((rd_T38 t292 (ji124)).f0.f1.f0) && (t342 == ((rd_T38 t292 (ji124)).f0.f1.f1))))) && (t343 == ((rd_T38 t292 (ji124)).f1))) = true then (some false) else (platbooklaw04_CarveSpreads.l0 kj102 t292 x9_89 (wrap64 (x10_3 + 1)) a0_0 a0_1 a0_2 a1_0 a1_1 a1_2 a2_0 a2_1 a2_2)) = some r := H
                               have A129 := Aside0.mk A1290
                               clear A1290
                               by_cases c130 : ((t340 == ((rd_T38 t292 (ji124)).f0.f0) && ((t341 == ((rd_T38 t292 (ji124)).f0.f1.f0) && (t342 == ((rd_T38 t292 (ji124)).f0.f1.f1))))) && (t343 == ((rd_T38 t292 (ji124)).f1))) = true
                               ·
                                rw [if_pos c130] at H
                                have c130b0 : ((t340 == ((rd_T38 t292 (ji124)).f0.f0) && ((t341 == ((rd_T38 t292 (ji124)).f0.f1.f0) && (t342 == ((rd_T38 t292 (ji124)).f0.f1.f1))))) && (t343 == ((rd_T38 t292 (ji124)).f1))) = true := c130
                                clear c130
                                obtain rfl := Option.some.inj H
                                exact absurd HRT.out (by decide)
                               ·
                                rw [if_neg c130] at H
                                have c130b0 : ((t340 == ((rd_T38 t292 (ji124)).f0.f0) && ((t341 == ((rd_T38 t292 (ji124)).f0.f1.f0) && (t342 == ((rd_T38 t292 (ji124)).f0.f1.f1))))) && (t343 == ((rd_T38 t292 (ji124)).f1))) = false := by simpa using c130
                                clear c130
                                have H' := Aside0.mk H
                                clear H
                                try go_wp2
                                replace HO_7 := Aside0.mk (Kd.R_drew HO_7.out)
                                replace BK288 := Aside0.mk (blk_drew BK288.out)
                                replace BK289 := Aside0.mk (blk_drew BK289.out)
                                replace BK290 := Aside0.mk (blk_drew BK290.out)
                                replace BK325 := Aside0.mk (blk_drew BK325.out)
                                replace HB := Aside0.mk (below_drew1 HB.out)
                                have p330 : 0 ≤ (x10_3 : Int) := of_decide_eq_true (by first | (with_reducible assumption) | assumption)
                                have q330 : x10_3 < (t292.length : Int) := of_decide_eq_true (by first | (with_reducible assumption) | assumption)
                                obtain ⟨ad330, e330, hx330_0, hx330_1, hx330_2, hx330_3⟩ := at_T38 (Kd.R_reads' HO_7.out).2.2 x10_3 p330 q330
                                obtain rfl : ad311 = ad330 := (by injection e330)
                                replace p330 := eq_true p330
                                replace q330 := eq_true q330
                                have p331 : 0 ≤ ((ji124) : Int) := of_decide_eq_true (by first | (with_reducible assumption) | assumption)
                                have q331 : (ji124) < (t292.length : Int) := of_decide_eq_true (by first | (with_reducible assumption) | assumption)
                                obtain ⟨ad331, e331, hx331_0, hx331_1, hx331_2, hx331_3⟩ := at_T38 (Kd.R_reads' HO_7.out).2.2 (ji124) p331 q331
                                obtain rfl : ad311 = ad331 := (by injection e331)
                                replace p331 := eq_true p331
                                replace q331 := eq_true q331
                                refine start_ (n := 12) (S := fun w' => w'.cell? (ad311.add ((x10_3).toNat * 4)) = some (.bool ((rd_T38 t292 x10_3).f0.f0)) ∧ w'.cell? ⟨(ad311.add ((x10_3).toNat * 4)).block, (ad311.add ((x10_3).toNat * 4)).off + 1, none⟩ = some (.int .u64 ((rd_T38 t292 x10_3).f0.f1.f0)) ∧ w'.cell? ⟨(ad311.add ((x10_3).toNat * 4)).block, (ad311.add ((x10_3).toNat * 4)).off + 2, none⟩ = some (.int .u64 ((rd_T38 t292 x10_3).f0.f1.f1)) ∧ w'.cell? ⟨(ad311.add ((x10_3).toNat * 4)).block, (ad311.add ((x10_3).toNat * 4)).off + 3, none⟩ = some (.int .i64 ((rd_T38 t292 x10_3).f1)) ∧ w'.cell? (ad311.add (((ji124)).toNat * 4)) = some (.bool ((rd_T38 t292 (ji124)).f0.f0)) ∧ w'.cell? ⟨(ad311.add (((ji124)).toNat * 4)).block, (ad311.add (((ji124)).toNat * 4)).off + 1, none⟩ = some (.int .u64 ((rd_T38 t292 (ji124)).f0.f1.f0)) ∧ w'.cell? ⟨(ad311.add (((ji124)).toNat * 4)).block, (ad311.add (((ji124)).toNat * 4)).off + 2, none⟩ = some (.int .u64 ((rd_T38 t292 (ji124)).f0.f1.f1)) ∧ w'.cell? ⟨(ad311.add (((ji124)).toNat * 4)).block, (ad311.add (((ji124)).toNat * 4)).off + 3, none⟩ = some (.int .i64 ((rd_T38 t292 (ji124)).f1))) (ds := []) (bm_ 12 0) (by kernel_rfl) rfl rfl ⟨hx330_0, hx330_1, hx330_2, hx330_3, hx331_0, hx331_1, hx331_2, hx331_3⟩ (fun hHeld => ?_); refine with_tabW platbooklaw04_CarveSpreads.tab20 platbooklaw04_CarveSpreads.bits20 (fun HT_ HW_ => ?_)
                                generalize wc.drew = w131 at HO_7 BK288 BK289 BK290 BK325 HB hx330_0 hx330_1 hx330_2 hx330_3 hx331_0 hx331_1 hx331_2 hx331_3 hHeld ⊢
                                refine pu_ 0 (some 133) (bm_ 12 1) rfl HT_ ⟨by rfl, by intro w'; go_simp; with_reducible rfl⟩ ?_
                                refine pu_ 1 (some 134) (bm_ 12 3) rfl HT_ ⟨by rfl, by intro w'; go_simp; with_reducible rfl⟩ ?_
                                refine pu_ 2 (some 135) (bm_ 12 7) rfl HT_ ⟨by rfl, by intro w'; go_simp; with_reducible rfl⟩ ?_
                                refine pu_ 3 (some 136) (bm_ 12 15) rfl HT_ ⟨by rfl, by intro w'; go_simp; with_reducible rfl⟩ ?_
                                refine pu_ 5 (some 138) (bm_ 12 47) rfl HT_ ⟨by rfl, by intro w'; go_simp; with_reducible rfl⟩ ?_
                                refine pu_ 6 (some 139) (bm_ 12 111) rfl HT_ ⟨by rfl, by intro w'; go_simp; with_reducible rfl⟩ ?_
                                refine pu_ 7 (some 140) (bm_ 12 239) rfl HT_ ⟨by rfl, by intro w'; go_simp; with_reducible rfl⟩ ?_
                                refine pu_ 8 (some 141) (bm_ 12 495) rfl HT_ ⟨by rfl, by intro w'; go_simp; with_reducible rfl⟩ ?_
                                refine pu_ 9 (some 142) (bm_ 12 1007) rfl HT_ ⟨by rfl, by intro w'; go_simp; with_reducible rfl⟩ ?_
                                refine ta_ 4 (some 137) (bm_ 12 1023) rfl HT_ HW_ ⟨by rfl, by rintro w' ⟨s0, s1, s2, s3, s4, s5, s6, s7⟩; go_simp; with_reducible rfl⟩ hHeld ?_
                                refine ta_ 10 (some 143) (bm_ 12 2047) rfl HT_ HW_ ⟨by rfl, by rintro w' ⟨s0, s1, s2, s3, s4, s5, s6, s7⟩; go_simp; with_reducible rfl⟩ hHeld ?_
                                refine pu_ 11 (some 144) (bm_ 12 4095) rfl HT_ ⟨by rfl, by intro w'; go_simp; with_reducible rfl⟩ ?_
                                refine done_ (done_of HT_.out (by kernel_rfl)) ?_
                                try go_wp2
                                replace HO_7 := Aside0.mk (Kd.R_drew HO_7.out)
                                replace BK288 := Aside0.mk (blk_drew BK288.out)
                                replace BK289 := Aside0.mk (blk_drew BK289.out)
                                replace BK290 := Aside0.mk (blk_drew BK290.out)
                                replace BK325 := Aside0.mk (blk_drew BK325.out)
                                replace HB := Aside0.mk (below_drew1 HB.out)
                                have p332 : 0 ≤ (x10_3 : Int) := of_decide_eq_true (by first | (with_reducible assumption) | assumption)
                                have q332 : x10_3 < (t292.length : Int) := of_decide_eq_true (by first | (with_reducible assumption) | assumption)
                                obtain ⟨ad332, e332, hx332_0, hx332_1, hx332_2, hx332_3⟩ := at_T38 (Kd.R_reads' HO_7.out).2.2 x10_3 p332 q332
                                obtain rfl : ad311 = ad332 := (by injection e332)
                                replace p332 := eq_true p332
                                replace q332 := eq_true q332
                                have p333 : 0 ≤ (x10_3 : Int) := of_decide_eq_true (by first | (with_reducible assumption) | assumption)
                                have q333 : x10_3 < (t292.length : Int) := of_decide_eq_true (by first | (with_reducible assumption) | assumption)
                                obtain ⟨ad333, e333, hx333_0, hx333_1, hx333_2, hx333_3⟩ := at_T38 (Kd.R_reads' HO_7.out).2.2 x10_3 p333 q333
                                obtain rfl : ad311 = ad333 := (by injection e333)
                                replace p333 := eq_true p333
                                replace q333 := eq_true q333
                                refine start_ (n := 18) (S := fun w' => w'.cell? (ad311.add ((x10_3).toNat * 4)) = some (.bool ((rd_T38 t292 x10_3).f0.f0)) ∧ w'.cell? ⟨(ad311.add ((x10_3).toNat * 4)).block, (ad311.add ((x10_3).toNat * 4)).off + 1, none⟩ = some (.int .u64 ((rd_T38 t292 x10_3).f0.f1.f0)) ∧ w'.cell? ⟨(ad311.add ((x10_3).toNat * 4)).block, (ad311.add ((x10_3).toNat * 4)).off + 2, none⟩ = some (.int .u64 ((rd_T38 t292 x10_3).f0.f1.f1)) ∧ w'.cell? ⟨(ad311.add ((x10_3).toNat * 4)).block, (ad311.add ((x10_3).toNat * 4)).off + 3, none⟩ = some (.int .i64 ((rd_T38 t292 x10_3).f1)) ∧ w'.cell? (ad311.add ((x10_3).toNat * 4)) = some (.bool ((rd_T38 t292 x10_3).f0.f0)) ∧ w'.cell? ⟨(ad311.add ((x10_3).toNat * 4)).block, (ad311.add ((x10_3).toNat * 4)).off + 1, none⟩ = some (.int .u64 ((rd_T38 t292 x10_3).f0.f1.f0)) ∧ w'.cell? ⟨(ad311.add ((x10_3).toNat * 4)).block, (ad311.add ((x10_3).toNat * 4)).off + 2, none⟩ = some (.int .u64 ((rd_T38 t292 x10_3).f0.f1.f1)) ∧ w'.cell? ⟨(ad311.add ((x10_3).toNat * 4)).block, (ad311.add ((x10_3).toNat * 4)).off + 3, none⟩ = some (.int .i64 ((rd_T38 t292 x10_3).f1))) (ds := []) (bm_ 18 0) (by kernel_rfl) rfl rfl ⟨hx332_0, hx332_1, hx332_2, hx332_3, hx333_0, hx333_1, hx333_2, hx333_3⟩ (fun hHeld => ?_); refine with_tabW platbooklaw04_CarveSpreads.tab21 platbooklaw04_CarveSpreads.bits21 (fun HT_ HW_ => ?_)
                                generalize w131.drew = w132 at HO_7 BK288 BK289 BK290 BK325 HB hx332_0 hx332_1 hx332_2 hx332_3 hx333_0 hx333_1 hx333_2 hx333_3 hHeld ⊢
                                refine pu_ 0 (some 146) (bm_ 18 1) rfl HT_ ⟨by rfl, by intro w'; go_simp; with_reducible rfl⟩ ?_
                                refine pu_ 1 (some 147) (bm_ 18 3) rfl HT_ ⟨by rfl, by intro w'; go_simp; with_reducible rfl⟩ ?_
                                refine pu_ 2 (some 148) (bm_ 18 7) rfl HT_ ⟨by rfl, by intro w'; go_simp; with_reducible rfl⟩ ?_
                                refine pu_ 3 (some 149) (bm_ 18 15) rfl HT_ ⟨by rfl, by intro w'; go_simp; with_reducible rfl⟩ ?_
                                refine pu_ 5 (some 151) (bm_ 18 47) rfl HT_ ⟨by rfl, by intro w'; go_simp; with_reducible rfl⟩ ?_
                                refine pu_ 6 (some 152) (bm_ 18 111) rfl HT_ ⟨by rfl, by intro w'; go_simp; with_reducible rfl⟩ ?_
                                refine pu_ 7 (some 153) (bm_ 18 239) rfl HT_ ⟨by rfl, by intro w'; go_simp; with_reducible rfl⟩ ?_
                                refine pu_ 8 (some 154) (bm_ 18 495) rfl HT_ ⟨by rfl, by intro w'; go_simp; with_reducible rfl⟩ ?_
                                refine ta_ 4 (some 150) (bm_ 18 511) rfl HT_ HW_ ⟨by rfl, by rintro w' ⟨s0, s1, s2, s3, s4, s5, s6, s7⟩; go_simp; with_reducible rfl⟩ hHeld ?_
                                refine ta_ 9 (some 155) (bm_ 18 1023) rfl HT_ HW_ ⟨by rfl, by rintro w' ⟨s0, s1, s2, s3, s4, s5, s6, s7⟩; go_simp; with_reducible rfl⟩ hHeld ?_
                                refine pu_ 10 (some 156) (bm_ 18 2047) rfl HT_ ⟨by rfl, by intro w'; go_simp; with_reducible rfl⟩ ?_
                                refine join_ (σ := Nat) 2 (bm_ 18 65535) (fun s_ => [(157, .tuple #[.agg #[.bool t334, .int .u64 t335, .int .u64 t336, .int .i64 t337], .int .i64 t338]), (13, .pointer (some ⟨s_, 0, none⟩)), (145, .tuple #[.agg #[.bool t334, .int .u64 t335, .int .u64 t336, .int .i64 t337], .int .i64 t338]), (158, .agg #[.bool t334, .int .u64 t335, .int .u64 t336, .int .i64 t337]), (159, .int .i64 t338)]) (fun s_ w' => (w'.cell? (ad311.add ((x10_3).toNat * 4)) = some (.bool ((rd_T38 t292 x10_3).f0.f0)) ∧ w'.cell? ⟨(ad311.add ((x10_3).toNat * 4)).block, (ad311.add ((x10_3).toNat * 4)).off + 1, none⟩ = some (.int .u64 ((rd_T38 t292 x10_3).f0.f1.f0)) ∧ w'.cell? ⟨(ad311.add ((x10_3).toNat * 4)).block, (ad311.add ((x10_3).toNat * 4)).off + 2, none⟩ = some (.int .u64 ((rd_T38 t292 x10_3).f0.f1.f1)) ∧ w'.cell? ⟨(ad311.add ((x10_3).toNat * 4)).block, (ad311.add ((x10_3).toNat * 4)).off + 3, none⟩ = some (.int .i64 ((rd_T38 t292 x10_3).f1)) ∧ w'.cell? (ad311.add ((x10_3).toNat * 4)) = some (.bool ((rd_T38 t292 x10_3).f0.f0)) ∧ w'.cell? ⟨(ad311.add ((x10_3).toNat * 4)).block, (ad311.add ((x10_3).toNat * 4)).off + 1, none⟩ = some (.int .u64 ((rd_T38 t292 x10_3).f0.f1.f0)) ∧ w'.cell? ⟨(ad311.add ((x10_3).toNat * 4)).block, (ad311.add ((x10_3).toNat * 4)).off + 2, none⟩ = some (.int .u64 ((rd_T38 t292 x10_3).f0.f1.f1)) ∧ w'.cell? ⟨(ad311.add ((x10_3).toNat * 4)).block, (ad311.add ((x10_3).toNat * 4)).off + 3, none⟩ = some (.int .i64 ((rd_T38 t292 x10_3).f1))) ∧ (Kd.R k38 38 w' w.heap.size (fun k_ => k_ ≠ s_) (.slice (some ad311) t292.length co91) t292) ∧ (w'.heap[gb288]? = some (.cells #[.bool a0_0, .int .u64 a0_1, .int .u64 a0_2] 26 (0, 0))) ∧ (w'.heap[gb289]? = some (.cells #[.bool a1_0, .int .u64 a1_1, .int .u64 a1_2] 26 (0, 0))) ∧ (w'.heap[gb290]? = some (.cells #[.bool a2_0, .int .u64 a2_1, .int .u64 a2_2] 26 (0, 0))) ∧ (w'.heap[gb325]? = some (.cells #[.bool t321, .int .u64 t322, .int .u64 t323] 26 (0, 0))) ∧ (w'.heap[s_]? = some (.cells #[.bool false, .int .u64 0, .int .u64 0, .int .i64 0] 38 (0, 0))) ∧ (w.heap.size ≤ s_) ∧ (w.heap.size ≤ s_) ∧ (gb288 ≠ s_) ∧ (s_ ≠ gb288) ∧ (gb289 ≠ s_) ∧ (s_ ≠ gb289) ∧ (gb290 ≠ s_) ∧ (s_ ≠ gb290) ∧ (gb325 ≠ s_) ∧ (s_ ≠ gb325) ∧ (Below w.heap.size w w')) ?_ ?_
                                rotate_left
                                ·
                                 intro hCont
                                 refine two_ (i := 11) (j := 15) (Ni := some 157) (Nj := some 13) (bm_ 18 4095) (bm_ 18 34815) rfl rfl rfl rfl (two_of HT_.out (by kernel_rfl)) (by decide) (by decide) (fun K hK => ?_) (fun K hK => ?_)
                                 ·
                                  skip
                                  refine gr_ Tryz.func34 #[.agg #[.bool ((rd_T38 t292 x10_3).f0.f0), .int .u64 ((rd_T38 t292 x10_3).f0.f1.f0), .int .u64 ((rd_T38 t292 x10_3).f0.f1.f1)], .int .i64 (wrap64 (((rd_T38 t292 x10_3).f1) - 1))] ?_
                                  with_reducible refine (prefix_Of.calls kj102 ((rd_T38 t292 x10_3).f0.f0) ((rd_T38 t292 x10_3).f0.f1.f0) ((rd_T38 t292 x10_3).f0.f1.f1) (wrap64 (((rd_T38 t292 x10_3).f1) - 1)) t334 t335 t336 t337 t338 _ A128.out).mono ?_
                                  rintro e w133 ⟨rfl, hb⟩
                                  have HS0_ := (hb.cell (World.block_lt_of_cell? _ _ (hHeld.1))).trans (hHeld.1)
                                  have HS1_ := (hb.cell (World.block_lt_of_cell? _ _ (hHeld.2.1))).trans (hHeld.2.1)
                                  have HS2_ := (hb.cell (World.block_lt_of_cell? _ _ (hHeld.2.2.1))).trans (hHeld.2.2.1)
                                  have HS3_ := (hb.cell (World.block_lt_of_cell? _ _ (hHeld.2.2.2.1))).trans (hHeld.2.2.2.1)
                                  have HS4_ := (hb.cell (World.block_lt_of_cell? _ _ (hHeld.2.2.2.2.1))).trans (hHeld.2.2.2.2.1)
                                  have HS5_ := (hb.cell (World.block_lt_of_cell? _ _ (hHeld.2.2.2.2.2.1))).trans (hHeld.2.2.2.2.2.1)
                                  have HS6_ := (hb.cell (World.block_lt_of_cell? _ _ (hHeld.2.2.2.2.2.2.1))).trans (hHeld.2.2.2.2.2.2.1)
                                  have HS7_ := (hb.cell (World.block_lt_of_cell? _ _ (hHeld.2.2.2.2.2.2.2))).trans (hHeld.2.2.2.2.2.2.2)
                                  refine ⟨_, rfl, ?_⟩
                                  replace HO_7 := Aside0.mk (Kd.R_below (by (with_reducible repeat (first | apply Kd.R_alloc | apply Kd.R_drewN | apply Kd.R_drew)); exact HO_7.out) hb)
                                  replace BK288 := bb_ BK288 hb
                                  replace BK289 := bb_ BK289 hb
                                  replace BK290 := bb_ BK290 hb
                                  replace BK325 := bb_ BK325 hb
                                  replace HB := bs_ HB hb
                                  (try clear hb)
                                  (try clear hb2)
                                  (try clear hk)
                                  (try clear hi)
                                  refine hK.out _ _ ⟨HS0_, HS1_, HS2_, HS3_, HS4_, HS5_, HS6_, HS7_⟩ (fun hHeld => ?_)
                                  clear hK K
                                  refine norm_ (a' := ?_) ?_ ?_
                                  rotate_left
                                  ·
                                   show Act.put _ (some 157) _ = _
                                   simp only [Act.put, List.setIfInBounds_toArray, List.set_cons_zero, List.set_cons_succ, i64_w, i32_w]
                                   rfl
                                  refine pu_ 12 (some 145) (bm_ 18 8191) rfl HT_ ⟨by rfl, by intro w'; go_simp; with_reducible rfl⟩ ?_
                                  refine pu_ 13 (some 158) (bm_ 18 16383) rfl HT_ ⟨by rfl, by intro w'; go_simp; with_reducible rfl⟩ ?_
                                  refine pu_ 14 (some 159) (bm_ 18 32767) rfl HT_ ⟨by rfl, by intro w'; go_simp; with_reducible rfl⟩ ?_
                                  refine one_ (i := 15) (N := some 13) (bm_ 18 65535) rfl rfl (one_of HT_.out (by kernel_rfl)) (by decide) (fun K hK => ?_)
                                  refine box_step ?hg (N := 13) ?hd (cs := #[.bool false, .int .u64 0, .int .u64 0, .int .i64 0]) (t := 38) ?hr ?_; (case hd => rfl); (case hg => rfl); (case hr => first | (go_simp; done) | (go_simp; rfl))
                                  intro gb339 hg w134 hbox hb
                                  have HS0_ := (hb.cell (World.block_lt_of_cell? _ _ (hHeld.1))).trans (hHeld.1)
                                  have HS1_ := (hb.cell (World.block_lt_of_cell? _ _ (hHeld.2.1))).trans (hHeld.2.1)
                                  have HS2_ := (hb.cell (World.block_lt_of_cell? _ _ (hHeld.2.2.1))).trans (hHeld.2.2.1)
                                  have HS3_ := (hb.cell (World.block_lt_of_cell? _ _ (hHeld.2.2.2.1))).trans (hHeld.2.2.2.1)
                                  have HS4_ := (hb.cell (World.block_lt_of_cell? _ _ (hHeld.2.2.2.2.1))).trans (hHeld.2.2.2.2.1)
                                  have HS5_ := (hb.cell (World.block_lt_of_cell? _ _ (hHeld.2.2.2.2.2.1))).trans (hHeld.2.2.2.2.2.1)
                                  have HS6_ := (hb.cell (World.block_lt_of_cell? _ _ (hHeld.2.2.2.2.2.2.1))).trans (hHeld.2.2.2.2.2.2.1)
                                  have HS7_ := (hb.cell (World.block_lt_of_cell? _ _ (hHeld.2.2.2.2.2.2.2))).trans (hHeld.2.2.2.2.2.2.2)
                                  have BK339 := Aside0.mk (hbox)
                                  have GW339 := gw_ HB hg
                                  have GE339 := gw_ HB hg
                                  have NB288_339 := nl_ BK288 hg
                                  have NB339_288 := ng_ BK288 hg
                                  have NB289_339 := nl_ BK289 hg
                                  have NB339_289 := ng_ BK289 hg
                                  have NB290_339 := nl_ BK290 hg
                                  have NB339_290 := ng_ BK290 hg
                                  have NB325_339 := nl_ BK325 hg
                                  have NB339_325 := ng_ BK325 hg
                                  replace HO_7 := Aside0.mk (Kd.R_below (Kd.R_elderB (by (with_reducible repeat (first | apply Kd.R_alloc | apply Kd.R_drewN | apply Kd.R_drew)); exact HO_7.out) gb339 (Nat.le_of_eq hg.symm)) hb)
                                  replace BK288 := bb_ BK288 hb
                                  replace BK289 := bb_ BK289 hb
                                  replace BK290 := bb_ BK290 hb
                                  replace BK325 := bb_ BK325 hb
                                  replace HB := bs_ HB hb
                                  clear hb hbox hg
                                  refine hK.out _ _ ⟨HS0_, HS1_, HS2_, HS3_, HS4_, HS5_, HS6_, HS7_⟩ (fun hHeld => ?_)
                                  clear hK K
                                  refine norm_ (a' := ?_) ?_ ?_
                                  rotate_left
                                  ·
                                   show Act.put _ (some 13) _ = _
                                   simp only [Act.put, List.setIfInBounds_toArray, List.set_cons_zero, List.set_cons_succ, i64_w, i32_w]
                                   rfl
                                  exact norm_ (by simp only [putAll, Act.put, List.setIfInBounds_toArray, List.set_cons_zero, List.set_cons_succ]) (hCont (gb339) _ ⟨hHeld, (by (with_reducible repeat (first | apply Kd.R_alloc | apply Kd.R_drewN | apply Kd.R_drew)); exact Kd.R_mono HO_7.out (fun _ hk => hk.2)), (pk_ BK288), (pk_ BK289), (pk_ BK290), (pk_ BK325), (pk_ BK339), GW339.out, GE339.out, NB288_339.out, NB339_288.out, NB289_339.out, NB339_289.out, NB290_339.out, NB339_290.out, NB325_339.out, NB339_325.out, (pb_ HB)⟩)
                                 ·
                                  skip
                                  refine box_step ?hg (N := 13) ?hd (cs := #[.bool false, .int .u64 0, .int .u64 0, .int .i64 0]) (t := 38) ?hr ?_; (case hd => rfl); (case hg => rfl); (case hr => first | (go_simp; done) | (go_simp; rfl))
                                  intro gb339 hg w133 hbox hb
                                  have HS0_ := (hb.cell (World.block_lt_of_cell? _ _ (hHeld.1))).trans (hHeld.1)
                                  have HS1_ := (hb.cell (World.block_lt_of_cell? _ _ (hHeld.2.1))).trans (hHeld.2.1)
                                  have HS2_ := (hb.cell (World.block_lt_of_cell? _ _ (hHeld.2.2.1))).trans (hHeld.2.2.1)
                                  have HS3_ := (hb.cell (World.block_lt_of_cell? _ _ (hHeld.2.2.2.1))).trans (hHeld.2.2.2.1)
                                  have HS4_ := (hb.cell (World.block_lt_of_cell? _ _ (hHeld.2.2.2.2.1))).trans (hHeld.2.2.2.2.1)
                                  have HS5_ := (hb.cell (World.block_lt_of_cell? _ _ (hHeld.2.2.2.2.2.1))).trans (hHeld.2.2.2.2.2.1)
                                  have HS6_ := (hb.cell (World.block_lt_of_cell? _ _ (hHeld.2.2.2.2.2.2.1))).trans (hHeld.2.2.2.2.2.2.1)
                                  have HS7_ := (hb.cell (World.block_lt_of_cell? _ _ (hHeld.2.2.2.2.2.2.2))).trans (hHeld.2.2.2.2.2.2.2)
                                  have BK339 := Aside0.mk (hbox)
                                  have GW339 := gw_ HB hg
                                  have GE339 := gw_ HB hg
                                  have NB288_339 := nl_ BK288 hg
                                  have NB339_288 := ng_ BK288 hg
                                  have NB289_339 := nl_ BK289 hg
                                  have NB339_289 := ng_ BK289 hg
                                  have NB290_339 := nl_ BK290 hg
                                  have NB339_290 := ng_ BK290 hg
                                  have NB325_339 := nl_ BK325 hg
                                  have NB339_325 := ng_ BK325 hg
                                  replace HO_7 := Aside0.mk (Kd.R_below (Kd.R_elderB (by (with_reducible repeat (first | apply Kd.R_alloc | apply Kd.R_drewN | apply Kd.R_drew)); exact HO_7.out) gb339 (Nat.le_of_eq hg.symm)) hb)
                                  replace BK288 := bb_ BK288 hb
                                  replace BK289 := bb_ BK289 hb
                                  replace BK290 := bb_ BK290 hb
                                  replace BK325 := bb_ BK325 hb
                                  replace HB := bs_ HB hb
                                  clear hb hbox hg
                                  refine hK.out _ _ ⟨HS0_, HS1_, HS2_, HS3_, HS4_, HS5_, HS6_, HS7_⟩ (fun hHeld => ?_)
                                  clear hK K
                                  refine norm_ (a' := ?_) ?_ ?_
                                  rotate_left
                                  ·
                                   show Act.put _ (some 13) _ = _
                                   simp only [Act.put, List.setIfInBounds_toArray, List.set_cons_zero, List.set_cons_succ, i64_w, i32_w]
                                   rfl
                                  refine one_ (i := 11) (N := some 157) (bm_ 18 36863) rfl rfl (one_of HT_.out (by kernel_rfl)) (by decide) (fun K hK => ?_)
                                  refine gr_ Tryz.func34 #[.agg #[.bool ((rd_T38 t292 x10_3).f0.f0), .int .u64 ((rd_T38 t292 x10_3).f0.f1.f0), .int .u64 ((rd_T38 t292 x10_3).f0.f1.f1)], .int .i64 (wrap64 (((rd_T38 t292 x10_3).f1) - 1))] ?_
                                  with_reducible refine (prefix_Of.calls kj102 ((rd_T38 t292 x10_3).f0.f0) ((rd_T38 t292 x10_3).f0.f1.f0) ((rd_T38 t292 x10_3).f0.f1.f1) (wrap64 (((rd_T38 t292 x10_3).f1) - 1)) t334 t335 t336 t337 t338 _ A128.out).mono ?_
                                  rintro e w134 ⟨rfl, hb⟩
                                  have HS0_ := (hb.cell (World.block_lt_of_cell? _ _ (hHeld.1))).trans (hHeld.1)
                                  have HS1_ := (hb.cell (World.block_lt_of_cell? _ _ (hHeld.2.1))).trans (hHeld.2.1)
                                  have HS2_ := (hb.cell (World.block_lt_of_cell? _ _ (hHeld.2.2.1))).trans (hHeld.2.2.1)
                                  have HS3_ := (hb.cell (World.block_lt_of_cell? _ _ (hHeld.2.2.2.1))).trans (hHeld.2.2.2.1)
                                  have HS4_ := (hb.cell (World.block_lt_of_cell? _ _ (hHeld.2.2.2.2.1))).trans (hHeld.2.2.2.2.1)
                                  have HS5_ := (hb.cell (World.block_lt_of_cell? _ _ (hHeld.2.2.2.2.2.1))).trans (hHeld.2.2.2.2.2.1)
                                  have HS6_ := (hb.cell (World.block_lt_of_cell? _ _ (hHeld.2.2.2.2.2.2.1))).trans (hHeld.2.2.2.2.2.2.1)
                                  have HS7_ := (hb.cell (World.block_lt_of_cell? _ _ (hHeld.2.2.2.2.2.2.2))).trans (hHeld.2.2.2.2.2.2.2)
                                  refine ⟨_, rfl, ?_⟩
                                  replace HO_7 := Aside0.mk (Kd.R_below (by (with_reducible repeat (first | apply Kd.R_alloc | apply Kd.R_drewN | apply Kd.R_drew)); exact HO_7.out) hb)
                                  replace BK288 := bb_ BK288 hb
                                  replace BK289 := bb_ BK289 hb
                                  replace BK290 := bb_ BK290 hb
                                  replace BK325 := bb_ BK325 hb
                                  replace BK339 := bb_ BK339 hb
                                  replace HB := bs_ HB hb
                                  (try clear hb)
                                  (try clear hb2)
                                  (try clear hk)
                                  (try clear hi)
                                  refine hK.out _ _ ⟨HS0_, HS1_, HS2_, HS3_, HS4_, HS5_, HS6_, HS7_⟩ (fun hHeld => ?_)
                                  clear hK K
                                  refine norm_ (a' := ?_) ?_ ?_
                                  rotate_left
                                  ·
                                   show Act.put _ (some 157) _ = _
                                   simp only [Act.put, List.setIfInBounds_toArray, List.set_cons_zero, List.set_cons_succ, i64_w, i32_w]
                                   rfl
                                  refine pu_ 12 (some 145) (bm_ 18 40959) rfl HT_ ⟨by rfl, by intro w'; go_simp; with_reducible rfl⟩ ?_
                                  refine pu_ 13 (some 158) (bm_ 18 49151) rfl HT_ ⟨by rfl, by intro w'; go_simp; with_reducible rfl⟩ ?_
                                  refine pu_ 14 (some 159) (bm_ 18 65535) rfl HT_ ⟨by rfl, by intro w'; go_simp; with_reducible rfl⟩ ?_
                                  exact norm_ (by simp only [putAll, Act.put, List.setIfInBounds_toArray, List.set_cons_zero, List.set_cons_succ]) (hCont (gb339) _ ⟨hHeld, (by (with_reducible repeat (first | apply Kd.R_alloc | apply Kd.R_drewN | apply Kd.R_drew)); exact Kd.R_mono HO_7.out (fun _ hk => hk.2)), (pk_ BK288), (pk_ BK289), (pk_ BK290), (pk_ BK325), (pk_ BK339), GW339.out, GE339.out, NB288_339.out, NB339_288.out, NB289_339.out, NB339_289.out, NB290_339.out, NB339_290.out, NB325_339.out, NB339_325.out, (pb_ HB)⟩)
                                rintro gb339 w135 ⟨hS_, h0_, h1_, h2_, h3_, h4_, h5_, h6_, h7_, h8_, h9_, h10_, h11_, h12_, h13_, h14_, h15_, h16_⟩
                                have n0_ : Aside0 (Kd.R k38 38 w135 w.heap.size (fun k_ => k_ ≠ gb339) (.slice (some ad311) t292.length co91) t292) := ⟨h0_⟩
                                have n1_ : Aside0 (w135.heap[gb288]? = some (.cells #[.bool a0_0, .int .u64 a0_1, .int .u64 a0_2] 26 (0, 0))) := ⟨h1_⟩
                                have n2_ : Aside0 (w135.heap[gb289]? = some (.cells #[.bool a1_0, .int .u64 a1_1, .int .u64 a1_2] 26 (0, 0))) := ⟨h2_⟩
                                have n3_ : Aside0 (w135.heap[gb290]? = some (.cells #[.bool a2_0, .int .u64 a2_1, .int .u64 a2_2] 26 (0, 0))) := ⟨h3_⟩
                                have n4_ : Aside0 (w135.heap[gb325]? = some (.cells #[.bool t321, .int .u64 t322, .int .u64 t323] 26 (0, 0))) := ⟨h4_⟩
                                have n5_ : Aside0 (w135.heap[gb339]? = some (.cells #[.bool false, .int .u64 0, .int .u64 0, .int .i64 0] 38 (0, 0))) := ⟨h5_⟩
                                have n6_ : Aside0 (w.heap.size ≤ gb339) := ⟨h6_⟩
                                have n7_ : Aside0 (w.heap.size ≤ gb339) := ⟨h7_⟩
                                have n8_ : Aside0 (gb288 ≠ gb339) := ⟨h8_⟩
                                have n9_ : Aside0 (gb339 ≠ gb288) := ⟨h9_⟩
                                have n10_ : Aside0 (gb289 ≠ gb339) := ⟨h10_⟩
                                have n11_ : Aside0 (gb339 ≠ gb289) := ⟨h11_⟩
                                have n12_ : Aside0 (gb290 ≠ gb339) := ⟨h12_⟩
                                have n13_ : Aside0 (gb339 ≠ gb290) := ⟨h13_⟩
                                have n14_ : Aside0 (gb325 ≠ gb339) := ⟨h14_⟩
                                have n15_ : Aside0 (gb339 ≠ gb325) := ⟨h15_⟩
                                have n16_ : Aside0 (Below w.heap.size w w135) := ⟨h16_⟩
                                clear HO_7
                                clear BK288
                                clear BK289
                                clear BK290
                                clear BK325
                                clear HB
                                clear h0_ h1_ h2_ h3_ h4_ h5_ h6_ h7_ h8_ h9_ h10_ h11_ h12_ h13_ h14_ h15_ h16_
                                have HO_7 := n0_
                                have BK288 := n1_
                                have BK289 := n2_
                                have BK290 := n3_
                                have BK325 := n4_
                                have BK339 := n5_
                                have GW339 := n6_
                                have GE339 := n7_
                                have NB288_339 := n8_
                                have NB339_288 := n9_
                                have NB289_339 := n10_
                                have NB339_289 := n11_
                                have NB290_339 := n12_
                                have NB339_290 := n13_
                                have NB325_339 := n14_
                                have NB339_325 := n15_
                                have HB := n16_
                                clear n0_ n1_ n2_ n3_ n4_ n5_ n6_ n7_ n8_ n9_ n10_ n11_ n12_ n13_ n14_ n15_ n16_
                                have hHeld : w135.cell? (ad311.add ((x10_3).toNat * 4)) = some (.bool ((rd_T38 t292 x10_3).f0.f0)) ∧ w135.cell? ⟨(ad311.add ((x10_3).toNat * 4)).block, (ad311.add ((x10_3).toNat * 4)).off + 1, none⟩ = some (.int .u64 ((rd_T38 t292 x10_3).f0.f1.f0)) ∧ w135.cell? ⟨(ad311.add ((x10_3).toNat * 4)).block, (ad311.add ((x10_3).toNat * 4)).off + 2, none⟩ = some (.int .u64 ((rd_T38 t292 x10_3).f0.f1.f1)) ∧ w135.cell? ⟨(ad311.add ((x10_3).toNat * 4)).block, (ad311.add ((x10_3).toNat * 4)).off + 3, none⟩ = some (.int .i64 ((rd_T38 t292 x10_3).f1)) ∧ w135.cell? (ad311.add ((x10_3).toNat * 4)) = some (.bool ((rd_T38 t292 x10_3).f0.f0)) ∧ w135.cell? ⟨(ad311.add ((x10_3).toNat * 4)).block, (ad311.add ((x10_3).toNat * 4)).off + 1, none⟩ = some (.int .u64 ((rd_T38 t292 x10_3).f0.f1.f0)) ∧ w135.cell? ⟨(ad311.add ((x10_3).toNat * 4)).block, (ad311.add ((x10_3).toNat * 4)).off + 2, none⟩ = some (.int .u64 ((rd_T38 t292 x10_3).f0.f1.f1)) ∧ w135.cell? ⟨(ad311.add ((x10_3).toNat * 4)).block, (ad311.add ((x10_3).toNat * 4)).off + 3, none⟩ = some (.int .i64 ((rd_T38 t292 x10_3).f1)) := hS_
                                refine norm_ (a' := ?_) ?_ ?_
                                rotate_left
                                ·
                                 simp only [putAll, Act.put, List.setIfInBounds_toArray, List.set_cons_zero, List.set_cons_succ]
                                 rfl
                                refine one_ (i := 16) (N := none) (bm_ 18 131071) rfl rfl (one_of HT_.out (by kernel_rfl)) (by decide) (fun K hK => ?_)
                                have hs136 : w135.cell? ⟨gb339, 0, none⟩ = some (.bool false) := kc_ BK339 0
                                have hfs136 := blk_frozen BK339.out 0
                                have hns136_0 := NB288_339.out
                                have hns136_1 := NB289_339.out
                                have hns136_2 := NB290_339.out
                                have hns136_3 := NB325_339.out
                                have hms136_0 := NB339_288.out
                                have hms136_1 := NB339_289.out
                                have hms136_2 := NB339_290.out
                                have hms136_3 := NB339_325.out
                                have hs137 : w135.cell? ⟨gb339, 1, none⟩ = some (.int .u64 0) := kc_ BK339 1
                                have hfs137 := blk_frozen BK339.out 1
                                have hns137_0 := NB288_339.out
                                have hns137_1 := NB289_339.out
                                have hns137_2 := NB290_339.out
                                have hns137_3 := NB325_339.out
                                have hms137_0 := NB339_288.out
                                have hms137_1 := NB339_289.out
                                have hms137_2 := NB339_290.out
                                have hms137_3 := NB339_325.out
                                have hs138 : w135.cell? ⟨gb339, 2, none⟩ = some (.int .u64 0) := kc_ BK339 2
                                have hfs138 := blk_frozen BK339.out 2
                                have hns138_0 := NB288_339.out
                                have hns138_1 := NB289_339.out
                                have hns138_2 := NB290_339.out
                                have hns138_3 := NB325_339.out
                                have hms138_0 := NB339_288.out
                                have hms138_1 := NB339_289.out
                                have hms138_2 := NB339_290.out
                                have hms138_3 := NB339_325.out
                                have hs139 : w135.cell? ⟨gb339, 3, none⟩ = some (.int .i64 0) := kc_ BK339 3
                                have hfs139 := blk_frozen BK339.out 3
                                have hns139_0 := NB288_339.out
                                have hns139_1 := NB289_339.out
                                have hns139_2 := NB290_339.out
                                have hns139_3 := NB325_339.out
                                have hms139_0 := NB339_288.out
                                have hms139_1 := NB339_289.out
                                have hms139_2 := NB339_290.out
                                have hms139_3 := NB339_325.out
                                refine skip_ (w1 := ?_) (by rfl) rfl ?_ ?_
                                rotate_left
                                ·
                                 go_simp
                                 rfl
                                refine hK.out _ _ ⟨((cell_far (p := ⟨gb339, _, none⟩) (by first | exact Kd.own_blk (Kd.R_away HO_7.out (fun _ hk => hk)) | (rw [add_block]; exact Kd.own_blk (Kd.R_away HO_7.out (fun _ hk => hk))) | (show (Addr.add _ _).block ≠ _; rw [add_block]; exact Kd.own_blk (Kd.R_away HO_7.out (fun _ hk => hk))) | (dsimp only; exact Kd.own_blk (Kd.R_away HO_7.out (fun _ hk => hk)))) _).trans (((cell_far (p := ⟨gb339, _, none⟩) (by first | exact Kd.own_blk (Kd.R_away HO_7.out (fun _ hk => hk)) | (rw [add_block]; exact Kd.own_blk (Kd.R_away HO_7.out (fun _ hk => hk))) | (show (Addr.add _ _).block ≠ _; rw [add_block]; exact Kd.own_blk (Kd.R_away HO_7.out (fun _ hk => hk))) | (dsimp only; exact Kd.own_blk (Kd.R_away HO_7.out (fun _ hk => hk)))) _).trans (((cell_far (p := ⟨gb339, _, none⟩) (by first | exact Kd.own_blk (Kd.R_away HO_7.out (fun _ hk => hk)) | (rw [add_block]; exact Kd.own_blk (Kd.R_away HO_7.out (fun _ hk => hk))) | (show (Addr.add _ _).block ≠ _; rw [add_block]; exact Kd.own_blk (Kd.R_away HO_7.out (fun _ hk => hk))) | (dsimp only; exact Kd.own_blk (Kd.R_away HO_7.out (fun _ hk => hk)))) _).trans (((cell_far (p := ⟨gb339, _, none⟩) (by first | exact Kd.own_blk (Kd.R_away HO_7.out (fun _ hk => hk)) | (rw [add_block]; exact Kd.own_blk (Kd.R_away HO_7.out (fun _ hk => hk))) | (show (Addr.add _ _).block ≠ _; rw [add_block]; exact Kd.own_blk (Kd.R_away HO_7.out (fun _ hk => hk))) | (dsimp only; exact Kd.own_blk (Kd.R_away HO_7.out (fun _ hk => hk)))) _).trans (hHeld.1)))))))), ((cell_far (p := ⟨gb339, _, none⟩) (by first | exact Kd.own_blk (Kd.R_away HO_7.out (fun _ hk => hk)) | (rw [add_block]; exact Kd.own_blk (Kd.R_away HO_7.out (fun _ hk => hk))) | (show (Addr.add _ _).block ≠ _; rw [add_block]; exact Kd.own_blk (Kd.R_away HO_7.out (fun _ hk => hk))) | (dsimp only; exact Kd.own_blk (Kd.R_away HO_7.out (fun _ hk => hk)))) _).trans (((cell_far (p := ⟨gb339, _, none⟩) (by first | exact Kd.own_blk (Kd.R_away HO_7.out (fun _ hk => hk)) | (rw [add_block]; exact Kd.own_blk (Kd.R_away HO_7.out (fun _ hk => hk))) | (show (Addr.add _ _).block ≠ _; rw [add_block]; exact Kd.own_blk (Kd.R_away HO_7.out (fun _ hk => hk))) | (dsimp only; exact Kd.own_blk (Kd.R_away HO_7.out (fun _ hk => hk)))) _).trans (((cell_far (p := ⟨gb339, _, none⟩) (by first | exact Kd.own_blk (Kd.R_away HO_7.out (fun _ hk => hk)) | (rw [add_block]; exact Kd.own_blk (Kd.R_away HO_7.out (fun _ hk => hk))) | (show (Addr.add _ _).block ≠ _; rw [add_block]; exact Kd.own_blk (Kd.R_away HO_7.out (fun _ hk => hk))) | (dsimp only; exact Kd.own_blk (Kd.R_away HO_7.out (fun _ hk => hk)))) _).trans (((cell_far (p := ⟨gb339, _, none⟩) (by first | exact Kd.own_blk (Kd.R_away HO_7.out (fun _ hk => hk)) | (rw [add_block]; exact Kd.own_blk (Kd.R_away HO_7.out (fun _ hk => hk))) | (show (Addr.add _ _).block ≠ _; rw [add_block]; exact Kd.own_blk (Kd.R_away HO_7.out (fun _ hk => hk))) | (dsimp only; exact Kd.own_blk (Kd.R_away HO_7.out (fun _ hk => hk)))) _).trans (hHeld.2.1)))))))), ((cell_far (p := ⟨gb339, _, none⟩) (by first | exact Kd.own_blk (Kd.R_away HO_7.out (fun _ hk => hk)) | (rw [add_block]; exact Kd.own_blk (Kd.R_away HO_7.out (fun _ hk => hk))) | (show (Addr.add _ _).block ≠ _; rw [add_block]; exact Kd.own_blk (Kd.R_away HO_7.out (fun _ hk => hk))) | (dsimp only; exact Kd.own_blk (Kd.R_away HO_7.out (fun _ hk => hk)))) _).trans (((cell_far (p := ⟨gb339, _, none⟩) (by first | exact Kd.own_blk (Kd.R_away HO_7.out (fun _ hk => hk)) | (rw [add_block]; exact Kd.own_blk (Kd.R_away HO_7.out (fun _ hk => hk))) | (show (Addr.add _ _).block ≠ _; rw [add_block]; exact Kd.own_blk (Kd.R_away HO_7.out (fun _ hk => hk))) | (dsimp only; exact Kd.own_blk (Kd.R_away HO_7.out (fun _ hk => hk)))) _).trans (((cell_far (p := ⟨gb339, _, none⟩) (by first | exact Kd.own_blk (Kd.R_away HO_7.out (fun _ hk => hk)) | (rw [add_block]; exact Kd.own_blk (Kd.R_away HO_7.out (fun _ hk => hk))) | (show (Addr.add _ _).block ≠ _; rw [add_block]; exact Kd.own_blk (Kd.R_away HO_7.out (fun _ hk => hk))) | (dsimp only; exact Kd.own_blk (Kd.R_away HO_7.out (fun _ hk => hk)))) _).trans (((cell_far (p := ⟨gb339, _, none⟩) (by first | exact Kd.own_blk (Kd.R_away HO_7.out (fun _ hk => hk)) | (rw [add_block]; exact Kd.own_blk (Kd.R_away HO_7.out (fun _ hk => hk))) | (show (Addr.add _ _).block ≠ _; rw [add_block]; exact Kd.own_blk (Kd.R_away HO_7.out (fun _ hk => hk))) | (dsimp only; exact Kd.own_blk (Kd.R_away HO_7.out (fun _ hk => hk)))) _).trans (hHeld.2.2.1)))))))), ((cell_far (p := ⟨gb339, _, none⟩) (by first | exact Kd.own_blk (Kd.R_away HO_7.out (fun _ hk => hk)) | (rw [add_block]; exact Kd.own_blk (Kd.R_away HO_7.out (fun _ hk => hk))) | (show (Addr.add _ _).block ≠ _; rw [add_block]; exact Kd.own_blk (Kd.R_away HO_7.out (fun _ hk => hk))) | (dsimp only; exact Kd.own_blk (Kd.R_away HO_7.out (fun _ hk => hk)))) _).trans (((cell_far (p := ⟨gb339, _, none⟩) (by first | exact Kd.own_blk (Kd.R_away HO_7.out (fun _ hk => hk)) | (rw [add_block]; exact Kd.own_blk (Kd.R_away HO_7.out (fun _ hk => hk))) | (show (Addr.add _ _).block ≠ _; rw [add_block]; exact Kd.own_blk (Kd.R_away HO_7.out (fun _ hk => hk))) | (dsimp only; exact Kd.own_blk (Kd.R_away HO_7.out (fun _ hk => hk)))) _).trans (((cell_far (p := ⟨gb339, _, none⟩) (by first | exact Kd.own_blk (Kd.R_away HO_7.out (fun _ hk => hk)) | (rw [add_block]; exact Kd.own_blk (Kd.R_away HO_7.out (fun _ hk => hk))) | (show (Addr.add _ _).block ≠ _; rw [add_block]; exact Kd.own_blk (Kd.R_away HO_7.out (fun _ hk => hk))) | (dsimp only; exact Kd.own_blk (Kd.R_away HO_7.out (fun _ hk => hk)))) _).trans (((cell_far (p := ⟨gb339, _, none⟩) (by first | exact Kd.own_blk (Kd.R_away HO_7.out (fun _ hk => hk)) | (rw [add_block]; exact Kd.own_blk (Kd.R_away HO_7.out (fun _ hk => hk))) | (show (Addr.add _ _).block ≠ _; rw [add_block]; exact Kd.own_blk (Kd.R_away HO_7.out (fun _ hk => hk))) | (dsimp only; exact Kd.own_blk (Kd.R_away HO_7.out (fun _ hk => hk)))) _).trans (hHeld.2.2.2.1)))))))), ((cell_far (p := ⟨gb339, _, none⟩) (by first | exact Kd.own_blk (Kd.R_away HO_7.out (fun _ hk => hk)) | (rw [add_block]; exact Kd.own_blk (Kd.R_away HO_7.out (fun _ hk => hk))) | (show (Addr.add _ _).block ≠ _; rw [add_block]; exact Kd.own_blk (Kd.R_away HO_7.out (fun _ hk => hk))) | (dsimp only; exact Kd.own_blk (Kd.R_away HO_7.out (fun _ hk => hk)))) _).trans (((cell_far (p := ⟨gb339, _, none⟩) (by first | exact Kd.own_blk (Kd.R_away HO_7.out (fun _ hk => hk)) | (rw [add_block]; exact Kd.own_blk (Kd.R_away HO_7.out (fun _ hk => hk))) | (show (Addr.add _ _).block ≠ _; rw [add_block]; exact Kd.own_blk (Kd.R_away HO_7.out (fun _ hk => hk))) | (dsimp only; exact Kd.own_blk (Kd.R_away HO_7.out (fun _ hk => hk)))) _).trans (((cell_far (p := ⟨gb339, _, none⟩) (by first | exact Kd.own_blk (Kd.R_away HO_7.out (fun _ hk => hk)) | (rw [add_block]; exact Kd.own_blk (Kd.R_away HO_7.out (fun _ hk => hk))) | (show (Addr.add _ _).block ≠ _; rw [add_block]; exact Kd.own_blk (Kd.R_away HO_7.out (fun _ hk => hk))) | (dsimp only; exact Kd.own_blk (Kd.R_away HO_7.out (fun _ hk => hk)))) _).trans (((cell_far (p := ⟨gb339, _, none⟩) (by first | exact Kd.own_blk (Kd.R_away HO_7.out (fun _ hk => hk)) | (rw [add_block]; exact Kd.own_blk (Kd.R_away HO_7.out (fun _ hk => hk))) | (show (Addr.add _ _).block ≠ _; rw [add_block]; exact Kd.own_blk (Kd.R_away HO_7.out (fun _ hk => hk))) | (dsimp only; exact Kd.own_blk (Kd.R_away HO_7.out (fun _ hk => hk)))) _).trans (hHeld.2.2.2.2.1)))))))), ((cell_far (p := ⟨gb339, _, none⟩) (by first | exact Kd.own_blk (Kd.R_away HO_7.out (fun _ hk => hk)) | (rw [add_block]; exact Kd.own_blk (Kd.R_away HO_7.out (fun _ hk => hk))) | (show (Addr.add _ _).block ≠ _; rw [add_block]; exact Kd.own_blk (Kd.R_away HO_7.out (fun _ hk => hk))) | (dsimp only; exact Kd.own_blk (Kd.R_away HO_7.out (fun _ hk => hk)))) _).trans (((cell_far (p := ⟨gb339, _, none⟩) (by first | exact Kd.own_blk (Kd.R_away HO_7.out (fun _ hk => hk)) | (rw [add_block]; exact Kd.own_blk (Kd.R_away HO_7.out (fun _ hk => hk))) | (show (Addr.add _ _).block ≠ _; rw [add_block]; exact Kd.own_blk (Kd.R_away HO_7.out (fun _ hk => hk))) | (dsimp only; exact Kd.own_blk (Kd.R_away HO_7.out (fun _ hk => hk)))) _).trans (((cell_far (p := ⟨gb339, _, none⟩) (by first | exact Kd.own_blk (Kd.R_away HO_7.out (fun _ hk => hk)) | (rw [add_block]; exact Kd.own_blk (Kd.R_away HO_7.out (fun _ hk => hk))) | (show (Addr.add _ _).block ≠ _; rw [add_block]; exact Kd.own_blk (Kd.R_away HO_7.out (fun _ hk => hk))) | (dsimp only; exact Kd.own_blk (Kd.R_away HO_7.out (fun _ hk => hk)))) _).trans (((cell_far (p := ⟨gb339, _, none⟩) (by first | exact Kd.own_blk (Kd.R_away HO_7.out (fun _ hk => hk)) | (rw [add_block]; exact Kd.own_blk (Kd.R_away HO_7.out (fun _ hk => hk))) | (show (Addr.add _ _).block ≠ _; rw [add_block]; exact Kd.own_blk (Kd.R_away HO_7.out (fun _ hk => hk))) | (dsimp only; exact Kd.own_blk (Kd.R_away HO_7.out (fun _ hk => hk)))) _).trans (hHeld.2.2.2.2.2.1)))))))), ((cell_far (p := ⟨gb339, _, none⟩) (by first | exact Kd.own_blk (Kd.R_away HO_7.out (fun _ hk => hk)) | (rw [add_block]; exact Kd.own_blk (Kd.R_away HO_7.out (fun _ hk => hk))) | (show (Addr.add _ _).block ≠ _; rw [add_block]; exact Kd.own_blk (Kd.R_away HO_7.out (fun _ hk => hk))) | (dsimp only; exact Kd.own_blk (Kd.R_away HO_7.out (fun _ hk => hk)))) _).trans (((cell_far (p := ⟨gb339, _, none⟩) (by first | exact Kd.own_blk (Kd.R_away HO_7.out (fun _ hk => hk)) | (rw [add_block]; exact Kd.own_blk (Kd.R_away HO_7.out (fun _ hk => hk))) | (show (Addr.add _ _).block ≠ _; rw [add_block]; exact Kd.own_blk (Kd.R_away HO_7.out (fun _ hk => hk))) | (dsimp only; exact Kd.own_blk (Kd.R_away HO_7.out (fun _ hk => hk)))) _).trans (((cell_far (p := ⟨gb339, _, none⟩) (by first | exact Kd.own_blk (Kd.R_away HO_7.out (fun _ hk => hk)) | (rw [add_block]; exact Kd.own_blk (Kd.R_away HO_7.out (fun _ hk => hk))) | (show (Addr.add _ _).block ≠ _; rw [add_block]; exact Kd.own_blk (Kd.R_away HO_7.out (fun _ hk => hk))) | (dsimp only; exact Kd.own_blk (Kd.R_away HO_7.out (fun _ hk => hk)))) _).trans (((cell_far (p := ⟨gb339, _, none⟩) (by first | exact Kd.own_blk (Kd.R_away HO_7.out (fun _ hk => hk)) | (rw [add_block]; exact Kd.own_blk (Kd.R_away HO_7.out (fun _ hk => hk))) | (show (Addr.add _ _).block ≠ _; rw [add_block]; exact Kd.own_blk (Kd.R_away HO_7.out (fun _ hk => hk))) | (dsimp only; exact Kd.own_blk (Kd.R_away HO_7.out (fun _ hk => hk)))) _).trans (hHeld.2.2.2.2.2.2.1)))))))), ((cell_far (p := ⟨gb339, _, none⟩) (by first | exact Kd.own_blk (Kd.R_away HO_7.out (fun _ hk => hk)) | (rw [add_block]; exact Kd.own_blk (Kd.R_away HO_7.out (fun _ hk => hk))) | (show (Addr.add _ _).block ≠ _; rw [add_block]; exact Kd.own_blk (Kd.R_away HO_7.out (fun _ hk => hk))) | (dsimp only; exact Kd.own_blk (Kd.R_away HO_7.out (fun _ hk => hk)))) _).trans (((cell_far (p := ⟨gb339, _, none⟩) (by first | exact Kd.own_blk (Kd.R_away HO_7.out (fun _ hk => hk)) | (rw [add_block]; exact Kd.own_blk (Kd.R_away HO_7.out (fun _ hk => hk))) | (show (Addr.add _ _).block ≠ _; rw [add_block]; exact Kd.own_blk (Kd.R_away HO_7.out (fun _ hk => hk))) | (dsimp only; exact Kd.own_blk (Kd.R_away HO_7.out (fun _ hk => hk)))) _).trans (((cell_far (p := ⟨gb339, _, none⟩) (by first | exact Kd.own_blk (Kd.R_away HO_7.out (fun _ hk => hk)) | (rw [add_block]; exact Kd.own_blk (Kd.R_away HO_7.out (fun _ hk => hk))) | (show (Addr.add _ _).block ≠ _; rw [add_block]; exact Kd.own_blk (Kd.R_away HO_7.out (fun _ hk => hk))) | (dsimp only; exact Kd.own_blk (Kd.R_away HO_7.out (fun _ hk => hk)))) _).trans (((cell_far (p := ⟨gb339, _, none⟩) (by first | exact Kd.own_blk (Kd.R_away HO_7.out (fun _ hk => hk)) | (rw [add_block]; exact Kd.own_blk (Kd.R_away HO_7.out (fun _ hk => hk))) | (show (Addr.add _ _).block ≠ _; rw [add_block]; exact Kd.own_blk (Kd.R_away HO_7.out (fun _ hk => hk))) | (dsimp only; exact Kd.own_blk (Kd.R_away HO_7.out (fun _ hk => hk)))) _).trans (hHeld.2.2.2.2.2.2.2))))))))⟩ (fun hHeld => ?_)
                                clear hK K
                                refine pu_ 17 (some 14) (bm_ 18 262143) rfl HT_ ⟨by rfl, by intro w'; go_simp; with_reducible rfl⟩ ?_
                                refine done_ (done_of HT_.out (by kernel_rfl)) ?_
                                have hnb140 := NB339_288.out
                                have hnc140 := NB288_339.out
                                have hnb141 := NB339_289.out
                                have hnc141 := NB289_339.out
                                have hnb142 := NB339_290.out
                                have hnc142 := NB290_339.out
                                have hnb143 := NB339_325.out
                                have hnc143 := NB325_339.out
                                obtain ⟨hcz144_0, hcz144_1, hcz144_2, hcz144_3, hfz144_0, hfz144_1, hfz144_2, hfz144_3⟩ := c4_ BK339
                                try go_wp2_with (first | ((with_reducible refine gate_callee (f := 33) rfl ?_); refine gl_ (some 162) Tryz.func33 #[.agg #[.bool t334, .int .u64 t335, .int .u64 t336, .int .i64 t337]] ?_; (with_reducible refine (prefix_Halves.calls t334 t335 t336 t337 t340 t341 t342 t343 t344 t345 t346 t347 t348 _ A129.out).mono ?_); rintro e w145 ⟨rfl, hb⟩; refine ⟨_, rfl, ?_⟩; replace HO_7 := Aside0.mk (Kd.R_below (by (with_reducible repeat (first | apply Kd.R_alloc | apply Kd.R_drewN | apply Kd.R_drew)); exact (Kd.R_mono (Kd.R_far (p := ⟨gb339, 3, none⟩) (Kd.R_far (p := ⟨gb339, 2, none⟩) (Kd.R_far (p := ⟨gb339, 1, none⟩) (Kd.R_far (p := ⟨gb339, 0, none⟩) (Kd.R_mono HO_7.out (fun k_ hk => (⟨hk, hk⟩ : _ ∧ k_ ≠ gb339))) (fun _ hk => hk.2) (.bool t334)) (fun _ hk => hk.2) (.int .u64 t335)) (fun _ hk => hk.2) (.int .u64 t336)) (fun _ hk => hk.2) (.int .i64 t337)) (fun _ h_ => h_.1))) hb); replace BK288 := Aside0.mk (blk_below (g := gb288) (o := .cells #[.bool a0_0, .int .u64 a0_1, .int .u64 a0_2] 26 (0, 0)) (by refine pw_ ?_; refine blk_far ?_ NB288_339.out _; refine pw_ ?_; refine blk_far ?_ NB288_339.out _; refine pw_ ?_; refine blk_far ?_ NB288_339.out _; refine pw_ ?_; refine blk_far ?_ NB288_339.out _; refine pw_ ?_; exact BK288.out) hb); replace BK289 := Aside0.mk (blk_below (g := gb289) (o := .cells #[.bool a1_0, .int .u64 a1_1, .int .u64 a1_2] 26 (0, 0)) (by refine pw_ ?_; refine blk_far ?_ NB289_339.out _; refine pw_ ?_; refine blk_far ?_ NB289_339.out _; refine pw_ ?_; refine blk_far ?_ NB289_339.out _; refine pw_ ?_; refine blk_far ?_ NB289_339.out _; refine pw_ ?_; exact BK289.out) hb); replace BK290 := Aside0.mk (blk_below (g := gb290) (o := .cells #[.bool a2_0, .int .u64 a2_1, .int .u64 a2_2] 26 (0, 0)) (by refine pw_ ?_; refine blk_far ?_ NB290_339.out _; refine pw_ ?_; refine blk_far ?_ NB290_339.out _; refine pw_ ?_; refine blk_far ?_ NB290_339.out _; refine pw_ ?_; refine blk_far ?_ NB290_339.out _; refine pw_ ?_; exact BK290.out) hb); replace BK325 := Aside0.mk (blk_below (g := gb325) (o := .cells #[.bool t321, .int .u64 t322, .int .u64 t323] 26 (0, 0)) (by refine pw_ ?_; refine blk_far ?_ NB325_339.out _; refine pw_ ?_; refine blk_far ?_ NB325_339.out _; refine pw_ ?_; refine blk_far ?_ NB325_339.out _; refine pw_ ?_; refine blk_far ?_ NB325_339.out _; refine pw_ ?_; exact BK325.out) hb); replace BK339 := Aside0.mk (blk_below (g := gb339) (o := .cells #[.bool t334, .int .u64 t335, .int .u64 t336, .int .i64 t337] 38 (0, 0)) (by refine pw_ ?_; refine blk_put (cs := #[.bool t334, .int .u64 t335, .int .u64 t336, .int .i64 0]) ?_ 3 _ rfl; refine pw_ ?_; refine blk_put (cs := #[.bool t334, .int .u64 t335, .int .u64 0, .int .i64 0]) ?_ 2 _ rfl; refine pw_ ?_; refine blk_put (cs := #[.bool t334, .int .u64 0, .int .u64 0, .int .i64 0]) ?_ 1 _ rfl; refine pw_ ?_; refine blk_put (cs := #[.bool false, .int .u64 0, .int .u64 0, .int .i64 0]) ?_ 0 _ rfl; refine pw_ ?_; exact BK339.out) hb); replace HB := bs_ HB hb; (try clear hb); (try clear hb2); (try clear hk); (try clear hi)) | ((with_reducible refine gate_dst (N := 15) rfl ?_); (try (refine gate_guard (by rfl) ?_; dsimp only)); refine bx_ 15 #[.bool false, .int .u64 0, .int .u64 0, .int .i64 0] 38 ?_; intro gb349 hg w146 hbox hb; have BK349 := Aside0.mk (hbox); have GW349 := gw_ HB hg; have GE349 := gw_ HB hg; have NB288_349 := nl_ BK288 hg; have NB349_288 := ng_ BK288 hg; have NB289_349 := nl_ BK289 hg; have NB349_289 := ng_ BK289 hg; have NB290_349 := nl_ BK290 hg; have NB349_290 := ng_ BK290 hg; have NB325_349 := nl_ BK325 hg; have NB349_325 := ng_ BK325 hg; have NB339_349 := nl_ BK339 hg; have NB349_339 := ng_ BK339 hg; replace HO_7 := Aside0.mk (Kd.R_below (Kd.R_elderB (by (with_reducible repeat (first | apply Kd.R_alloc | apply Kd.R_drewN | apply Kd.R_drew)); exact HO_7.out) gb349 (Nat.le_of_eq hg.symm)) hb); replace BK288 := bb_ BK288 hb; replace BK289 := bb_ BK289 hb; replace BK290 := bb_ BK290 hb; replace BK325 := bb_ BK325 hb; replace BK339 := bb_ BK339 hb; replace HB := bs_ HB hb; clear hb hbox hg) | ((with_reducible refine gate_dst (N := 16) rfl ?_); (try (refine gate_guard (by rfl) ?_; dsimp only)); refine bx_ 16 #[.bool false, .int .u64 0, .int .u64 0, .int .i64 0] 38 ?_; intro gb350 hg w147 hbox hb; have BK350 := Aside0.mk (hbox); have GW350 := gw_ HB hg; have GE350 := gw_ HB hg; have NB288_350 := nl_ BK288 hg; have NB350_288 := ng_ BK288 hg; have NB289_350 := nl_ BK289 hg; have NB350_289 := ng_ BK289 hg; have NB290_350 := nl_ BK290 hg; have NB350_290 := ng_ BK290 hg; have NB325_350 := nl_ BK325 hg; have NB350_325 := ng_ BK325 hg; have NB339_350 := nl_ BK339 hg; have NB350_339 := ng_ BK339 hg; have NB349_350 := nl_ BK349 hg; have NB350_349 := ng_ BK349 hg; replace HO_7 := Aside0.mk (Kd.R_below (Kd.R_elderB (by (with_reducible repeat (first | apply Kd.R_alloc | apply Kd.R_drewN | apply Kd.R_drew)); exact HO_7.out) gb350 (Nat.le_of_eq hg.symm)) hb); replace BK288 := bb_ BK288 hb; replace BK289 := bb_ BK289 hb; replace BK290 := bb_ BK290 hb; replace BK325 := bb_ BK325 hb; replace BK339 := bb_ BK339 hb; replace BK349 := bb_ BK349 hb; replace HB := bs_ HB hb; clear hb hbox hg; have hnb148 := NB349_288.out; have hnc148 := NB288_349.out; have hnb149 := NB349_289.out; have hnc149 := NB289_349.out; have hnb150 := NB349_290.out; have hnc150 := NB290_349.out; have hnb151 := NB349_325.out; have hnc151 := NB325_349.out; have hnb152 := NB349_339.out; have hnc152 := NB339_349.out; have hnb153 := NB349_350.out; have hnc153 := NB350_349.out; obtain ⟨hcz154_0, hcz154_1, hcz154_2, hcz154_3, hfz154_0, hfz154_1, hfz154_2, hfz154_3⟩ := c4_ BK349; have hnb155 := NB350_288.out; have hnc155 := NB288_350.out; have hnb156 := NB350_289.out; have hnc156 := NB289_350.out; have hnb157 := NB350_290.out; have hnc157 := NB290_350.out; have hnb158 := NB350_325.out; have hnc158 := NB325_350.out; have hnb159 := NB350_339.out; have hnc159 := NB339_350.out; obtain ⟨hcz160_0, hcz160_1, hcz160_2, hcz160_3, hfz160_0, hfz160_1, hfz160_2, hfz160_3⟩ := c4_ BK350))
                                have n0_ : Aside0 (Kd.R k38 38 ((((((((w147.setCell ⟨gb349, 0, none⟩ (.bool t340)).setCell ⟨gb349, 1, none⟩ (.int .u64 t341)).setCell ⟨gb349, 2, none⟩ (.int .u64 t342)).setCell ⟨gb349, 3, none⟩ (.int .i64 t343)).setCell ⟨gb350, 0, none⟩ (.bool t344)).setCell ⟨gb350, 1, none⟩ (.int .u64 t345)).setCell ⟨gb350, 2, none⟩ (.int .u64 t346)).setCell ⟨gb350, 3, none⟩ (.int .i64 t347)) w.heap.size (fun k_ => k_ ≠ gb339 ∧ k_ ≠ gb349 ∧ k_ ≠ gb350) (.slice (some ad311) t292.length co91) t292) := ⟨by (with_reducible repeat (first | apply Kd.R_alloc | apply Kd.R_drewN | apply Kd.R_drew)); exact Kd.R_mono (Kd.R_far (p := ⟨gb350, 3, none⟩) (Kd.R_far (p := ⟨gb350, 2, none⟩) (Kd.R_far (p := ⟨gb350, 1, none⟩) (Kd.R_far (p := ⟨gb350, 0, none⟩) (Kd.R_far (p := ⟨gb349, 3, none⟩) (Kd.R_far (p := ⟨gb349, 2, none⟩) (Kd.R_far (p := ⟨gb349, 1, none⟩) (Kd.R_far (p := ⟨gb349, 0, none⟩) (Kd.R_mono (Kd.R_mono HO_7.out (fun k_ hk => (⟨hk, hk.1.2⟩ : _ ∧ k_ ≠ gb349))) (fun k_ hk => (⟨hk, hk.1.2⟩ : _ ∧ k_ ≠ gb350))) (fun _ hk => hk.1.2) (.bool t340)) (fun _ hk => hk.1.2) (.int .u64 t341)) (fun _ hk => hk.1.2) (.int .u64 t342)) (fun _ hk => hk.1.2) (.int .i64 t343)) (fun _ hk => hk.2) (.bool t344)) (fun _ hk => hk.2) (.int .u64 t345)) (fun _ hk => hk.2) (.int .u64 t346)) (fun _ hk => hk.2) (.int .i64 t347)) (fun _ hk => ⟨hk.1.1.1.1, ⟨hk.1.1.1.2, hk.1.1.2⟩⟩)⟩
                                have n1_ : Aside0 (((((((((w147.setCell ⟨gb349, 0, none⟩ (.bool t340)).setCell ⟨gb349, 1, none⟩ (.int .u64 t341)).setCell ⟨gb349, 2, none⟩ (.int .u64 t342)).setCell ⟨gb349, 3, none⟩ (.int .i64 t343)).setCell ⟨gb350, 0, none⟩ (.bool t344)).setCell ⟨gb350, 1, none⟩ (.int .u64 t345)).setCell ⟨gb350, 2, none⟩ (.int .u64 t346)).setCell ⟨gb350, 3, none⟩ (.int .i64 t347)).heap[gb288]? = some (.cells #[.bool a0_0, .int .u64 a0_1, .int .u64 a0_2] 26 (0, 0))) := ⟨by refine pw_ ?_; refine blk_far ?_ NB288_350.out _; refine pw_ ?_; refine blk_far ?_ NB288_350.out _; refine pw_ ?_; refine blk_far ?_ NB288_350.out _; refine pw_ ?_; refine blk_far ?_ NB288_350.out _; refine pw_ ?_; refine blk_far ?_ NB288_349.out _; refine pw_ ?_; refine blk_far ?_ NB288_349.out _; refine pw_ ?_; refine blk_far ?_ NB288_349.out _; refine pw_ ?_; refine blk_far ?_ NB288_349.out _; refine pw_ ?_; exact BK288.out⟩
                                have n2_ : Aside0 (((((((((w147.setCell ⟨gb349, 0, none⟩ (.bool t340)).setCell ⟨gb349, 1, none⟩ (.int .u64 t341)).setCell ⟨gb349, 2, none⟩ (.int .u64 t342)).setCell ⟨gb349, 3, none⟩ (.int .i64 t343)).setCell ⟨gb350, 0, none⟩ (.bool t344)).setCell ⟨gb350, 1, none⟩ (.int .u64 t345)).setCell ⟨gb350, 2, none⟩ (.int .u64 t346)).setCell ⟨gb350, 3, none⟩ (.int .i64 t347)).heap[gb289]? = some (.cells #[.bool a1_0, .int .u64 a1_1, .int .u64 a1_2] 26 (0, 0))) := ⟨by refine pw_ ?_; refine blk_far ?_ NB289_350.out _; refine pw_ ?_; refine blk_far ?_ NB289_350.out _; refine pw_ ?_; refine blk_far ?_ NB289_350.out _; refine pw_ ?_; refine blk_far ?_ NB289_350.out _; refine pw_ ?_; refine blk_far ?_ NB289_349.out _; refine pw_ ?_; refine blk_far ?_ NB289_349.out _; refine pw_ ?_; refine blk_far ?_ NB289_349.out _; refine pw_ ?_; refine blk_far ?_ NB289_349.out _; refine pw_ ?_; exact BK289.out⟩
                                have n3_ : Aside0 (((((((((w147.setCell ⟨gb349, 0, none⟩ (.bool t340)).setCell ⟨gb349, 1, none⟩ (.int .u64 t341)).setCell ⟨gb349, 2, none⟩ (.int .u64 t342)).setCell ⟨gb349, 3, none⟩ (.int .i64 t343)).setCell ⟨gb350, 0, none⟩ (.bool t344)).setCell ⟨gb350, 1, none⟩ (.int .u64 t345)).setCell ⟨gb350, 2, none⟩ (.int .u64 t346)).setCell ⟨gb350, 3, none⟩ (.int .i64 t347)).heap[gb290]? = some (.cells #[.bool a2_0, .int .u64 a2_1, .int .u64 a2_2] 26 (0, 0))) := ⟨by refine pw_ ?_; refine blk_far ?_ NB290_350.out _; refine pw_ ?_; refine blk_far ?_ NB290_350.out _; refine pw_ ?_; refine blk_far ?_ NB290_350.out _; refine pw_ ?_; refine blk_far ?_ NB290_350.out _; refine pw_ ?_; refine blk_far ?_ NB290_349.out _; refine pw_ ?_; refine blk_far ?_ NB290_349.out _; refine pw_ ?_; refine blk_far ?_ NB290_349.out _; refine pw_ ?_; refine blk_far ?_ NB290_349.out _; refine pw_ ?_; exact BK290.out⟩
                                have n4_ : Aside0 (((((((((w147.setCell ⟨gb349, 0, none⟩ (.bool t340)).setCell ⟨gb349, 1, none⟩ (.int .u64 t341)).setCell ⟨gb349, 2, none⟩ (.int .u64 t342)).setCell ⟨gb349, 3, none⟩ (.int .i64 t343)).setCell ⟨gb350, 0, none⟩ (.bool t344)).setCell ⟨gb350, 1, none⟩ (.int .u64 t345)).setCell ⟨gb350, 2, none⟩ (.int .u64 t346)).setCell ⟨gb350, 3, none⟩ (.int .i64 t347)).heap[gb325]? = some (.cells #[.bool t321, .int .u64 t322, .int .u64 t323] 26 (0, 0))) := ⟨by refine pw_ ?_; refine blk_far ?_ NB325_350.out _; refine pw_ ?_; refine blk_far ?_ NB325_350.out _; refine pw_ ?_; refine blk_far ?_ NB325_350.out _; refine pw_ ?_; refine blk_far ?_ NB325_350.out _; refine pw_ ?_; refine blk_far ?_ NB325_349.out _; refine pw_ ?_; refine blk_far ?_ NB325_349.out _; refine pw_ ?_; refine blk_far ?_ NB325_349.out _; refine pw_ ?_; refine blk_far ?_ NB325_349.out _; refine pw_ ?_; exact BK325.out⟩
                                have n5_ : Aside0 (((((((((w147.setCell ⟨gb349, 0, none⟩ (.bool t340)).setCell ⟨gb349, 1, none⟩ (.int .u64 t341)).setCell ⟨gb349, 2, none⟩ (.int .u64 t342)).setCell ⟨gb349, 3, none⟩ (.int .i64 t343)).setCell ⟨gb350, 0, none⟩ (.bool t344)).setCell ⟨gb350, 1, none⟩ (.int .u64 t345)).setCell ⟨gb350, 2, none⟩ (.int .u64 t346)).setCell ⟨gb350, 3, none⟩ (.int .i64 t347)).heap[gb339]? = some (.cells #[.bool t334, .int .u64 t335, .int .u64 t336, .int .i64 t337] 38 (0, 0))) := ⟨by refine pw_ ?_; refine blk_far ?_ NB339_350.out _; refine pw_ ?_; refine blk_far ?_ NB339_350.out _; refine pw_ ?_; refine blk_far ?_ NB339_350.out _; refine pw_ ?_; refine blk_far ?_ NB339_350.out _; refine pw_ ?_; refine blk_far ?_ NB339_349.out _; refine pw_ ?_; refine blk_far ?_ NB339_349.out _; refine pw_ ?_; refine blk_far ?_ NB339_349.out _; refine pw_ ?_; refine blk_far ?_ NB339_349.out _; refine pw_ ?_; exact BK339.out⟩
                                have n6_ : Aside0 (((((((((w147.setCell ⟨gb349, 0, none⟩ (.bool t340)).setCell ⟨gb349, 1, none⟩ (.int .u64 t341)).setCell ⟨gb349, 2, none⟩ (.int .u64 t342)).setCell ⟨gb349, 3, none⟩ (.int .i64 t343)).setCell ⟨gb350, 0, none⟩ (.bool t344)).setCell ⟨gb350, 1, none⟩ (.int .u64 t345)).setCell ⟨gb350, 2, none⟩ (.int .u64 t346)).setCell ⟨gb350, 3, none⟩ (.int .i64 t347)).heap[gb349]? = some (.cells #[.bool t340, .int .u64 t341, .int .u64 t342, .int .i64 t343] 38 (0, 0))) := ⟨by refine pw_ ?_; refine blk_far ?_ NB349_350.out _; refine pw_ ?_; refine blk_far ?_ NB349_350.out _; refine pw_ ?_; refine blk_far ?_ NB349_350.out _; refine pw_ ?_; refine blk_far ?_ NB349_350.out _; refine pw_ ?_; refine blk_put (cs := #[.bool t340, .int .u64 t341, .int .u64 t342, .int .i64 0]) ?_ 3 _ rfl; refine pw_ ?_; refine blk_put (cs := #[.bool t340, .int .u64 t341, .int .u64 0, .int .i64 0]) ?_ 2 _ rfl; refine pw_ ?_; refine blk_put (cs := #[.bool t340, .int .u64 0, .int .u64 0, .int .i64 0]) ?_ 1 _ rfl; refine pw_ ?_; refine blk_put (cs := #[.bool false, .int .u64 0, .int .u64 0, .int .i64 0]) ?_ 0 _ rfl; refine pw_ ?_; exact BK349.out⟩
                                have n7_ : Aside0 (((((((((w147.setCell ⟨gb349, 0, none⟩ (.bool t340)).setCell ⟨gb349, 1, none⟩ (.int .u64 t341)).setCell ⟨gb349, 2, none⟩ (.int .u64 t342)).setCell ⟨gb349, 3, none⟩ (.int .i64 t343)).setCell ⟨gb350, 0, none⟩ (.bool t344)).setCell ⟨gb350, 1, none⟩ (.int .u64 t345)).setCell ⟨gb350, 2, none⟩ (.int .u64 t346)).setCell ⟨gb350, 3, none⟩ (.int .i64 t347)).heap[gb350]? = some (.cells #[.bool t344, .int .u64 t345, .int .u64 t346, .int .i64 t347] 38 (0, 0))) := ⟨by refine pw_ ?_; refine blk_put (cs := #[.bool t344, .int .u64 t345, .int .u64 t346, .int .i64 0]) ?_ 3 _ rfl; refine pw_ ?_; refine blk_put (cs := #[.bool t344, .int .u64 t345, .int .u64 0, .int .i64 0]) ?_ 2 _ rfl; refine pw_ ?_; refine blk_put (cs := #[.bool t344, .int .u64 0, .int .u64 0, .int .i64 0]) ?_ 1 _ rfl; refine pw_ ?_; refine blk_put (cs := #[.bool false, .int .u64 0, .int .u64 0, .int .i64 0]) ?_ 0 _ rfl; refine pw_ ?_; refine blk_far ?_ NB350_349.out _; refine pw_ ?_; refine blk_far ?_ NB350_349.out _; refine pw_ ?_; refine blk_far ?_ NB350_349.out _; refine pw_ ?_; refine blk_far ?_ NB350_349.out _; refine pw_ ?_; exact BK350.out⟩
                                have n8_ : Aside0 (Below w.heap.size w ((((((((w147.setCell ⟨gb349, 0, none⟩ (.bool t340)).setCell ⟨gb349, 1, none⟩ (.int .u64 t341)).setCell ⟨gb349, 2, none⟩ (.int .u64 t342)).setCell ⟨gb349, 3, none⟩ (.int .i64 t343)).setCell ⟨gb350, 0, none⟩ (.bool t344)).setCell ⟨gb350, 1, none⟩ (.int .u64 t345)).setCell ⟨gb350, 2, none⟩ (.int .u64 t346)).setCell ⟨gb350, 3, none⟩ (.int .i64 t347))) := ⟨pb_ HB⟩
                                (try clear HO_7)
                                (try clear BK288)
                                (try clear BK289)
                                (try clear BK290)
                                (try clear BK325)
                                (try clear BK339)
                                (try clear BK349)
                                (try clear BK350)
                                (try clear HB)
                                generalize ((((((((w147.setCell ⟨gb349, 0, none⟩ (.bool t340)).setCell ⟨gb349, 1, none⟩ (.int .u64 t341)).setCell ⟨gb349, 2, none⟩ (.int .u64 t342)).setCell ⟨gb349, 3, none⟩ (.int .i64 t343)).setCell ⟨gb350, 0, none⟩ (.bool t344)).setCell ⟨gb350, 1, none⟩ (.int .u64 t345)).setCell ⟨gb350, 2, none⟩ (.int .u64 t346)).setCell ⟨gb350, 3, none⟩ (.int .i64 t347)) = w161 at n0_ n1_ n2_ n3_ n4_ n5_ n6_ n7_ n8_ ⊢
                                have HO_7 := n0_
                                have BK288 := n1_
                                have BK289 := n2_
                                have BK290 := n3_
                                have BK325 := n4_
                                have BK339 := n5_
                                have BK349 := n6_
                                have BK350 := n7_
                                have HB := n8_
                                clear n0_ n1_ n2_ n3_ n4_ n5_ n6_ n7_ n8_
                                replace HO_7 := Aside0.mk (Kd.R_drew HO_7.out)
                                replace BK288 := Aside0.mk (blk_drew BK288.out)
                                replace BK289 := Aside0.mk (blk_drew BK289.out)
                                replace BK290 := Aside0.mk (blk_drew BK290.out)
                                replace BK325 := Aside0.mk (blk_drew BK325.out)
                                replace BK339 := Aside0.mk (blk_drew BK339.out)
                                replace BK349 := Aside0.mk (blk_drew BK349.out)
                                replace BK350 := Aside0.mk (blk_drew BK350.out)
                                replace HB := Aside0.mk (below_drew1 HB.out)
                                have p351 : 0 ≤ ((ji124) : Int) := of_decide_eq_true (by first | (with_reducible assumption) | assumption)
                                have q351 : (ji124) < (t292.length : Int) := of_decide_eq_true (by first | (with_reducible assumption) | assumption)
                                obtain ⟨ad351, e351, hx351_0, hx351_1, hx351_2, hx351_3⟩ := at_T38 (Kd.R_reads' HO_7.out).2.2 (ji124) p351 q351
                                obtain rfl : ad311 = ad351 := (by injection e351)
                                replace p351 := eq_true p351
                                replace q351 := eq_true q351
                                refine start_ (n := 7) (S := fun w' => w'.cell? ⟨gb349, 0, none⟩ = some (.bool t340) ∧ w'.cell? ⟨gb349, 1, none⟩ = some (.int .u64 t341) ∧ w'.cell? ⟨gb349, 2, none⟩ = some (.int .u64 t342) ∧ w'.cell? ⟨gb349, 3, none⟩ = some (.int .i64 t343) ∧ w'.cell? (ad311.add (((ji124)).toNat * 4)) = some (.bool ((rd_T38 t292 (ji124)).f0.f0)) ∧ w'.cell? ⟨(ad311.add (((ji124)).toNat * 4)).block, (ad311.add (((ji124)).toNat * 4)).off + 1, none⟩ = some (.int .u64 ((rd_T38 t292 (ji124)).f0.f1.f0)) ∧ w'.cell? ⟨(ad311.add (((ji124)).toNat * 4)).block, (ad311.add (((ji124)).toNat * 4)).off + 2, none⟩ = some (.int .u64 ((rd_T38 t292 (ji124)).f0.f1.f1)) ∧ w'.cell? ⟨(ad311.add (((ji124)).toNat * 4)).block, (ad311.add (((ji124)).toNat * 4)).off + 3, none⟩ = some (.int .i64 ((rd_T38 t292 (ji124)).f1))) (ds := []) (bm_ 7 0) (by kernel_rfl) rfl rfl ⟨kc_ BK349 0, kc_ BK349 1, kc_ BK349 2, kc_ BK349 3, hx351_0, hx351_1, hx351_2, hx351_3⟩ (fun hHeld => ?_)
                                generalize w161.drew = w162 at HO_7 BK288 BK289 BK290 BK325 BK339 BK349 BK350 HB hx351_0 hx351_1 hx351_2 hx351_3 hHeld ⊢
                                refine pure_ (i := 1) (N := some 167) (v := ?_) (a' := ?_) (bm_ 7 2) rfl rfl (by kernel_rfl) (fun _ _ _ h => h) (Or.inl ⟨by rfl, ?_⟩) ?_ ?_
                                rotate_left
                                ·
                                 intro w'
                                 go_simp
                                 with_reducible rfl
                                rotate_left
                                ·
                                 simp only [Act.put, List.setIfInBounds_toArray, List.set_cons_zero, List.set_cons_succ, i64_w, i32_w]
                                 rfl
                                refine pure_ (i := 2) (N := some 168) (v := ?_) (a' := ?_) (bm_ 7 6) rfl rfl (by kernel_rfl) (fun _ _ _ h => h) (Or.inl ⟨by rfl, ?_⟩) ?_ ?_
                                rotate_left
                                ·
                                 intro w'
                                 go_simp
                                 with_reducible rfl
                                rotate_left
                                ·
                                 simp only [Act.put, List.setIfInBounds_toArray, List.set_cons_zero, List.set_cons_succ, i64_w, i32_w]
                                 rfl
                                refine pure_ (i := 3) (N := some 169) (v := ?_) (a' := ?_) (bm_ 7 14) rfl rfl (by kernel_rfl) (fun _ _ _ h => h) (Or.inl ⟨by rfl, ?_⟩) ?_ ?_
                                rotate_left
                                ·
                                 intro w'
                                 go_simp
                                 with_reducible rfl
                                rotate_left
                                ·
                                 simp only [Act.put, List.setIfInBounds_toArray, List.set_cons_zero, List.set_cons_succ, i64_w, i32_w]
                                 rfl
                                refine pure_ (i := 4) (N := some 170) (v := ?_) (a' := ?_) (bm_ 7 30) rfl rfl (by kernel_rfl) (fun _ _ _ h => h) (Or.inl ⟨by rfl, ?_⟩) ?_ ?_
                                rotate_left
                                ·
                                 intro w'
                                 go_simp
                                 with_reducible rfl
                                rotate_left
                                ·
                                 simp only [Act.put, List.setIfInBounds_toArray, List.set_cons_zero, List.set_cons_succ, i64_w, i32_w]
                                 rfl
                                refine take_ (i := 0) (N := some 166) (v := ?_) (a' := ?_) (bm_ 7 31) rfl rfl (by kernel_rfl) (fun _ _ _ h => h) (Or.inl ⟨by rfl, ?_⟩) hHeld ?_ ?_
                                rotate_left
                                ·
                                 rintro w' ⟨s0, s1, s2, s3, s4, s5, s6, s7⟩
                                 go_simp
                                 with_reducible rfl
                                rotate_left
                                ·
                                 simp only [Act.put, List.setIfInBounds_toArray, List.set_cons_zero, List.set_cons_succ, i64_w, i32_w]
                                 rfl
                                refine take_ (i := 5) (N := some 171) (v := ?_) (a' := ?_) (bm_ 7 63) rfl rfl (by kernel_rfl) (fun _ _ _ h => h) (Or.inl ⟨by rfl, ?_⟩) hHeld ?_ ?_
                                rotate_left
                                ·
                                 rintro w' ⟨s0, s1, s2, s3, s4, s5, s6, s7⟩
                                 go_simp
                                 with_reducible rfl
                                rotate_left
                                ·
                                 simp only [Act.put, List.setIfInBounds_toArray, List.set_cons_zero, List.set_cons_succ, i64_w, i32_w]
                                 rfl
                                refine pure_ (i := 6) (N := some 172) (v := ?_) (a' := ?_) (bm_ 7 127) rfl rfl (by kernel_rfl) (fun _ _ _ h => h) (Or.inl ⟨by rfl, ?_⟩) ?_ ?_
                                rotate_left
                                ·
                                 intro w'
                                 go_simp
                                 with_reducible rfl
                                rotate_left
                                ·
                                 simp only [Act.put, List.setIfInBounds_toArray, List.set_cons_zero, List.set_cons_succ, i64_w, i32_w]
                                 rfl
                                refine done_ (by kernel_rfl) ?_
                                try go_wp2
                                go_roundg kj102
                                case measure => have := HJ6.out; have := HJ56.out; have := HK3.out; have := HJ89.out; have := HJ102.out; omega
                                case rel => exact ⟨(x9_89), (wrap64 (x10_3 + 1)), (by first | rfl | (simp; done) | (simp [*]; done)), (by first | rfl | (simp; done) | (simp [*]; done)), H', ⟨by have := HJ6.out; have := HJ56.out; have := HK3.out; have := HJ89.out; have := HJ102.out; omega⟩, ⟨by (with_reducible repeat (first | apply Kd.R_alloc | apply Kd.R_drewN | apply Kd.R_drew)); exact Kd.R_mono HO_7.out (fun _ hk => trivial)⟩, ⟨by refine pw_ ?_; exact BK288.out⟩, ⟨by refine pw_ ?_; exact BK289.out⟩, ⟨by refine pw_ ?_; exact BK290.out⟩, ⟨pb_ HB⟩⟩
                              ·
                               rw [if_neg c127] at H
                               have c127b0 : (((rd_T38 t292 x10_3).f1) == ((rd_T38 t292 (ji124)).f1)) = false := beq_eq_false_iff_ne.mpr c127
                               have c127b1 : (((rd_T38 t292 x10_3).f1) != ((rd_T38 t292 (ji124)).f1)) = true := bne_iff_ne.mpr c127
                               have H' := Aside0.mk H
                               clear H
                               try go_wp2
                               replace HO_7 := Aside0.mk (Kd.R_drew HO_7.out)
                               replace BK288 := Aside0.mk (blk_drew BK288.out)
                               replace BK289 := Aside0.mk (blk_drew BK289.out)
                               replace BK290 := Aside0.mk (blk_drew BK290.out)
                               replace BK325 := Aside0.mk (blk_drew BK325.out)
                               replace HB := Aside0.mk (below_drew1 HB.out)
                               have p330 : 0 ≤ (x10_3 : Int) := of_decide_eq_true (by first | (with_reducible assumption) | assumption)
                               have q330 : x10_3 < (t292.length : Int) := of_decide_eq_true (by first | (with_reducible assumption) | assumption)
                               obtain ⟨ad330, e330, hx330_0, hx330_1, hx330_2, hx330_3⟩ := at_T38 (Kd.R_reads' HO_7.out).2.2 x10_3 p330 q330
                               obtain rfl : ad311 = ad330 := (by injection e330)
                               replace p330 := eq_true p330
                               replace q330 := eq_true q330
                               have p331 : 0 ≤ ((ji124) : Int) := of_decide_eq_true (by first | (with_reducible assumption) | assumption)
                               have q331 : (ji124) < (t292.length : Int) := of_decide_eq_true (by first | (with_reducible assumption) | assumption)
                               obtain ⟨ad331, e331, hx331_0, hx331_1, hx331_2, hx331_3⟩ := at_T38 (Kd.R_reads' HO_7.out).2.2 (ji124) p331 q331
                               obtain rfl : ad311 = ad331 := (by injection e331)
                               replace p331 := eq_true p331
                               replace q331 := eq_true q331
                               refine start_ (n := 12) (S := fun w' => w'.cell? (ad311.add ((x10_3).toNat * 4)) = some (.bool ((rd_T38 t292 x10_3).f0.f0)) ∧ w'.cell? ⟨(ad311.add ((x10_3).toNat * 4)).block, (ad311.add ((x10_3).toNat * 4)).off + 1, none⟩ = some (.int .u64 ((rd_T38 t292 x10_3).f0.f1.f0)) ∧ w'.cell? ⟨(ad311.add ((x10_3).toNat * 4)).block, (ad311.add ((x10_3).toNat * 4)).off + 2, none⟩ = some (.int .u64 ((rd_T38 t292 x10_3).f0.f1.f1)) ∧ w'.cell? ⟨(ad311.add ((x10_3).toNat * 4)).block, (ad311.add ((x10_3).toNat * 4)).off + 3, none⟩ = some (.int .i64 ((rd_T38 t292 x10_3).f1)) ∧ w'.cell? (ad311.add (((ji124)).toNat * 4)) = some (.bool ((rd_T38 t292 (ji124)).f0.f0)) ∧ w'.cell? ⟨(ad311.add (((ji124)).toNat * 4)).block, (ad311.add (((ji124)).toNat * 4)).off + 1, none⟩ = some (.int .u64 ((rd_T38 t292 (ji124)).f0.f1.f0)) ∧ w'.cell? ⟨(ad311.add (((ji124)).toNat * 4)).block, (ad311.add (((ji124)).toNat * 4)).off + 2, none⟩ = some (.int .u64 ((rd_T38 t292 (ji124)).f0.f1.f1)) ∧ w'.cell? ⟨(ad311.add (((ji124)).toNat * 4)).block, (ad311.add (((ji124)).toNat * 4)).off + 3, none⟩ = some (.int .i64 ((rd_T38 t292 (ji124)).f1))) (ds := []) (bm_ 12 0) (by kernel_rfl) rfl rfl ⟨hx330_0, hx330_1, hx330_2, hx330_3, hx331_0, hx331_1, hx331_2, hx331_3⟩ (fun hHeld => ?_); refine with_tabW platbooklaw04_CarveSpreads.tab20 platbooklaw04_CarveSpreads.bits20 (fun HT_ HW_ => ?_)
                               generalize wc.drew = w163 at HO_7 BK288 BK289 BK290 BK325 HB hx330_0 hx330_1 hx330_2 hx330_3 hx331_0 hx331_1 hx331_2 hx331_3 hHeld ⊢
                               refine pu_ 0 (some 133) (bm_ 12 1) rfl HT_ ⟨by rfl, by intro w'; go_simp; with_reducible rfl⟩ ?_
                               refine pu_ 1 (some 134) (bm_ 12 3) rfl HT_ ⟨by rfl, by intro w'; go_simp; with_reducible rfl⟩ ?_
                               refine pu_ 2 (some 135) (bm_ 12 7) rfl HT_ ⟨by rfl, by intro w'; go_simp; with_reducible rfl⟩ ?_
                               refine pu_ 3 (some 136) (bm_ 12 15) rfl HT_ ⟨by rfl, by intro w'; go_simp; with_reducible rfl⟩ ?_
                               refine pu_ 5 (some 138) (bm_ 12 47) rfl HT_ ⟨by rfl, by intro w'; go_simp; with_reducible rfl⟩ ?_
                               refine pu_ 6 (some 139) (bm_ 12 111) rfl HT_ ⟨by rfl, by intro w'; go_simp; with_reducible rfl⟩ ?_
                               refine pu_ 7 (some 140) (bm_ 12 239) rfl HT_ ⟨by rfl, by intro w'; go_simp; with_reducible rfl⟩ ?_
                               refine pu_ 8 (some 141) (bm_ 12 495) rfl HT_ ⟨by rfl, by intro w'; go_simp; with_reducible rfl⟩ ?_
                               refine pu_ 9 (some 142) (bm_ 12 1007) rfl HT_ ⟨by rfl, by intro w'; go_simp; with_reducible rfl⟩ ?_
                               refine ta_ 4 (some 137) (bm_ 12 1023) rfl HT_ HW_ ⟨by rfl, by rintro w' ⟨s0, s1, s2, s3, s4, s5, s6, s7⟩; go_simp; with_reducible rfl⟩ hHeld ?_
                               refine ta_ 10 (some 143) (bm_ 12 2047) rfl HT_ HW_ ⟨by rfl, by rintro w' ⟨s0, s1, s2, s3, s4, s5, s6, s7⟩; go_simp; with_reducible rfl⟩ hHeld ?_
                               refine pu_ 11 (some 144) (bm_ 12 4095) rfl HT_ ⟨by rfl, by intro w'; go_simp; with_reducible rfl⟩ ?_
                               refine done_ (done_of HT_.out (by kernel_rfl)) ?_
                               try go_wp2
                               go_roundg kj102
                               case measure => have := HJ6.out; have := HJ56.out; have := HK3.out; have := HJ89.out; have := HJ102.out; omega
                               case rel => exact ⟨(x9_89), (wrap64 (x10_3 + 1)), (by first | rfl | (simp; done) | (simp [*]; done)), (by first | rfl | (simp; done) | (simp [*]; done)), H', ⟨by have := HJ6.out; have := HJ56.out; have := HK3.out; have := HJ89.out; have := HJ102.out; omega⟩, ⟨by (with_reducible repeat (first | apply Kd.R_alloc | apply Kd.R_drewN | apply Kd.R_drew)); exact HO_7.out⟩, ⟨by refine pw_ ?_; exact BK288.out⟩, ⟨by refine pw_ ?_; exact BK289.out⟩, ⟨by refine pw_ ?_; exact BK290.out⟩, ⟨pb_ HB⟩⟩
                             ·
                              rw [if_neg c126] at H
                              exact absurd H (by simp)
                            ·
                             rw [if_neg c125] at H
                             exact absurd H (by simp)
                           ·
                            rw [if_neg c123] at H
                            exact absurd H (by simp)
                          ·
                           rw [if_neg c122] at H
                           exact absurd H (by simp)
                     ·
                      rw [if_neg c99] at H
                      exact absurd H (by simp)
                    ·
                     rw [if_neg c98] at H
                     exact absurd H (by simp)
               ·
                replace c88 := Bool.eq_false_iff.mpr c88
                subst c88
                have H1 : (some false) = some r := by rw [if_neg (show ¬ (false = true) by decide)] at H; exact H
                clear H
                have H := H1
                clear H1
                obtain rfl := Option.some.inj H
                exact absurd HRT.out (by decide)
              ·
               rw [if_neg c86] at H
               exact absurd H (by simp)
             ·
              rw [if_neg c85] at H
              have c85b0 : decide (x10_3 < (t292.length : Int)) = false := decide_eq_false c85
              clear c85
              replace H := Option.bind_eq_some_iff.mp H
              obtain ⟨t308, A1640, H⟩ := H
              replace H : (if t308 = true then ((addr_Cmp.f a0_0 a0_1 a0_2 a2_0 a2_1 a2_2).bind fun t309 => (if t309 ≤ 0 then ((addr_Cmp.f a2_0 a2_1 a2_2 a1_0 a1_1 a1_2).bind fun t310 => (if x9_3 = 1 then (if t310 ≤ 0 then (some true) else (if x9_3 = 0 then (some (!(decide (t310 ≤ 0)))) else (some false))) else (if x9_3 = 0 then (some (!(decide (t310 ≤ 0)))) else (some false)))) else (if x9_3 = 1 then (if x9_3 = 0 then (some (!false)) else (some false)) else (if x9_3 = 0 then (some (!false)) else (some false))))) else (if x9_3 = 1 then (if x9_3 = 0 then (some (!false)) else (some false)) else (if x9_3 = 0 then (some (!false)) else (some false)))) = some r := H
              have A164 := Aside0.mk A1640
              clear A1640
              by_cases c165 : t308 = true
              ·
               subst c165
               rw [if_pos rfl] at H
               replace H := Option.bind_eq_some_iff.mp H
               obtain ⟨t309, A1660, H⟩ := H
               replace H : (if t309 ≤ 0 then ((addr_Cmp.f a2_0 a2_1 a2_2 a1_0 a1_1 a1_2).bind fun t310 => (if x9_3 = 1 then (if t310 ≤ 0 then (some true) else (if x9_3 = 0 then (some (!(decide (t310 ≤ 0)))) else (some false))) else (if x9_3 = 0 then (some (!(decide (t310 ≤ 0)))) else (some false)))) else (if x9_3 = 1 then (if x9_3 = 0 then (some (!false)) else (some false)) else (if x9_3 = 0 then (some (!false)) else (some false)))) = some r := H
               have A166 := Aside0.mk A1660
               clear A1660
               by_cases c167 : t309 ≤ 0
               ·
                rw [if_pos c167] at H
                have c167b0 : decide (t309 ≤ 0) = true := decide_eq_true c167
                clear c167
                replace H := Option.bind_eq_some_iff.mp H
                obtain ⟨t310, A1680, H⟩ := H
                replace H : (if x9_3 = 1 then (if t310 ≤ 0 then (some true) else (if x9_3 = 0 then (some (!(decide (t310 ≤ 0)))) else (some false))) else (if x9_3 = 0 then (some (!(decide (t310 ≤ 0)))) else (some false))) = some r := H
                have A168 := Aside0.mk A1680
                clear A1680
                by_cases c169 : x9_3 = 1
                ·
                 rw [if_pos c169] at H
                 have c169b0 : (x9_3 == 1) = true := beq_iff_eq.mpr c169
                 have c169b1 : (x9_3 != 1) = false := bne_eq_false_iff_eq.mpr c169
                 clear c169
                 by_cases c170 : t310 ≤ 0
                 ·
                  rw [if_pos c170] at H
                  have c170b0 : decide (t310 ≤ 0) = true := decide_eq_true c170
                  clear c170
                  obtain rfl := Option.some.inj H
                  obtain ⟨Ao171, co171, eo171⟩ := Kd.R_slice HO_7.out
                  subst eo171
                  have hnb172 := NB290_288.out
                  have hnc172 := NB288_290.out
                  have hnb173 := NB290_289.out
                  have hnc173 := NB289_290.out
                  obtain ⟨hcz174_0, hcz174_1, hcz174_2, hfz174_0, hfz174_1, hfz174_2⟩ := c3_ BK290
                  go_wp2_with (first | ((with_reducible refine gate_callee (f := 18) rfl ?_); refine gl_ (some 174) Tryz.func18 #[.agg #[.bool a2_0, .int .u64 a2_1, .int .u64 a2_2]] ?_; (with_reducible refine (addr_Right.calls a2_0 a2_1 a2_2 true _ A164.out).mono ?_); rintro e w175 ⟨rfl, hb⟩; refine ⟨_, rfl, ?_⟩; replace HO_7 := Aside0.mk (Kd.R_below (by (with_reducible repeat (first | apply Kd.R_alloc | apply Kd.R_drewN | apply Kd.R_drew)); exact HO_7.out) hb); replace BK288 := bb_ BK288 hb; replace BK289 := bb_ BK289 hb; replace BK290 := bb_ BK290 hb; replace HB := bs_ HB hb; (try clear hb); (try clear hb2); (try clear hk); (try clear hi); have hnb176 := NB288_289.out; have hnc176 := NB289_288.out; obtain ⟨hcz177_0, hcz177_1, hcz177_2, hfz177_0, hfz177_1, hfz177_2⟩ := c3_ BK288; obtain ⟨hcz178_0, hcz178_1, hcz178_2, hfz178_0, hfz178_1, hfz178_2⟩ := c3_ BK290) | (go_at_call 20; (with_reducible refine (addr_Cmp.calls a0_0 a0_1 a0_2 a2_0 a2_1 a2_2 t309 _ A166.out).mono ?_); rintro e w179 ⟨rfl, hb⟩; replace HO_7 := Aside0.mk (Kd.R_below (by (with_reducible repeat (first | apply Kd.R_alloc | apply Kd.R_drewN | apply Kd.R_drew)); exact HO_7.out) hb); replace BK288 := bb_ BK288 hb; replace BK289 := bb_ BK289 hb; replace BK290 := bb_ BK290 hb; replace HB := bs_ HB hb; (try clear hb); (try clear hb2); (try clear hk); (try clear hi); obtain ⟨hcz180_0, hcz180_1, hcz180_2, hfz180_0, hfz180_1, hfz180_2⟩ := c3_ BK290; obtain ⟨hcz181_0, hcz181_1, hcz181_2, hfz181_0, hfz181_1, hfz181_2⟩ := c3_ BK289) | (go_at_call 20; (with_reducible refine (addr_Cmp.calls a2_0 a2_1 a2_2 a1_0 a1_1 a1_2 t310 _ A168.out).mono ?_); rintro e w182 ⟨rfl, hb⟩; replace HO_7 := Aside0.mk (Kd.R_below (by (with_reducible repeat (first | apply Kd.R_alloc | apply Kd.R_drewN | apply Kd.R_drew)); exact HO_7.out) hb); replace BK288 := bb_ BK288 hb; replace BK289 := bb_ BK289 hb; replace BK290 := bb_ BK290 hb; replace HB := bs_ HB hb; (try clear hb); (try clear hb2); (try clear hk); (try clear hi)))
                  go_ret
                  exact ⟨by first | rfl | (simp [errW_none, errW_some] <;> rfl) | (simp [*, errW_none, errW_some] <;> rfl), pb_ HB⟩
                 ·
                  rw [if_neg c170] at H
                  have c170b0 : decide (t310 ≤ 0) = false := decide_eq_false c170
                  clear c170
                  by_cases c183 : x9_3 = 0
                  ·
                   rw [if_pos c183] at H
                   have c183b0 : (x9_3 == 0) = true := beq_iff_eq.mpr c183
                   have c183b1 : (x9_3 != 0) = false := bne_eq_false_iff_eq.mpr c183
                   clear c183
                   obtain rfl := Option.some.inj H
                   obtain ⟨Ao184, co184, eo184⟩ := Kd.R_slice HO_7.out
                   subst eo184
                   have hnb185 := NB290_288.out
                   have hnc185 := NB288_290.out
                   have hnb186 := NB290_289.out
                   have hnc186 := NB289_290.out
                   obtain ⟨hcz187_0, hcz187_1, hcz187_2, hfz187_0, hfz187_1, hfz187_2⟩ := c3_ BK290
                   go_wp2_with (first | ((with_reducible refine gate_callee (f := 18) rfl ?_); refine gl_ (some 174) Tryz.func18 #[.agg #[.bool a2_0, .int .u64 a2_1, .int .u64 a2_2]] ?_; (with_reducible refine (addr_Right.calls a2_0 a2_1 a2_2 true _ A164.out).mono ?_); rintro e w188 ⟨rfl, hb⟩; refine ⟨_, rfl, ?_⟩; replace HO_7 := Aside0.mk (Kd.R_below (by (with_reducible repeat (first | apply Kd.R_alloc | apply Kd.R_drewN | apply Kd.R_drew)); exact HO_7.out) hb); replace BK288 := bb_ BK288 hb; replace BK289 := bb_ BK289 hb; replace BK290 := bb_ BK290 hb; replace HB := bs_ HB hb; (try clear hb); (try clear hb2); (try clear hk); (try clear hi); have hnb189 := NB288_289.out; have hnc189 := NB289_288.out; obtain ⟨hcz190_0, hcz190_1, hcz190_2, hfz190_0, hfz190_1, hfz190_2⟩ := c3_ BK288; obtain ⟨hcz191_0, hcz191_1, hcz191_2, hfz191_0, hfz191_1, hfz191_2⟩ := c3_ BK290) | (go_at_call 20; (with_reducible refine (addr_Cmp.calls a0_0 a0_1 a0_2 a2_0 a2_1 a2_2 t309 _ A166.out).mono ?_); rintro e w192 ⟨rfl, hb⟩; replace HO_7 := Aside0.mk (Kd.R_below (by (with_reducible repeat (first | apply Kd.R_alloc | apply Kd.R_drewN | apply Kd.R_drew)); exact HO_7.out) hb); replace BK288 := bb_ BK288 hb; replace BK289 := bb_ BK289 hb; replace BK290 := bb_ BK290 hb; replace HB := bs_ HB hb; (try clear hb); (try clear hb2); (try clear hk); (try clear hi); obtain ⟨hcz193_0, hcz193_1, hcz193_2, hfz193_0, hfz193_1, hfz193_2⟩ := c3_ BK290; obtain ⟨hcz194_0, hcz194_1, hcz194_2, hfz194_0, hfz194_1, hfz194_2⟩ := c3_ BK289) | (go_at_call 20; (with_reducible refine (addr_Cmp.calls a2_0 a2_1 a2_2 a1_0 a1_1 a1_2 t310 _ A168.out).mono ?_); rintro e w195 ⟨rfl, hb⟩; replace HO_7 := Aside0.mk (Kd.R_below (by (with_reducible repeat (first | apply Kd.R_alloc | apply Kd.R_drewN | apply Kd.R_drew)); exact HO_7.out) hb); replace BK288 := bb_ BK288 hb; replace BK289 := bb_ BK289 hb; replace BK290 := bb_ BK290 hb; replace HB := bs_ HB hb; (try clear hb); (try clear hb2); (try clear hk); (try clear hi)))
                   go_ret
                   exact ⟨by first | rfl | (simp [errW_none, errW_some] <;> rfl) | (simp [*, errW_none, errW_some] <;> rfl), pb_ HB⟩
                  ·
                   rw [if_neg c183] at H
                   have c183b0 : (x9_3 == 0) = false := beq_eq_false_iff_ne.mpr c183
                   have c183b1 : (x9_3 != 0) = true := bne_iff_ne.mpr c183
                   obtain rfl := Option.some.inj H
                   exact absurd HRT.out (by decide)
                ·
                 rw [if_neg c169] at H
                 have c169b0 : (x9_3 == 1) = false := beq_eq_false_iff_ne.mpr c169
                 have c169b1 : (x9_3 != 1) = true := bne_iff_ne.mpr c169
                 by_cases c196 : x9_3 = 0
                 ·
                  rw [if_pos c196] at H
                  have c196b0 : (x9_3 == 0) = true := beq_iff_eq.mpr c196
                  have c196b1 : (x9_3 != 0) = false := bne_eq_false_iff_eq.mpr c196
                  clear c196
                  obtain rfl := Option.some.inj H
                  obtain ⟨Ao197, co197, eo197⟩ := Kd.R_slice HO_7.out
                  subst eo197
                  have hnb198 := NB290_288.out
                  have hnc198 := NB288_290.out
                  have hnb199 := NB290_289.out
                  have hnc199 := NB289_290.out
                  obtain ⟨hcz200_0, hcz200_1, hcz200_2, hfz200_0, hfz200_1, hfz200_2⟩ := c3_ BK290
                  go_wp2_with (first | ((with_reducible refine gate_callee (f := 18) rfl ?_); refine gl_ (some 174) Tryz.func18 #[.agg #[.bool a2_0, .int .u64 a2_1, .int .u64 a2_2]] ?_; (with_reducible refine (addr_Right.calls a2_0 a2_1 a2_2 true _ A164.out).mono ?_); rintro e w201 ⟨rfl, hb⟩; refine ⟨_, rfl, ?_⟩; replace HO_7 := Aside0.mk (Kd.R_below (by (with_reducible repeat (first | apply Kd.R_alloc | apply Kd.R_drewN | apply Kd.R_drew)); exact HO_7.out) hb); replace BK288 := bb_ BK288 hb; replace BK289 := bb_ BK289 hb; replace BK290 := bb_ BK290 hb; replace HB := bs_ HB hb; (try clear hb); (try clear hb2); (try clear hk); (try clear hi); have hnb202 := NB288_289.out; have hnc202 := NB289_288.out; obtain ⟨hcz203_0, hcz203_1, hcz203_2, hfz203_0, hfz203_1, hfz203_2⟩ := c3_ BK288; obtain ⟨hcz204_0, hcz204_1, hcz204_2, hfz204_0, hfz204_1, hfz204_2⟩ := c3_ BK290) | (go_at_call 20; (with_reducible refine (addr_Cmp.calls a0_0 a0_1 a0_2 a2_0 a2_1 a2_2 t309 _ A166.out).mono ?_); rintro e w205 ⟨rfl, hb⟩; replace HO_7 := Aside0.mk (Kd.R_below (by (with_reducible repeat (first | apply Kd.R_alloc | apply Kd.R_drewN | apply Kd.R_drew)); exact HO_7.out) hb); replace BK288 := bb_ BK288 hb; replace BK289 := bb_ BK289 hb; replace BK290 := bb_ BK290 hb; replace HB := bs_ HB hb; (try clear hb); (try clear hb2); (try clear hk); (try clear hi); obtain ⟨hcz206_0, hcz206_1, hcz206_2, hfz206_0, hfz206_1, hfz206_2⟩ := c3_ BK290; obtain ⟨hcz207_0, hcz207_1, hcz207_2, hfz207_0, hfz207_1, hfz207_2⟩ := c3_ BK289) | (go_at_call 20; (with_reducible refine (addr_Cmp.calls a2_0 a2_1 a2_2 a1_0 a1_1 a1_2 t310 _ A168.out).mono ?_); rintro e w208 ⟨rfl, hb⟩; replace HO_7 := Aside0.mk (Kd.R_below (by (with_reducible repeat (first | apply Kd.R_alloc | apply Kd.R_drewN | apply Kd.R_drew)); exact HO_7.out) hb); replace BK288 := bb_ BK288 hb; replace BK289 := bb_ BK289 hb; replace BK290 := bb_ BK290 hb; replace HB := bs_ HB hb; (try clear hb); (try clear hb2); (try clear hk); (try clear hi)))
                  go_ret
                  exact ⟨by first | rfl | (simp [errW_none, errW_some] <;> rfl) | (simp [*, errW_none, errW_some] <;> rfl), pb_ HB⟩
                 ·
                  rw [if_neg c196] at H
                  have c196b0 : (x9_3 == 0) = false := beq_eq_false_iff_ne.mpr c196
                  have c196b1 : (x9_3 != 0) = true := bne_iff_ne.mpr c196
                  obtain rfl := Option.some.inj H
                  exact absurd HRT.out (by decide)
               ·
                rw [if_neg c167] at H
                have c167b0 : decide (t309 ≤ 0) = false := decide_eq_false c167
                clear c167
                by_cases c209 : x9_3 = 1
                ·
                 rw [if_pos c209] at H
                 have c209b0 : (x9_3 == 1) = true := beq_iff_eq.mpr c209
                 have c209b1 : (x9_3 != 1) = false := bne_eq_false_iff_eq.mpr c209
                 clear c209
                 by_cases c210 : x9_3 = 0
                 ·
                  rw [if_pos c210] at H
                  have c210b0 : (x9_3 == 0) = true := beq_iff_eq.mpr c210
                  have c210b1 : (x9_3 != 0) = false := bne_eq_false_iff_eq.mpr c210
                  clear c210
                  obtain rfl := Option.some.inj H
                  obtain ⟨Ao211, co211, eo211⟩ := Kd.R_slice HO_7.out
                  subst eo211
                  have hnb212 := NB290_288.out
                  have hnc212 := NB288_290.out
                  have hnb213 := NB290_289.out
                  have hnc213 := NB289_290.out
                  obtain ⟨hcz214_0, hcz214_1, hcz214_2, hfz214_0, hfz214_1, hfz214_2⟩ := c3_ BK290
                  go_wp2_with (first | ((with_reducible refine gate_callee (f := 18) rfl ?_); refine gl_ (some 174) Tryz.func18 #[.agg #[.bool a2_0, .int .u64 a2_1, .int .u64 a2_2]] ?_; (with_reducible refine (addr_Right.calls a2_0 a2_1 a2_2 true _ A164.out).mono ?_); rintro e w215 ⟨rfl, hb⟩; refine ⟨_, rfl, ?_⟩; replace HO_7 := Aside0.mk (Kd.R_below (by (with_reducible repeat (first | apply Kd.R_alloc | apply Kd.R_drewN | apply Kd.R_drew)); exact HO_7.out) hb); replace BK288 := bb_ BK288 hb; replace BK289 := bb_ BK289 hb; replace BK290 := bb_ BK290 hb; replace HB := bs_ HB hb; (try clear hb); (try clear hb2); (try clear hk); (try clear hi); have hnb216 := NB288_289.out; have hnc216 := NB289_288.out; obtain ⟨hcz217_0, hcz217_1, hcz217_2, hfz217_0, hfz217_1, hfz217_2⟩ := c3_ BK288; obtain ⟨hcz218_0, hcz218_1, hcz218_2, hfz218_0, hfz218_1, hfz218_2⟩ := c3_ BK290) | (go_at_call 20; (with_reducible refine (addr_Cmp.calls a0_0 a0_1 a0_2 a2_0 a2_1 a2_2 t309 _ A166.out).mono ?_); rintro e w219 ⟨rfl, hb⟩; replace HO_7 := Aside0.mk (Kd.R_below (by (with_reducible repeat (first | apply Kd.R_alloc | apply Kd.R_drewN | apply Kd.R_drew)); exact HO_7.out) hb); replace BK288 := bb_ BK288 hb; replace BK289 := bb_ BK289 hb; replace BK290 := bb_ BK290 hb; replace HB := bs_ HB hb; (try clear hb); (try clear hb2); (try clear hk); (try clear hi)))
                  go_ret
                  exact ⟨by first | rfl | (simp [errW_none, errW_some] <;> rfl) | (simp [*, errW_none, errW_some] <;> rfl), pb_ HB⟩
                 ·
                  rw [if_neg c210] at H
                  have c210b0 : (x9_3 == 0) = false := beq_eq_false_iff_ne.mpr c210
                  have c210b1 : (x9_3 != 0) = true := bne_iff_ne.mpr c210
                  obtain rfl := Option.some.inj H
                  exact absurd HRT.out (by decide)
                ·
                 rw [if_neg c209] at H
                 have c209b0 : (x9_3 == 1) = false := beq_eq_false_iff_ne.mpr c209
                 have c209b1 : (x9_3 != 1) = true := bne_iff_ne.mpr c209
                 by_cases c220 : x9_3 = 0
                 ·
                  rw [if_pos c220] at H
                  have c220b0 : (x9_3 == 0) = true := beq_iff_eq.mpr c220
                  have c220b1 : (x9_3 != 0) = false := bne_eq_false_iff_eq.mpr c220
                  clear c220
                  obtain rfl := Option.some.inj H
                  obtain ⟨Ao221, co221, eo221⟩ := Kd.R_slice HO_7.out
                  subst eo221
                  have hnb222 := NB290_288.out
                  have hnc222 := NB288_290.out
                  have hnb223 := NB290_289.out
                  have hnc223 := NB289_290.out
                  obtain ⟨hcz224_0, hcz224_1, hcz224_2, hfz224_0, hfz224_1, hfz224_2⟩ := c3_ BK290
                  go_wp2_with (first | ((with_reducible refine gate_callee (f := 18) rfl ?_); refine gl_ (some 174) Tryz.func18 #[.agg #[.bool a2_0, .int .u64 a2_1, .int .u64 a2_2]] ?_; (with_reducible refine (addr_Right.calls a2_0 a2_1 a2_2 true _ A164.out).mono ?_); rintro e w225 ⟨rfl, hb⟩; refine ⟨_, rfl, ?_⟩; replace HO_7 := Aside0.mk (Kd.R_below (by (with_reducible repeat (first | apply Kd.R_alloc | apply Kd.R_drewN | apply Kd.R_drew)); exact HO_7.out) hb); replace BK288 := bb_ BK288 hb; replace BK289 := bb_ BK289 hb; replace BK290 := bb_ BK290 hb; replace HB := bs_ HB hb; (try clear hb); (try clear hb2); (try clear hk); (try clear hi); have hnb226 := NB288_289.out; have hnc226 := NB289_288.out; obtain ⟨hcz227_0, hcz227_1, hcz227_2, hfz227_0, hfz227_1, hfz227_2⟩ := c3_ BK288; obtain ⟨hcz228_0, hcz228_1, hcz228_2, hfz228_0, hfz228_1, hfz228_2⟩ := c3_ BK290) | (go_at_call 20; (with_reducible refine (addr_Cmp.calls a0_0 a0_1 a0_2 a2_0 a2_1 a2_2 t309 _ A166.out).mono ?_); rintro e w229 ⟨rfl, hb⟩; replace HO_7 := Aside0.mk (Kd.R_below (by (with_reducible repeat (first | apply Kd.R_alloc | apply Kd.R_drewN | apply Kd.R_drew)); exact HO_7.out) hb); replace BK288 := bb_ BK288 hb; replace BK289 := bb_ BK289 hb; replace BK290 := bb_ BK290 hb; replace HB := bs_ HB hb; (try clear hb); (try clear hb2); (try clear hk); (try clear hi)))
                  go_ret
                  exact ⟨by first | rfl | (simp [errW_none, errW_some] <;> rfl) | (simp [*, errW_none, errW_some] <;> rfl), pb_ HB⟩
                 ·
                  rw [if_neg c220] at H
                  have c220b0 : (x9_3 == 0) = false := beq_eq_false_iff_ne.mpr c220
                  have c220b1 : (x9_3 != 0) = true := bne_iff_ne.mpr c220
                  obtain rfl := Option.some.inj H
                  exact absurd HRT.out (by decide)
              ·
               replace c165 := Bool.eq_false_iff.mpr c165
               subst c165
               have H1 : (if x9_3 = 1 then (if x9_3 = 0 then (some (!false)) else (some false)) else (if x9_3 = 0 then (some (!false)) else (some false))) = some r := by rw [if_neg (show ¬ (false = true) by decide)] at H; exact H
               clear H
               have H := H1
               clear H1
               by_cases c230 : x9_3 = 1
               ·
                rw [if_pos c230] at H
                have c230b0 : (x9_3 == 1) = true := beq_iff_eq.mpr c230
                have c230b1 : (x9_3 != 1) = false := bne_eq_false_iff_eq.mpr c230
                clear c230
                by_cases c231 : x9_3 = 0
                ·
                 rw [if_pos c231] at H
                 have c231b0 : (x9_3 == 0) = true := beq_iff_eq.mpr c231
                 have c231b1 : (x9_3 != 0) = false := bne_eq_false_iff_eq.mpr c231
                 clear c231
                 obtain rfl := Option.some.inj H
                 obtain ⟨Ao232, co232, eo232⟩ := Kd.R_slice HO_7.out
                 subst eo232
                 have hnb233 := NB290_288.out
                 have hnc233 := NB288_290.out
                 have hnb234 := NB290_289.out
                 have hnc234 := NB289_290.out
                 obtain ⟨hcz235_0, hcz235_1, hcz235_2, hfz235_0, hfz235_1, hfz235_2⟩ := c3_ BK290
                 go_wp2_with (first | ((with_reducible refine gate_callee (f := 18) rfl ?_); refine gl_ (some 174) Tryz.func18 #[.agg #[.bool a2_0, .int .u64 a2_1, .int .u64 a2_2]] ?_; (with_reducible refine (addr_Right.calls a2_0 a2_1 a2_2 false _ A164.out).mono ?_); rintro e w236 ⟨rfl, hb⟩; refine ⟨_, rfl, ?_⟩; replace HO_7 := Aside0.mk (Kd.R_below (by (with_reducible repeat (first | apply Kd.R_alloc | apply Kd.R_drewN | apply Kd.R_drew)); exact HO_7.out) hb); replace BK288 := bb_ BK288 hb; replace BK289 := bb_ BK289 hb; replace BK290 := bb_ BK290 hb; replace HB := bs_ HB hb; (try clear hb); (try clear hb2); (try clear hk); (try clear hi)))
                 go_ret
                 exact ⟨by first | rfl | (simp [errW_none, errW_some] <;> rfl) | (simp [*, errW_none, errW_some] <;> rfl), pb_ HB⟩
                ·
                 rw [if_neg c231] at H
                 have c231b0 : (x9_3 == 0) = false := beq_eq_false_iff_ne.mpr c231
                 have c231b1 : (x9_3 != 0) = true := bne_iff_ne.mpr c231
                 obtain rfl := Option.some.inj H
                 exact absurd HRT.out (by decide)
               ·
                rw [if_neg c230] at H
                have c230b0 : (x9_3 == 1) = false := beq_eq_false_iff_ne.mpr c230
                have c230b1 : (x9_3 != 1) = true := bne_iff_ne.mpr c230
                by_cases c237 : x9_3 = 0
                ·
                 rw [if_pos c237] at H
                 have c237b0 : (x9_3 == 0) = true := beq_iff_eq.mpr c237
                 have c237b1 : (x9_3 != 0) = false := bne_eq_false_iff_eq.mpr c237
                 clear c237
                 obtain rfl := Option.some.inj H
                 obtain ⟨Ao238, co238, eo238⟩ := Kd.R_slice HO_7.out
                 subst eo238
                 have hnb239 := NB290_288.out
                 have hnc239 := NB288_290.out
                 have hnb240 := NB290_289.out
                 have hnc240 := NB289_290.out
                 obtain ⟨hcz241_0, hcz241_1, hcz241_2, hfz241_0, hfz241_1, hfz241_2⟩ := c3_ BK290
                 go_wp2_with (first | ((with_reducible refine gate_callee (f := 18) rfl ?_); refine gl_ (some 174) Tryz.func18 #[.agg #[.bool a2_0, .int .u64 a2_1, .int .u64 a2_2]] ?_; (with_reducible refine (addr_Right.calls a2_0 a2_1 a2_2 false _ A164.out).mono ?_); rintro e w242 ⟨rfl, hb⟩; refine ⟨_, rfl, ?_⟩; replace HO_7 := Aside0.mk (Kd.R_below (by (with_reducible repeat (first | apply Kd.R_alloc | apply Kd.R_drewN | apply Kd.R_drew)); exact HO_7.out) hb); replace BK288 := bb_ BK288 hb; replace BK289 := bb_ BK289 hb; replace BK290 := bb_ BK290 hb; replace HB := bs_ HB hb; (try clear hb); (try clear hb2); (try clear hk); (try clear hi)))
                 go_ret
                 exact ⟨by first | rfl | (simp [errW_none, errW_some] <;> rfl) | (simp [*, errW_none, errW_some] <;> rfl), pb_ HB⟩
                ·
                 rw [if_neg c237] at H
                 have c237b0 : (x9_3 == 0) = false := beq_eq_false_iff_ne.mpr c237
                 have c237b1 : (x9_3 != 0) = true := bne_iff_ne.mpr c237
                 obtain rfl := Option.some.inj H
                 exact absurd HRT.out (by decide)
 ·
  replace c5 := Bool.eq_false_iff.mpr c5
  subst c5
  have H1 : (some false) = some r := by rw [if_neg (show ¬ (false = true) by decide)] at H; exact H
  clear H
  have H := H1
  clear H1
  obtain rfl := Option.some.inj H
  exact absurd HRT.out (by decide)

end Go.Proofs.YtgdgklibilddgaaGreatDoor.PSp

