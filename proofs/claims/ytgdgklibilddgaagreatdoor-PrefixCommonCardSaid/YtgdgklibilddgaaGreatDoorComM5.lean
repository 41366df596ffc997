/-
PrefixCommon: the narrowest prefix that two lie within is what the reference tells; both lie within it, and, where it is neither of them, in unlike halves: for every two prefixes the call returns true. No condition; the listed variables are tied to the program's text.
-/
import Derived.ProofKit
import Derived.ChangeSame
import Derived.LaidMore
import Derived.Lay
import Derived.MakeChecks
import Derived.LaidByTextLater
import Derived.OpenShut
import Derived.Stop.Joined
import Derived.Stop.LaidErr
import Derived.Handed
import Derived.Shelf.Vars
import Derived.Lib.SmallJoins
import Derived.Carry
import Derived.SevenTiedAt
import Derived.ShutString
import Derived.Test.YtgdgklibilddgaaGreatDoorComM4
import Derived.Test.YtgdgklibilddgaaGreatDoorRows
import Derived.Test.YtgdgklibilddgaaGreatDoorCards
import Derived.Test.YtgdgklibilddgaaGreatDoorTie
set_option linter.unusedVariables false
set_option linter.unusedSimpArgs false
namespace Go.Proofs.YtgdgklibilddgaaGreatDoor.PPr
open Go.RowKit Go.Proofs.YtgdgklibilddgaaGreatDoorW.PrintWords Go.Proofs.YtgdgklibilddgaaGreatDoorW.PrintLast Go.Proofs.YtgdgklibilddgaaGreatDoorW.PrintMore
attribute [local go_sem] max2_int min2_int max_two min_two max_three min_three max_four min_four   -- for this text's walks alone

attribute [local go_sem high] eqA26 eqA38
def platbooklaw03_PrefixHalves.j0 : Nat → Int → Bool → Bool → Int → Int → Int → Bool → Int → Int → Bool → Int → Int → Int → Bool → Int → Int → Int → Option (Bool)
 | 0, _, _, _, _, _, _, _, _, _, _, _, _, _, _, _, _, _ => none
 | k + 1, x7, x8, x323000, x323001, x323002, x323003, x324000, x324001, x324002, x335000, x335001, x335002, x335003, x336000, x336001, x336002, x336003 => (prefix_Has.f k x323000 x323001 x323002 x323003 x324000 x324001 x324002).bind fun t346 => (if (t346 != x8) = true then (some false) else ((addr_Width.f x323000 x323001 x323002).bind fun t347 => (if x323003 = t347 then (if x7 = 11 then (if ((!x335000 && ((x335001 == 0 && (x335002 == 0)))) && (x335003 == 0)) = true then (some ((!x336000 && ((x336001 == 0 && (x336002 == 0)))) && (x336003 == 0))) else (some false)) else (some false)) else ((prefix_Has.f k x335000 x335001 x335002 x335003 x324000 x324001 x324002).bind fun t348 => ((prefix_Has.f k x336000 x336001 x336002 x336003 x324000 x324001 x324002).bind fun t349 => (if x7 = 0 then ((prefix_Has.f k x323000 x323001 x323002 x323003 x324000 x324001 x324002).bind fun t350 => (if ((t348 != t349) == t350) = true then ((prefix_First.f x335000 x335001 x335002 x335003).bind fun bt351 => ((prefix_First.f x323000 x323001 x323002 x323003).bind fun bt354 => (if (bt351.1 == bt354.1 && ((bt351.2.1 == bt354.2.1 && (bt351.2.2 == bt354.2.2)))) = true then ((prefix_Last.f x336000 x336001 x336002 x336003).bind fun bt357 => ((prefix_Last.f x323000 x323001 x323002 x323003).bind fun bt360 => (if (bt357.1 == bt360.1 && ((bt357.2.1 == bt360.2.1 && (bt357.2.2 == bt360.2.2)))) = true then ((prefix_Overlap.f k x335000 x335001 x335002 x335003 x336000 x336001 x336002 x336003).bind fun t363 => (if t363 = true then (some false) else ((prefix_Cmp.f k x323000 x323001 x323002 x323003 x335000 x335001 x335002 x335003).bind fun t364 => (if t364 < 0 then ((prefix_Cmp.f k x335000 x335001 x335002 x335003 x336000 x336001 x336002 x336003).bind fun t365 => (some (decide (t365 < 0)))) else (some false))))) else (some false)))) else (some false)))) else (some false))) else (some false)))))))
def platbooklaw03_PrefixHalves.f (k : Nat) (a0_0 : Bool) (a0_1 : Int) (a0_2 : Int) (a0_3 : Int) (a1_0 : Bool) (a1_1 : Int) (a1_2 : Int) : Option (Bool) := (platbooklaw03_awake.f).bind fun t324 => (if t324 = true then ((prefix_Halves.f a0_0 a0_1 a0_2 a0_3).bind fun bt325 => ((platbookref03_Right.f k a0_0 a0_1 a0_2 a0_3).bind fun t336 => (if t336 = true then ((addr_Right.f a1_0 a1_1 a1_2).bind fun t337 => (if t337 = true then ((prefix_First.f a0_0 a0_1 a0_2 a0_3).bind fun bt338 => ((addr_Cmp.f bt338.1 bt338.2.1 bt338.2.2 a1_0 a1_1 a1_2).bind fun t341 => (if t341 ≤ 0 then ((prefix_Last.f a0_0 a0_1 a0_2 a0_3).bind fun bt342 => ((addr_Cmp.f a1_0 a1_1 a1_2 bt342.1 bt342.2.1 bt342.2.2).bind fun t345 => (platbooklaw03_PrefixHalves.j0 k bt325.2.2.2.2.2.2.2.2 (decide (t345 ≤ 0)) a0_0 a0_1 a0_2 a0_3 a1_0 a1_1 a1_2 bt325.1 bt325.2.1 bt325.2.2.1 bt325.2.2.2.1 bt325.2.2.2.2.1 bt325.2.2.2.2.2.1 bt325.2.2.2.2.2.2.1 bt325.2.2.2.2.2.2.2.1))) else (platbooklaw03_PrefixHalves.j0 k bt325.2.2.2.2.2.2.2.2 false a0_0 a0_1 a0_2 a0_3 a1_0 a1_1 a1_2 bt325.1 bt325.2.1 bt325.2.2.1 bt325.2.2.2.1 bt325.2.2.2.2.1 bt325.2.2.2.2.2.1 bt325.2.2.2.2.2.2.1 bt325.2.2.2.2.2.2.2.1)))) else (platbooklaw03_PrefixHalves.j0 k bt325.2.2.2.2.2.2.2.2 false a0_0 a0_1 a0_2 a0_3 a1_0 a1_1 a1_2 bt325.1 bt325.2.1 bt325.2.2.1 bt325.2.2.2.1 bt325.2.2.2.2.1 bt325.2.2.2.2.2.1 bt325.2.2.2.2.2.2.1 bt325.2.2.2.2.2.2.2.1))) else (if bt325.2.2.2.2.2.2.2.2 = 1 then (if ((!bt325.1 && ((bt325.2.1 == 0 && (bt325.2.2.1 == 0)))) && (bt325.2.2.2.1 == 0)) = true then (some ((!bt325.2.2.2.2.1 && ((bt325.2.2.2.2.2.1 == 0 && (bt325.2.2.2.2.2.2.1 == 0)))) && (bt325.2.2.2.2.2.2.2.1 == 0))) else (some false)) else (some false))))) else (some false))
def platbooklaw03_PrefixHalves.T6 : Bool × List (List Nat × List Nat) := (true, [([], []), ([0], [0]), ([1, 1], [1]), ([2], [2]), ([3, 2, 2], [2, 3]), ([2], [2]), ([4, 5, 4, 2], [2, 4, 5]), ([6, 2], [2, 6]), ([2, 7], [2, 7]), ([8, 6], [8]), ([9], [9]), ([9], [9]), ([11, 9, 9], [9, 11]), ([10, 12, 12, 9], [9, 10, 12]), ([13, 9], [9, 13]), ([9, 14], [9, 14]), ([15, 13, 0, 1, 2, 3, 4, 5, 6, 7, 8, 9, 10, 11, 12, 13, 14, 15], [15])])
def platbooklaw03_PrefixHalves.B6 : List Nat := [0, 1, 3, 7, 15, 7, 63, 127, 255, 511, 1023, 1023, 3071, 8191, 16383, 32767, 65535]
theorem platbooklaw03_PrefixHalves.tab6 : rtab .any (opsOf Tryz.f7 6) = platbooklaw03_PrefixHalves.T6 := by kernel_rfl
theorem platbooklaw03_PrefixHalves.bits6 : waitsOk platbooklaw03_PrefixHalves.T6.2 platbooklaw03_PrefixHalves.B6 = true := by kernel_rfl
def platbooklaw03_PrefixHalves.T11 : Bool × List (List Nat × List Nat) := (true, [([], []), ([], []), ([0, 1], [0, 1]), ([], []), ([], []), ([3, 4, 2], [3, 4]), ([2, 5], [2, 5]), ([6, 5, 0, 1, 2, 3, 4, 5, 6], [6])])
def platbooklaw03_PrefixHalves.B11 : List Nat := [0, 0, 3, 0, 0, 31, 63, 127]
theorem platbooklaw03_PrefixHalves.tab11 : rtab .any (opsOf Tryz.f7 11) = platbooklaw03_PrefixHalves.T11 := by kernel_rfl
theorem platbooklaw03_PrefixHalves.bits11 : waitsOk platbooklaw03_PrefixHalves.T11.2 platbooklaw03_PrefixHalves.B11 = true := by kernel_rfl
def platbooklaw03_PrefixHalves.T12 : Bool × List (List Nat × List Nat) := (true, [([], []), ([0], [0]), ([1], [1]), ([2], [2]), ([2], [2]), ([2], [2]), ([4, 5, 2, 2], [2, 4, 5]), ([3, 6, 2], [2, 3, 6]), ([2, 7], [2, 7]), ([8, 6], [8]), ([9], [9]), ([10, 9, 9], [9, 10]), ([9], [9]), ([12, 11, 9], [9, 12]), ([11, 13, 9], [9, 11, 13]), ([9, 14], [9, 14]), ([15, 13], [15]), ([16], [16]), ([17, 16, 16], [16, 17]), ([16], [16]), ([19, 18, 16], [16, 19]), ([18, 20, 16], [16, 18, 20]), ([16, 21], [16, 21]), ([22, 20], [22]), ([23], [23]), ([23], [23]), ([24, 25, 23, 23], [23, 24, 25]), ([26, 23], [23, 26]), ([23, 27], [23, 27]), ([28, 26], [28]), ([29], [29]), ([29], [29]), ([30, 31, 29, 29], [29, 30, 31]), ([32, 29], [29, 32]), ([29, 33], [29, 33]), ([34, 32], [34]), ([35], [35]), ([35], [35]), ([36, 37, 35, 35], [35, 36, 37]), ([38, 35], [35, 38]), ([35, 39], [35, 39]), ([40, 38, 0, 1, 2, 3, 4, 5, 6, 7, 8, 9, 10, 11, 12, 13, 14, 15, 16, 17, 18, 19, 20, 21, 22, 23, 24, 25, 26, 27, 28, 29, 30, 31, 32, 33, 34, 35, 36, 37, 38, 39, 40], [40])])
def platbooklaw03_PrefixHalves.B12 : List Nat := [0, 1, 3, 7, 7, 7, 55, 127, 255, 511, 1023, 2047, 1023, 8191, 16383, 32767, 65535, 131071, 262143, 131071, 1048575, 2097151, 4194303, 8388607, 16777215, 16777215, 67108863, 134217727, 268435455, 536870911, 1073741823, 1073741823, 4294967295, 8589934591, 17179869183, 34359738367, 68719476735, 68719476735, 274877906943, 549755813887, 1099511627775, 2199023255551]
theorem platbooklaw03_PrefixHalves.tab12 : rtab .any (opsOf Tryz.f7 12) = platbooklaw03_PrefixHalves.T12 := by kernel_rfl
theorem platbooklaw03_PrefixHalves.bits12 : waitsOk platbooklaw03_PrefixHalves.T12.2 platbooklaw03_PrefixHalves.B12 = true := by kernel_rfl
set_option maxHeartbeats 8000000 in
set_option maxRecDepth 100000 in
theorem platbooklaw03_PrefixHalves.calls (k : Nat) (a0_0 : Bool) (a0_1 : Int) (a0_2 : Int) (a0_3 : Int) (a1_0 : Bool) (a1_1 : Int) (a1_2 : Int) (r : Bool) (w : World) (hG : Glob w) (hrt : r = true) (h : platbooklaw03_PrefixHalves.f k a0_0 a0_1 a0_2 a0_3 a1_0 a1_1 a1_2 = some r) :
  Calls Tryz.prog 7 #[.agg #[.bool a0_0, .int .u64 a0_1, .int .u64 a0_2, .int .i64 a0_3], .agg #[.bool a1_0, .int .u64 a1_1, .int .u64 a1_2]] w fun e w' => e = .returned (.bool r) ∧ Below w.heap.size w w' := by
 have hu38 := Tryz.underlying38
 have hu26 := Tryz.underlying26
 have HGLB := Aside0.mk hG
 clear hG
 have HRT := Aside0.mk hrt
 clear hrt
 have HB := Aside0.mk (Below.refl w.heap.size w)
 have H : ((platbooklaw03_awake.f).bind fun t324 => (if t324 = true then ((prefix_Halves.f a0_0 a0_1 a0_2 a0_3).bind fun bt325 => ((platbookref03_Right.f k a0_0 a0_1 a0_2 a0_3).bind fun t336 => (if t336 = true then ((addr_Right.f a1_0 a1_1 a1_2).bind fun t337 => (if t337 = true then ((prefix_First.f a0_0 a0_1 a0_2 a0_3).bind fun bt338 => ((addr_Cmp.f bt338.1 bt338.2.1 bt338.2.2 a1_0 a1_1 a1_2).bind fun t341 => (if t341 ≤ 0 then ((prefix_Last.f a0_0 a0_1 a0_2 a0_3).bind fun bt342 => ((addr_Cmp.f a1_0 a1_1 a1_2 bt342.1 bt342.2.1 bt342.2.2).bind fun t345 => (platbooklaw03_PrefixHalves.j0 k bt325.2.2.2.2.2.2.2.2 (decide (t345 ≤ 0)) a0_0 a0_1 a0_2 a0_3 a1_0 a1_1 a1_2 bt325.1 bt325.2.1 bt325.2.2.1 bt325.2.2.2.1 bt325.2.2.2.2.1 bt325.2.2.2.2.2.1 bt325.2.2.2.2.2.2.1 bt325.2.2.2.2.2.2.2.1))) else (platbooklaw03_PrefixHalves.j0 k bt325.2.2.2.2.2.2.2.2 false a0_0 a0_1 a0_2 a0_3 a1_0 a1_1 a1_2 bt325.1 bt325.2.1 bt325.2.2.1 bt325.2.2.2.1 bt325.2.2.2.2.1 bt325.2.2.2.2.2.1 bt325.2.2.2.2.2.2.1 bt325.2.2.2.2.2.2.2.1)))) else (platbooklaw03_PrefixHalves.j0 k bt325.2.2.2.2.2.2.2.2 false a0_0 a0_1 a0_2 a0_3 a1_0 a1_1 a1_2 bt325.1 bt325.2.1 bt325.2.2.1 bt325.2.2.2.1 bt325.2.2.2.2.1 bt325.2.2.2.2.2.1 bt325.2.2.2.2.2.2.1 bt325.2.2.2.2.2.2.2.1))) else (if bt325.2.2.2.2.2.2.2.2 = 1 then (if ((!bt325.1 && ((bt325.2.1 == 0 && (bt325.2.2.1 == 0)))) && (bt325.2.2.2.1 == 0)) = true then (some ((!bt325.2.2.2.2.1 && ((bt325.2.2.2.2.2.1 == 0 && (bt325.2.2.2.2.2.2.1 == 0)))) && (bt325.2.2.2.2.2.2.2.1 == 0))) else (some false)) else (some false))))) else (some false))) = some r := h
 clear h
 replace H := Option.bind_eq_some_iff.mp H
 obtain ⟨t324, A30, H⟩ := H
 replace H : (if t324 = true then ((prefix_Halves.f a0_0 a0_1 a0_2 a0_3).bind fun bt325 => ((platbookref03_Right.f k a0_0 a0_1 a0_2 a0_3).bind fun t336 => (if t336 = true then ((addr_Right.f a1_0 a1_1 a1_2).bind fun t337 => (if t337 = true then ((prefix_First.f a0_0 a0_1 a0_2 a0_3).bind fun bt338 => ((addr_Cmp.f bt338.1 bt338.2.1 bt338.2.2 a1_0 a1_1 a1_2).bind fun t341 => (if t341 ≤ 0 then ((prefix_Last.f a0_0 a0_1 a0_2 a0_3).bind fun bt342 => ((addr_Cmp.f a1_0 a1_1 a1_2 bt342.1 bt342.2.1 bt342.2.2).bind fun t345 => (platbooklaw03_PrefixHalves.j0 k bt325.2.2.2.2.2.2.2.2 (decide (t345 ≤ 0)) a0_0 a0_1 a0_2 a0_3 a1_0 a1_1 a1_2 bt325.1 bt325.2.1 bt325.2.2.1 bt325.2.2.2.1 bt325.2.2.2.2.1 bt325.2.2.2.2.2.1 bt325.2.2.2.2.2.2.1 bt325.2.2.2.2.2.2.2.1))) else (platbooklaw03_PrefixHalves.j0 k bt325.2.2.2.2.2.2.2.2 false a0_0 a0_1 a0_2 a0_3 a1_0 a1_1 a1_2 bt325.1 bt325.2.1 bt325.2.2.1 bt325.2.2.2.1 bt325.2.2.2.2.1 bt325.2.2.2.2.2.1 bt325.2.2.2.2.2.2.1 bt325.2.2.2.2.2.2.2.1)))) else (platbooklaw03_PrefixHalves.j0 k bt325.2.2.2.2.2.2.2.2 false a0_0 a0_1 a0_2 a0_3 a1_0 a1_1 a1_2 bt325.1 bt325.2.1 bt325.2.2.1 bt325.2.2.2.1 bt325.2.2.2.2.1 bt325.2.2.2.2.2.1 bt325.2.2.2.2.2.2.1 bt325.2.2.2.2.2.2.2.1))) else (if bt325.2.2.2.2.2.2.2.2 = 1 then (if ((!bt325.1 && ((bt325.2.1 == 0 && (bt325.2.2.1 == 0)))) && (bt325.2.2.2.1 == 0)) = true then (some ((!bt325.2.2.2.2.1 && ((bt325.2.2.2.2.2.1 == 0 && (bt325.2.2.2.2.2.2.1 == 0)))) && (bt325.2.2.2.2.2.2.2.1 == 0))) else (some false)) else (some false))))) else (some false)) = some r := H
 have A3 := Aside0.mk A30
 clear A30
 by_cases c4 : t324 = true
 ·
  subst c4
  rw [if_pos rfl] at H
  replace H := Option.bind_eq_some_iff.mp H
  obtain ⟨⟨t325, t326, t327, t328, t329, t330, t331, t332, t333⟩, A50, H⟩ := H
  replace H : ((platbookref03_Right.f k a0_0 a0_1 a0_2 a0_3).bind fun t336 => (if t336 = true then ((addr_Right.f a1_0 a1_1 a1_2).bind fun t337 => (if t337 = true then ((prefix_First.f a0_0 a0_1 a0_2 a0_3).bind fun bt338 => ((addr_Cmp.f bt338.1 bt338.2.1 bt338.2.2 a1_0 a1_1 a1_2).bind fun t341 => (if t341 ≤ 0 then ((prefix_Last.f a0_0 a0_1 a0_2 a0_3).bind fun bt342 => ((addr_Cmp.f a1_0 a1_1 a1_2 bt342.1 bt342.2.1 bt342.2.2).bind fun t345 => (platbooklaw03_PrefixHalves.j0 k t333 (decide (t345 ≤ 0)) a0_0 a0_1 a0_2 a0_3 a1_0 a1_1 a1_2 t325 t326 t327 t328 t329 t330 t331 t332))) else (platbooklaw03_PrefixHalves.j0 k t333 false a0_0 a0_1 a0_2 a0_3 a1_0 a1_1 a1_2 t325 t326 t327 t328 t329 t330 t331 t332)))) else (platbooklaw03_PrefixHalves.j0 k t333 false a0_0 a0_1 a0_2 a0_3 a1_0 a1_1 a1_2 t325 t326 t327 t328 t329 t330 t331 t332))) else (if t333 = 1 then (if ((!t325 && ((t326 == 0 && (t327 == 0)))) && (t328 == 0)) = true then (some ((!t329 && ((t330 == 0 && (t331 == 0)))) && (t332 == 0))) else (some false)) else (some false)))) = some r := H
  have A5 := Aside0.mk A50
  clear A50
  replace H := Option.bind_eq_some_iff.mp H
  obtain ⟨t336, A60, H⟩ := H
  replace H : (if t336 = true then ((addr_Right.f a1_0 a1_1 a1_2).bind fun t337 => (if t337 = true then ((prefix_First.f a0_0 a0_1 a0_2 a0_3).bind fun bt338 => ((addr_Cmp.f bt338.1 bt338.2.1 bt338.2.2 a1_0 a1_1 a1_2).bind fun t341 => (if t341 ≤ 0 then ((prefix_Last.f a0_0 a0_1 a0_2 a0_3).bind fun bt342 => ((addr_Cmp.f a1_0 a1_1 a1_2 bt342.1 bt342.2.1 bt342.2.2).bind fun t345 => (platbooklaw03_PrefixHalves.j0 k t333 (decide (t345 ≤ 0)) a0_0 a0_1 a0_2 a0_3 a1_0 a1_1 a1_2 t325 t326 t327 t328 t329 t330 t331 t332))) else (platbooklaw03_PrefixHalves.j0 k t333 false a0_0 a0_1 a0_2 a0_3 a1_0 a1_1 a1_2 t325 t326 t327 t328 t329 t330 t331 t332)))) else (platbooklaw03_PrefixHalves.j0 k t333 false a0_0 a0_1 a0_2 a0_3 a1_0 a1_1 a1_2 t325 t326 t327 t328 t329 t330 t331 t332))) else (if t333 = 1 then (if ((!t325 && ((t326 == 0 && (t327 == 0)))) && (t328 == 0)) = true then (some ((!t329 && ((t330 == 0 && (t331 == 0)))) && (t332 == 0))) else (some false)) else (some false))) = some r := H
  have A6 := Aside0.mk A60
  clear A60
  by_cases c7 : t336 = true
  ·
   subst c7
   rw [if_pos rfl] at H
   have HC8 := Aside0.mk H
   clear H
   go_enter Tryz.func7, Tryz.ntmps7
   go_upto_region 6 with (first | ((with_reducible refine gate_dst (N := 2) rfl ?_); refine bx_ 2 #[.bool a0_0, .int .u64 a0_1, .int .u64 a0_2, .int .i64 a0_3] 38 ?_; intro gb322 hg w9 hbox hb; have BK322 := Aside0.mk (hbox); have GW322 := gw_ HB hg; have GE322 := gw_ HB hg; replace HB := bs_ HB hb; clear hb hbox hg) | ((with_reducible refine gate_dst (N := 3) rfl ?_); refine bx_ 3 #[.bool a1_0, .int .u64 a1_1, .int .u64 a1_2] 26 ?_; intro gb323 hg w10 hbox hb; have BK323 := Aside0.mk (hbox); have GW323 := gw_ HB hg; have GE323 := gw_ HB hg; have NB322_323 := nl_ BK322 hg; have NB323_322 := ng_ BK322 hg; replace BK322 := bb_ BK322 hb; replace HB := bs_ HB hb; clear hb hbox hg) | ((with_reducible refine gate_callee (f := 24) rfl ?_); refine gl_ (some 10) Tryz.func24 #[] ?_; (with_reducible refine (platbooklaw03_awake.calls  true _ ?side1 rfl A3.out).mono ?_); (case side1 => exact glob_keep HGLB.out (pb_ HB)); rintro e w11 ⟨rfl, hb⟩; refine ⟨_, rfl, ?_⟩; replace BK322 := bb_ BK322 hb; replace BK323 := bb_ BK323 hb; replace HB := bs_ HB hb; (try clear hb); (try clear hb2); (try clear hk); (try clear hi); have hnb12 := NB322_323.out; have hnc12 := NB323_322.out; obtain ⟨hcz13_0, hcz13_1, hcz13_2, hcz13_3, hfz13_0, hfz13_1, hfz13_2, hfz13_3⟩ := c4_ BK322) | ((with_reducible refine gate_callee (f := 33) rfl ?_); refine gl_ (some 14) Tryz.func33 #[.agg #[.bool a0_0, .int .u64 a0_1, .int .u64 a0_2, .int .i64 a0_3]] ?_; (with_reducible refine (prefix_Halves.calls a0_0 a0_1 a0_2 a0_3 t325 t326 t327 t328 t329 t330 t331 t332 t333 _ A5.out).mono ?_); rintro e w14 ⟨rfl, hb⟩; refine ⟨_, rfl, ?_⟩; replace BK322 := bb_ BK322 hb; replace BK323 := bb_ BK323 hb; replace HB := bs_ HB hb; (try clear hb); (try clear hb2); (try clear hk); (try clear hi)) | ((with_reducible refine gate_dst (N := 5) rfl ?_); refine bx_ 5 #[.bool false, .int .u64 0, .int .u64 0, .int .i64 0] 38 ?_; intro gb334 hg w15 hbox hb; have BK334 := Aside0.mk (hbox); have GW334 := gw_ HB hg; have GE334 := gw_ HB hg; have NB322_334 := nl_ BK322 hg; have NB334_322 := ng_ BK322 hg; have NB323_334 := nl_ BK323 hg; have NB334_323 := ng_ BK323 hg; replace BK322 := bb_ BK322 hb; replace BK323 := bb_ BK323 hb; replace HB := bs_ HB hb; clear hb hbox hg) | ((with_reducible refine gate_dst (N := 6) rfl ?_); refine bx_ 6 #[.bool false, .int .u64 0, .int .u64 0, .int .i64 0] 38 ?_; intro gb335 hg w16 hbox hb; have BK335 := Aside0.mk (hbox); have GW335 := gw_ HB hg; have GE335 := gw_ HB hg; have NB322_335 := nl_ BK322 hg; have NB335_322 := ng_ BK322 hg; have NB323_335 := nl_ BK323 hg; have NB335_323 := ng_ BK323 hg; have NB334_335 := nl_ BK334 hg; have NB335_334 := ng_ BK334 hg; replace BK322 := bb_ BK322 hb; replace BK323 := bb_ BK323 hb; replace BK334 := bb_ BK334 hb; replace HB := bs_ HB hb; clear hb hbox hg; have hnb17 := NB334_322.out; have hnc17 := NB322_334.out; have hnb18 := NB334_323.out; have hnc18 := NB323_334.out; have hnb19 := NB334_335.out; have hnc19 := NB335_334.out; obtain ⟨hcz20_0, hcz20_1, hcz20_2, hcz20_3, hfz20_0, hfz20_1, hfz20_2, hfz20_3⟩ := c4_ BK334; have hnb21 := NB335_322.out; have hnc21 := NB322_335.out; have hnb22 := NB335_323.out; have hnc22 := NB323_335.out; obtain ⟨hcz23_0, hcz23_1, hcz23_2, hcz23_3, hfz23_0, hfz23_1, hfz23_2, hfz23_3⟩ := c4_ BK335; obtain ⟨hcz24_0, hcz24_1, hcz24_2, hcz24_3, hfz24_0, hfz24_1, hfz24_2, hfz24_3⟩ := c4_ BK322) | ((with_reducible refine gate_callee (f := 29) rfl ?_); refine gl_ (some 19) Tryz.func29 #[.agg #[.bool a0_0, .int .u64 a0_1, .int .u64 a0_2, .int .i64 a0_3]] ?_; (with_reducible refine (platbookref03_Right.calls k a0_0 a0_1 a0_2 a0_3 true _ A6.out).mono ?_); rintro e w25 ⟨rfl, hb⟩; refine ⟨_, rfl, ?_⟩; replace BK322 := Aside0.mk (blk_below (g := gb322) (o := .cells #[.bool a0_0, .int .u64 a0_1, .int .u64 a0_2, .int .i64 a0_3] 38 (0, 0)) (by refine pw_ ?_; refine blk_far ?_ NB322_335.out _; refine pw_ ?_; refine blk_far ?_ NB322_335.out _; refine pw_ ?_; refine blk_far ?_ NB322_335.out _; refine pw_ ?_; refine blk_far ?_ NB322_335.out _; refine pw_ ?_; refine blk_far ?_ NB322_334.out _; refine pw_ ?_; refine blk_far ?_ NB322_334.out _; refine pw_ ?_; refine blk_far ?_ NB322_334.out _; refine pw_ ?_; refine blk_far ?_ NB322_334.out _; refine pw_ ?_; exact BK322.out) hb); replace BK323 := Aside0.mk (blk_below (g := gb323) (o := .cells #[.bool a1_0, .int .u64 a1_1, .int .u64 a1_2] 26 (0, 0)) (by refine pw_ ?_; refine blk_far ?_ NB323_335.out _; refine pw_ ?_; refine blk_far ?_ NB323_335.out _; refine pw_ ?_; refine blk_far ?_ NB323_335.out _; refine pw_ ?_; refine blk_far ?_ NB323_335.out _; refine pw_ ?_; refine blk_far ?_ NB323_334.out _; refine pw_ ?_; refine blk_far ?_ NB323_334.out _; refine pw_ ?_; refine blk_far ?_ NB323_334.out _; refine pw_ ?_; refine blk_far ?_ NB323_334.out _; refine pw_ ?_; exact BK323.out) hb); replace BK334 := Aside0.mk (blk_below (g := gb334) (o := .cells #[.bool t325, .int .u64 t326, .int .u64 t327, .int .i64 t328] 38 (0, 0)) (by refine pw_ ?_; refine blk_far ?_ NB334_335.out _; refine pw_ ?_; refine blk_far ?_ NB334_335.out _; refine pw_ ?_; refine blk_far ?_ NB334_335.out _; refine pw_ ?_; refine blk_far ?_ NB334_335.out _; refine pw_ ?_; refine blk_put (cs := #[.bool t325, .int .u64 t326, .int .u64 t327, .int .i64 0]) ?_ 3 _ rfl; refine pw_ ?_; refine blk_put (cs := #[.bool t325, .int .u64 t326, .int .u64 0, .int .i64 0]) ?_ 2 _ rfl; refine pw_ ?_; refine blk_put (cs := #[.bool t325, .int .u64 0, .int .u64 0, .int .i64 0]) ?_ 1 _ rfl; refine pw_ ?_; refine blk_put (cs := #[.bool false, .int .u64 0, .int .u64 0, .int .i64 0]) ?_ 0 _ rfl; refine pw_ ?_; exact BK334.out) hb); replace BK335 := Aside0.mk (blk_below (g := gb335) (o := .cells #[.bool t329, .int .u64 t330, .int .u64 t331, .int .i64 t332] 38 (0, 0)) (by refine pw_ ?_; refine blk_put (cs := #[.bool t329, .int .u64 t330, .int .u64 t331, .int .i64 0]) ?_ 3 _ rfl; refine pw_ ?_; refine blk_put (cs := #[.bool t329, .int .u64 t330, .int .u64 0, .int .i64 0]) ?_ 2 _ rfl; refine pw_ ?_; refine blk_put (cs := #[.bool t329, .int .u64 0, .int .u64 0, .int .i64 0]) ?_ 1 _ rfl; refine pw_ ?_; refine blk_put (cs := #[.bool false, .int .u64 0, .int .u64 0, .int .i64 0]) ?_ 0 _ rfl; refine pw_ ?_; refine blk_far ?_ NB335_334.out _; refine pw_ ?_; refine blk_far ?_ NB335_334.out _; refine pw_ ?_; refine blk_far ?_ NB335_334.out _; refine pw_ ?_; refine blk_far ?_ NB335_334.out _; refine pw_ ?_; exact BK335.out) hb); replace HB := bs_ HB hb; (try clear hb); (try clear hb2); (try clear hk); (try clear hi)))
   (try simp only [Act.put, List.setIfInBounds_toArray, List.set_cons_zero, List.set_cons_succ])
   go_cut [8] (fun v8 wc => ∃ (kq : Nat) (x8_7 : Bool), v8 = .bool x8_7 ∧ Aside0 (platbooklaw03_PrefixHalves.j0 kq t333 x8_7 a0_0 a0_1 a0_2 a0_3 a1_0 a1_1 a1_2 t325 t326 t327 t328 t329 t330 t331 t332 = some r) ∧ Aside0 (kq ≤ k) ∧ Aside0 (wc.heap[gb322]? = some (.cells #[.bool a0_0, .int .u64 a0_1, .int .u64 a0_2, .int .i64 a0_3] 38 (0, 0))) ∧ Aside0 (wc.heap[gb323]? = some (.cells #[.bool a1_0, .int .u64 a1_1, .int .u64 a1_2] 26 (0, 0))) ∧ Aside0 (wc.heap[gb334]? = some (.cells #[.bool t325, .int .u64 t326, .int .u64 t327, .int .i64 t328] 38 (0, 0))) ∧ Aside0 (wc.heap[gb335]? = some (.cells #[.bool t329, .int .u64 t330, .int .u64 t331, .int .i64 t332] 38 (0, 0))) ∧ Aside0 (Below w.heap.size w wc))
   case first =>
    have H := HC8.out
    clear HC8
    replace H := Option.bind_eq_some_iff.mp H
    obtain ⟨t337, A260, H⟩ := H
    replace H : (if t337 = true then ((prefix_First.f a0_0 a0_1 a0_2 a0_3).bind fun bt338 => ((addr_Cmp.f bt338.1 bt338.2.1 bt338.2.2 a1_0 a1_1 a1_2).bind fun t341 => (if t341 ≤ 0 then ((prefix_Last.f a0_0 a0_1 a0_2 a0_3).bind fun bt342 => ((addr_Cmp.f a1_0 a1_1 a1_2 bt342.1 bt342.2.1 bt342.2.2).bind fun t345 => (platbooklaw03_PrefixHalves.j0 k t333 (decide (t345 ≤ 0)) a0_0 a0_1 a0_2 a0_3 a1_0 a1_1 a1_2 t325 t326 t327 t328 t329 t330 t331 t332))) else (platbooklaw03_PrefixHalves.j0 k t333 false a0_0 a0_1 a0_2 a0_3 a1_0 a1_1 a1_2 t325 t326 t327 t328 t329 t330 t331 t332)))) else (platbooklaw03_PrefixHalves.j0 k t333 false a0_0 a0_1 a0_2 a0_3 a1_0 a1_1 a1_2 t325 t326 t327 t328 t329 t330 t331 t332)) = some r := H
    have A26 := Aside0.mk A260
    clear A260
    by_cases c27 : t337 = true
    ·
     subst c27
     rw [if_pos rfl] at H
     replace H := Option.bind_eq_some_iff.mp H
     obtain ⟨⟨t338, t339, t340⟩, A280, H⟩ := H
     replace H : ((addr_Cmp.f t338 t339 t340 a1_0 a1_1 a1_2).bind fun t341 => (if t341 ≤ 0 then ((prefix_Last.f a0_0 a0_1 a0_2 a0_3).bind fun bt342 => ((addr_Cmp.f a1_0 a1_1 a1_2 bt342.1 bt342.2.1 bt342.2.2).bind fun t345 => (platbooklaw03_PrefixHalves.j0 k t333 (decide (t345 ≤ 0)) a0_0 a0_1 a0_2 a0_3 a1_0 a1_1 a1_2 t325 t326 t327 t328 t329 t330 t331 t332))) else (platbooklaw03_PrefixHalves.j0 k t333 false a0_0 a0_1 a0_2 a0_3 a1_0 a1_1 a1_2 t325 t326 t327 t328 t329 t330 t331 t332))) = some r := H
     have A28 := Aside0.mk A280
     clear A280
     replace H := Option.bind_eq_some_iff.mp H
     obtain ⟨t341, A290, H⟩ := H
     replace H : (if t341 ≤ 0 then ((prefix_Last.f a0_0 a0_1 a0_2 a0_3).bind fun bt342 => ((addr_Cmp.f a1_0 a1_1 a1_2 bt342.1 bt342.2.1 bt342.2.2).bind fun t345 => (platbooklaw03_PrefixHalves.j0 k t333 (decide (t345 ≤ 0)) a0_0 a0_1 a0_2 a0_3 a1_0 a1_1 a1_2 t325 t326 t327 t328 t329 t330 t331 t332))) else (platbooklaw03_PrefixHalves.j0 k t333 false a0_0 a0_1 a0_2 a0_3 a1_0 a1_1 a1_2 t325 t326 t327 t328 t329 t330 t331 t332)) = some r := H
     have A29 := Aside0.mk A290
     clear A290
     by_cases c30 : t341 ≤ 0
     ·
      rw [if_pos c30] at H
      have c30b0 : decide (t341 ≤ 0) = true := decide_eq_true c30
      clear c30
      (first | rw [c30b0] | (simp only [i64_w, i32_w]; rw [c30b0]) | skip)
      replace H := Option.bind_eq_some_iff.mp H
      obtain ⟨⟨t342, t343, t344⟩, A310, H⟩ := H
      replace H : ((addr_Cmp.f a1_0 a1_1 a1_2 t342 t343 t344).bind fun t345 => (platbooklaw03_PrefixHalves.j0 k t333 (decide (t345 ≤ 0)) a0_0 a0_1 a0_2 a0_3 a1_0 a1_1 a1_2 t325 t326 t327 t328 t329 t330 t331 t332)) = some r := H
      have A31 := Aside0.mk A310
      clear A310
      replace H := Option.bind_eq_some_iff.mp H
      obtain ⟨t345, A320, H⟩ := H
      replace H : (platbooklaw03_PrefixHalves.j0 k t333 (decide (t345 ≤ 0)) a0_0 a0_1 a0_2 a0_3 a1_0 a1_1 a1_2 t325 t326 t327 t328 t329 t330 t331 t332) = some r := H
      have A32 := Aside0.mk A320
      clear A320
      have H' := Aside0.mk H
      clear H
      try go_wp2
      replace BK322 := Aside0.mk (blk_drew BK322.out)
      replace BK323 := Aside0.mk (blk_drew BK323.out)
      replace BK334 := Aside0.mk (blk_drew BK334.out)
      replace BK335 := Aside0.mk (blk_drew BK335.out)
      replace HB := Aside0.mk (below_drew1 HB.out)
      refine start_ (n := 17) (S := fun w' => w'.cell? ⟨gb323, 0, none⟩ = some (.bool a1_0) ∧ w'.cell? ⟨gb323, 1, none⟩ = some (.int .u64 a1_1) ∧ w'.cell? ⟨gb323, 2, none⟩ = some (.int .u64 a1_2) ∧ w'.cell? ⟨gb322, 0, none⟩ = some (.bool a0_0) ∧ w'.cell? ⟨gb322, 1, none⟩ = some (.int .u64 a0_1) ∧ w'.cell? ⟨gb322, 2, none⟩ = some (.int .u64 a0_2) ∧ w'.cell? ⟨gb322, 3, none⟩ = some (.int .i64 a0_3)) (ds := []) (bm_ 17 0) (by kernel_rfl) rfl rfl ⟨kc_ BK323 0, kc_ BK323 1, kc_ BK323 2, kc_ BK322 0, kc_ BK322 1, kc_ BK322 2, kc_ BK322 3⟩ (fun hHeld => ?_); refine with_tabW platbooklaw03_PrefixHalves.tab6 platbooklaw03_PrefixHalves.bits6 (fun HT_ HW_ => ?_)
      generalize w25.drew = w33 at BK322 BK323 BK334 BK335 HB hHeld ⊢
      refine ta_ 0 (some 33) (bm_ 17 1) rfl HT_ HW_ ⟨by rfl, by rintro w' ⟨s0, s1, s2, s3, s4, s5, s6⟩; go_simp; with_reducible rfl⟩ hHeld ?_
      refine one_ (i := 1) (N := some 34) (bm_ 17 3) rfl rfl (one_of HT_.out (by kernel_rfl)) (by decide) (fun K hK => ?_)
      refine gr_ Tryz.func18 #[.agg #[.bool a1_0, .int .u64 a1_1, .int .u64 a1_2]] ?_
      with_reducible refine (addr_Right.calls a1_0 a1_1 a1_2 true _ A26.out).mono ?_
      rintro e w34 ⟨rfl, hb⟩
      refine ⟨_, rfl, ?_⟩
      replace BK322 := bb_ BK322 hb
      replace BK323 := bb_ BK323 hb
      replace BK334 := bb_ BK334 hb
      replace BK335 := bb_ BK335 hb
      replace HB := bs_ HB hb
      (try clear hb)
      (try clear hb2)
      (try clear hk)
      (try clear hi)
      refine hK.out _ _ ⟨kc_ BK323 0, kc_ BK323 1, kc_ BK323 2, kc_ BK322 0, kc_ BK322 1, kc_ BK322 2, kc_ BK322 3⟩ (fun hHeld => ?_)
      clear hK K
      refine norm_ (a' := ?_) ?_ ?_
      rotate_left
      ·
       show Act.put _ (some 34) _ = _
       simp only [Act.put, List.setIfInBounds_toArray, List.set_cons_zero, List.set_cons_succ, i64_w, i32_w]
       rfl
      refine pu_ 2 (some 35) (bm_ 17 7) rfl HT_ ⟨by rfl, by intro w'; go_simp; with_reducible rfl⟩ ?_
      refine ta_ 3 (some 36) (bm_ 17 15) rfl HT_ HW_ ⟨by rfl, by rintro w' ⟨s0, s1, s2, s3, s4, s5, s6⟩; go_simp; with_reducible rfl⟩ hHeld ?_
      refine ta_ 5 (some 38) (bm_ 17 47) rfl HT_ HW_ ⟨by rfl, by rintro w' ⟨s0, s1, s2, s3, s4, s5, s6⟩; go_simp; with_reducible rfl⟩ hHeld ?_
      refine one_ (i := 4) (N := some 37) (bm_ 17 63) rfl rfl (one_of HT_.out (by kernel_rfl)) (by decide) (fun K hK => ?_)
      refine gr_ Tryz.func37 #[.agg #[.bool a0_0, .int .u64 a0_1, .int .u64 a0_2, .int .i64 a0_3]] ?_
      with_reducible refine (prefix_First.calls a0_0 a0_1 a0_2 a0_3 t338 t339 t340 _ A28.out).mono ?_
      rintro e w35 ⟨rfl, hb⟩
      refine ⟨_, rfl, ?_⟩
      replace BK322 := bb_ BK322 hb
      replace BK323 := bb_ BK323 hb
      replace BK334 := bb_ BK334 hb
      replace BK335 := bb_ BK335 hb
      replace HB := bs_ HB hb
      (try clear hb)
      (try clear hb2)
      (try clear hk)
      (try clear hi)
      refine hK.out _ _ ⟨kc_ BK323 0, kc_ BK323 1, kc_ BK323 2, kc_ BK322 0, kc_ BK322 1, kc_ BK322 2, kc_ BK322 3⟩ (fun hHeld => ?_)
      clear hK K
      refine norm_ (a' := ?_) ?_ ?_
      rotate_left
      ·
       show Act.put _ (some 37) _ = _
       simp only [Act.put, List.setIfInBounds_toArray, List.set_cons_zero, List.set_cons_succ, i64_w, i32_w]
       rfl
      refine one_ (i := 6) (N := some 39) (bm_ 17 127) rfl rfl (one_of HT_.out (by kernel_rfl)) (by decide) (fun K hK => ?_)
      refine gr_ Tryz.func20 #[.agg #[.bool t338, .int .u64 t339, .int .u64 t340], .agg #[.bool a1_0, .int .u64 a1_1, .int .u64 a1_2]] ?_
      with_reducible refine (addr_Cmp.calls t338 t339 t340 a1_0 a1_1 a1_2 t341 _ A29.out).mono ?_
      rintro e w36 ⟨rfl, hb⟩
      refine ⟨_, rfl, ?_⟩
      replace BK322 := bb_ BK322 hb
      replace BK323 := bb_ BK323 hb
      replace BK334 := bb_ BK334 hb
      replace BK335 := bb_ BK335 hb
      replace HB := bs_ HB hb
      (try clear hb)
      (try clear hb2)
      (try clear hk)
      (try clear hi)
      refine hK.out _ _ ⟨kc_ BK323 0, kc_ BK323 1, kc_ BK323 2, kc_ BK322 0, kc_ BK322 1, kc_ BK322 2, kc_ BK322 3⟩ (fun hHeld => ?_)
      clear hK K
      refine norm_ (a' := ?_) ?_ ?_
      rotate_left
      ·
       show Act.put _ (some 39) _ = _
       simp only [Act.put, List.setIfInBounds_toArray, List.set_cons_zero, List.set_cons_succ, i64_w, i32_w]
       rfl
      refine pu_ 7 (some 40) (bm_ 17 255) rfl HT_ ⟨by rfl, by intro w'; go_simp; with_reducible rfl⟩ ?_
      refine pu_ 8 (some 41) (bm_ 17 511) rfl HT_ ⟨by rfl, by intro w'; go_simp; with_reducible rfl⟩ ?_
      refine pu_ 9 (some 42) (bm_ 17 1023) rfl HT_ ⟨by rfl, by intro w'; go_simp; with_reducible rfl⟩ ?_
      refine ta_ 10 (some 43) (bm_ 17 2047) rfl HT_ HW_ ⟨by rfl, by rintro w' ⟨s0, s1, s2, s3, s4, s5, s6⟩; go_simp; with_reducible rfl⟩ hHeld ?_
      refine ta_ 11 (some 44) (bm_ 17 4095) rfl HT_ HW_ ⟨by rfl, by rintro w' ⟨s0, s1, s2, s3, s4, s5, s6⟩; go_simp; with_reducible rfl⟩ hHeld ?_
      refine one_ (i := 12) (N := some 45) (bm_ 17 8191) rfl rfl (one_of HT_.out (by kernel_rfl)) (by decide) (fun K hK => ?_)
      refine gr_ Tryz.func38 #[.agg #[.bool a0_0, .int .u64 a0_1, .int .u64 a0_2, .int .i64 a0_3]] ?_
      with_reducible refine (prefix_Last.calls a0_0 a0_1 a0_2 a0_3 t342 t343 t344 _ A31.out).mono ?_
      rintro e w37 ⟨rfl, hb⟩
      refine ⟨_, rfl, ?_⟩
      replace BK322 := bb_ BK322 hb
      replace BK323 := bb_ BK323 hb
      replace BK334 := bb_ BK334 hb
      replace BK335 := bb_ BK335 hb
      replace HB := bs_ HB hb
      (try clear hb)
      (try clear hb2)
      (try clear hk)
      (try clear hi)
      refine hK.out _ _ ⟨kc_ BK323 0, kc_ BK323 1, kc_ BK323 2, kc_ BK322 0, kc_ BK322 1, kc_ BK322 2, kc_ BK322 3⟩ (fun hHeld => ?_)
      clear hK K
      refine norm_ (a' := ?_) ?_ ?_
      rotate_left
      ·
       show Act.put _ (some 45) _ = _
       simp only [Act.put, List.setIfInBounds_toArray, List.set_cons_zero, List.set_cons_succ, i64_w, i32_w]
       rfl
      refine one_ (i := 13) (N := some 46) (bm_ 17 16383) rfl rfl (one_of HT_.out (by kernel_rfl)) (by decide) (fun K hK => ?_)
      refine gr_ Tryz.func20 #[.agg #[.bool a1_0, .int .u64 a1_1, .int .u64 a1_2], .agg #[.bool t342, .int .u64 t343, .int .u64 t344]] ?_
      with_reducible refine (addr_Cmp.calls a1_0 a1_1 a1_2 t342 t343 t344 t345 _ A32.out).mono ?_
      rintro e w38 ⟨rfl, hb⟩
      refine ⟨_, rfl, ?_⟩
      replace BK322 := bb_ BK322 hb
      replace BK323 := bb_ BK323 hb
      replace BK334 := bb_ BK334 hb
      replace BK335 := bb_ BK335 hb
      replace HB := bs_ HB hb
      (try clear hb)
      (try clear hb2)
      (try clear hk)
      (try clear hi)
      refine hK.out _ _ ⟨kc_ BK323 0, kc_ BK323 1, kc_ BK323 2, kc_ BK322 0, kc_ BK322 1, kc_ BK322 2, kc_ BK322 3⟩ (fun hHeld => ?_)
      clear hK K
      refine norm_ (a' := ?_) ?_ ?_
      rotate_left
      ·
       show Act.put _ (some 46) _ = _
       simp only [Act.put, List.setIfInBounds_toArray, List.set_cons_zero, List.set_cons_succ, i64_w, i32_w]
       rfl
      refine pu_ 14 (some 47) (bm_ 17 32767) rfl HT_ ⟨by rfl, by intro w'; go_simp; with_reducible rfl⟩ ?_
      refine pu_ 15 (some 48) (bm_ 17 65535) rfl HT_ ⟨by rfl, by intro w'; go_simp; with_reducible rfl⟩ ?_
      refine pu_ 16 (some 8) (bm_ 17 131071) rfl HT_ ⟨by rfl, by intro w'; go_simp; with_reducible rfl⟩ ?_
      refine done_ (done_of HT_.out (by kernel_rfl)) ?_
      try go_wp2
      go_meet
      case rel => exact ⟨_, (decide (t345 ≤ 0)), (by first | rfl | (simp; done) | (simp [*]; done)), H', ⟨by first | omega | exact Nat.le_refl _⟩, ⟨by refine pw_ ?_; exact BK322.out⟩, ⟨by refine pw_ ?_; exact BK323.out⟩, ⟨by refine pw_ ?_; exact BK334.out⟩, ⟨by refine pw_ ?_; exact BK335.out⟩, ⟨pb_ HB⟩⟩
     ·
      rw [if_neg c30] at H
      have c30b0 : decide (t341 ≤ 0) = false := decide_eq_false c30
      clear c30
      (first | rw [c30b0] | (simp only [i64_w, i32_w]; rw [c30b0]) | skip)
      have H' := Aside0.mk H
      clear H
      try go_wp2
      replace BK322 := Aside0.mk (blk_drew BK322.out)
      replace BK323 := Aside0.mk (blk_drew BK323.out)
      replace BK334 := Aside0.mk (blk_drew BK334.out)
      replace BK335 := Aside0.mk (blk_drew BK335.out)
      replace HB := Aside0.mk (below_drew1 HB.out)
      refine start_ (n := 17) (S := fun w' => w'.cell? ⟨gb323, 0, none⟩ = some (.bool a1_0) ∧ w'.cell? ⟨gb323, 1, none⟩ = some (.int .u64 a1_1) ∧ w'.cell? ⟨gb323, 2, none⟩ = some (.int .u64 a1_2) ∧ w'.cell? ⟨gb322, 0, none⟩ = some (.bool a0_0) ∧ w'.cell? ⟨gb322, 1, none⟩ = some (.int .u64 a0_1) ∧ w'.cell? ⟨gb322, 2, none⟩ = some (.int .u64 a0_2) ∧ w'.cell? ⟨gb322, 3, none⟩ = some (.int .i64 a0_3)) (ds := []) (bm_ 17 0) (by kernel_rfl) rfl rfl ⟨kc_ BK323 0, kc_ BK323 1, kc_ BK323 2, kc_ BK322 0, kc_ BK322 1, kc_ BK322 2, kc_ BK322 3⟩ (fun hHeld => ?_); refine with_tabW platbooklaw03_PrefixHalves.tab6 platbooklaw03_PrefixHalves.bits6 (fun HT_ HW_ => ?_)
      generalize w25.drew = w39 at BK322 BK323 BK334 BK335 HB hHeld ⊢
      refine ta_ 0 (some 33) (bm_ 17 1) rfl HT_ HW_ ⟨by rfl, by rintro w' ⟨s0, s1, s2, s3, s4, s5, s6⟩; go_simp; with_reducible rfl⟩ hHeld ?_
      refine one_ (i := 1) (N := some 34) (bm_ 17 3) rfl rfl (one_of HT_.out (by kernel_rfl)) (by decide) (fun K hK => ?_)
      refine gr_ Tryz.func18 #[.agg #[.bool a1_0, .int .u64 a1_1, .int .u64 a1_2]] ?_
      with_reducible refine (addr_Right.calls a1_0 a1_1 a1_2 true _ A26.out).mono ?_
      rintro e w40 ⟨rfl, hb⟩
      refine ⟨_, rfl, ?_⟩
      replace BK322 := bb_ BK322 hb
      replace BK323 := bb_ BK323 hb
      replace BK334 := bb_ BK334 hb
      replace BK335 := bb_ BK335 hb
      replace HB := bs_ HB hb
      (try clear hb)
      (try clear hb2)
      (try clear hk)
      (try clear hi)
      refine hK.out _ _ ⟨kc_ BK323 0, kc_ BK323 1, kc_ BK323 2, kc_ BK322 0, kc_ BK322 1, kc_ BK322 2, kc_ BK322 3⟩ (fun hHeld => ?_)
      clear hK K
      refine norm_ (a' := ?_) ?_ ?_
      rotate_left
      ·
       show Act.put _ (some 34) _ = _
       simp only [Act.put, List.setIfInBounds_toArray, List.set_cons_zero, List.set_cons_succ, i64_w, i32_w]
       rfl
      refine pu_ 2 (some 35) (bm_ 17 7) rfl HT_ ⟨by rfl, by intro w'; go_simp; with_reducible rfl⟩ ?_
      refine ta_ 3 (some 36) (bm_ 17 15) rfl HT_ HW_ ⟨by rfl, by rintro w' ⟨s0, s1, s2, s3, s4, s5, s6⟩; go_simp; with_reducible rfl⟩ hHeld ?_
      refine ta_ 5 (some 38) (bm_ 17 47) rfl HT_ HW_ ⟨by rfl, by rintro w' ⟨s0, s1, s2, s3, s4, s5, s6⟩; go_simp; with_reducible rfl⟩ hHeld ?_
      refine one_ (i := 4) (N := some 37) (bm_ 17 63) rfl rfl (one_of HT_.out (by kernel_rfl)) (by decide) (fun K hK => ?_)
      refine gr_ Tryz.func37 #[.agg #[.bool a0_0, .int .u64 a0_1, .int .u64 a0_2, .int .i64 a0_3]] ?_
      with_reducible refine (prefix_First.calls a0_0 a0_1 a0_2 a0_3 t338 t339 t340 _ A28.out).mono ?_
      rintro e w41 ⟨rfl, hb⟩
      refine ⟨_, rfl, ?_⟩
      replace BK322 := bb_ BK322 hb
      replace BK323 := bb_ BK323 hb
      replace BK334 := bb_ BK334 hb
      replace BK335 := bb_ BK335 hb
      replace HB := bs_ HB hb
      (try clear hb)
      (try clear hb2)
      (try clear hk)
      (try clear hi)
      refine hK.out _ _ ⟨kc_ BK323 0, kc_ BK323 1, kc_ BK323 2, kc_ BK322 0, kc_ BK322 1, kc_ BK322 2, kc_ BK322 3⟩ (fun hHeld => ?_)
      clear hK K
      refine norm_ (a' := ?_) ?_ ?_
      rotate_left
      ·
       show Act.put _ (some 37) _ = _
       simp only [Act.put, List.setIfInBounds_toArray, List.set_cons_zero, List.set_cons_succ, i64_w, i32_w]
       rfl
      refine one_ (i := 6) (N := some 39) (bm_ 17 127) rfl rfl (one_of HT_.out (by kernel_rfl)) (by decide) (fun K hK => ?_)
      refine gr_ Tryz.func20 #[.agg #[.bool t338, .int .u64 t339, .int .u64 t340], .agg #[.bool a1_0, .int .u64 a1_1, .int .u64 a1_2]] ?_
      with_reducible refine (addr_Cmp.calls t338 t339 t340 a1_0 a1_1 a1_2 t341 _ A29.out).mono ?_
      rintro e w42 ⟨rfl, hb⟩
      refine ⟨_, rfl, ?_⟩
      replace BK322 := bb_ BK322 hb
      replace BK323 := bb_ BK323 hb
      replace BK334 := bb_ BK334 hb
      replace BK335 := bb_ BK335 hb
      replace HB := bs_ HB hb
      (try clear hb)
      (try clear hb2)
      (try clear hk)
      (try clear hi)
      refine hK.out _ _ ⟨kc_ BK323 0, kc_ BK323 1, kc_ BK323 2, kc_ BK322 0, kc_ BK322 1, kc_ BK322 2, kc_ BK322 3⟩ (fun hHeld => ?_)
      clear hK K
      refine norm_ (a' := ?_) ?_ ?_
      rotate_left
      ·
       show Act.put _ (some 39) _ = _
       simp only [Act.put, List.setIfInBounds_toArray, List.set_cons_zero, List.set_cons_succ, i64_w, i32_w]
       rfl
      refine pu_ 7 (some 40) (bm_ 17 255) rfl HT_ ⟨by rfl, by intro w'; go_simp; with_reducible rfl⟩ ?_
      refine pu_ 8 (some 41) (bm_ 17 511) rfl HT_ ⟨by rfl, by intro w'; go_simp; with_reducible rfl⟩ ?_
      refine pu_ 9 (some 42) (bm_ 17 1023) rfl HT_ ⟨by rfl, by intro w'; go_simp; with_reducible rfl⟩ ?_
      refine pure_ (i := 10) (N := some 43) (v := undef) (a' := ?_) (bm_ 17 2047) rfl rfl (any_of HT_.out (by kernel_rfl)) (fun _ _ _ h => h) (Or.inr ⟨by rfl, rfl⟩) ?_ ?_
      rotate_left
      ·
       simp only [Act.put, List.setIfInBounds_toArray, List.set_cons_zero, List.set_cons_succ, i64_w, i32_w]
       rfl
      refine pure_ (i := 11) (N := some 44) (v := undef) (a' := ?_) (bm_ 17 4095) rfl rfl (any_of HT_.out (by kernel_rfl)) (fun _ _ _ h => h) (Or.inr ⟨by rfl, rfl⟩) ?_ ?_
      rotate_left
      ·
       simp only [Act.put, List.setIfInBounds_toArray, List.set_cons_zero, List.set_cons_succ, i64_w, i32_w]
       rfl
      refine pure_ (i := 12) (N := some 45) (v := undef) (a' := ?_) (bm_ 17 8191) rfl rfl (any_of HT_.out (by kernel_rfl)) (fun _ _ _ h => h) (Or.inr ⟨by rfl, rfl⟩) ?_ ?_
      rotate_left
      ·
       simp only [Act.put, List.setIfInBounds_toArray, List.set_cons_zero, List.set_cons_succ, i64_w, i32_w]
       rfl
      refine pure_ (i := 13) (N := some 46) (v := undef) (a' := ?_) (bm_ 17 16383) rfl rfl (any_of HT_.out (by kernel_rfl)) (fun _ _ _ h => h) (Or.inr ⟨by rfl, rfl⟩) ?_ ?_
      rotate_left
      ·
       simp only [Act.put, List.setIfInBounds_toArray, List.set_cons_zero, List.set_cons_succ, i64_w, i32_w]
       rfl
      refine pure_ (i := 14) (N := some 47) (v := undef) (a' := ?_) (bm_ 17 32767) rfl rfl (any_of HT_.out (by kernel_rfl)) (fun _ _ _ h => h) (Or.inr ⟨by rfl, rfl⟩) ?_ ?_
      rotate_left
      ·
       simp only [Act.put, List.setIfInBounds_toArray, List.set_cons_zero, List.set_cons_succ, i64_w, i32_w]
       rfl
      refine pu_ 15 (some 48) (bm_ 17 65535) rfl HT_ ⟨by rfl, by intro w'; go_simp; with_reducible rfl⟩ ?_
      refine pu_ 16 (some 8) (bm_ 17 131071) rfl HT_ ⟨by rfl, by intro w'; go_simp; with_reducible rfl⟩ ?_
      refine done_ (done_of HT_.out (by kernel_rfl)) ?_
      try go_wp2
      go_meet
      case rel => exact ⟨_, (false), (by first | rfl | (simp; done) | (simp [*]; done)), H', ⟨by first | omega | exact Nat.le_refl _⟩, ⟨by refine pw_ ?_; exact BK322.out⟩, ⟨by refine pw_ ?_; exact BK323.out⟩, ⟨by refine pw_ ?_; exact BK334.out⟩, ⟨by refine pw_ ?_; exact BK335.out⟩, ⟨pb_ HB⟩⟩
    ·
     replace c27 := Bool.eq_false_iff.mpr c27
     subst c27
     have H1 : (platbooklaw03_PrefixHalves.j0 k t333 false a0_0 a0_1 a0_2 a0_3 a1_0 a1_1 a1_2 t325 t326 t327 t328 t329 t330 t331 t332) = some r := by rw [if_neg (show ¬ (false = true) by decide)] at H; exact H
     clear H
     have H := H1
     clear H1
     have H' := Aside0.mk H
     clear H
     try go_wp2
     replace BK322 := Aside0.mk (blk_drew BK322.out)
     replace BK323 := Aside0.mk (blk_drew BK323.out)
     replace BK334 := Aside0.mk (blk_drew BK334.out)
     replace BK335 := Aside0.mk (blk_drew BK335.out)
     replace HB := Aside0.mk (below_drew1 HB.out)
     refine start_ (n := 17) (S := fun w' => w'.cell? ⟨gb323, 0, none⟩ = some (.bool a1_0) ∧ w'.cell? ⟨gb323, 1, none⟩ = some (.int .u64 a1_1) ∧ w'.cell? ⟨gb323, 2, none⟩ = some (.int .u64 a1_2)) (ds := []) (bm_ 17 0) (by kernel_rfl) rfl rfl ⟨kc_ BK323 0, kc_ BK323 1, kc_ BK323 2⟩ (fun hHeld => ?_); refine with_tabW platbooklaw03_PrefixHalves.tab6 platbooklaw03_PrefixHalves.bits6 (fun HT_ HW_ => ?_)
     generalize w25.drew = w43 at BK322 BK323 BK334 BK335 HB hHeld ⊢
     refine ta_ 0 (some 33) (bm_ 17 1) rfl HT_ HW_ ⟨by rfl, by rintro w' ⟨s0, s1, s2⟩; go_simp; with_reducible rfl⟩ hHeld ?_
     refine one_ (i := 1) (N := some 34) (bm_ 17 3) rfl rfl (one_of HT_.out (by kernel_rfl)) (by decide) (fun K hK => ?_)
     refine gr_ Tryz.func18 #[.agg #[.bool a1_0, .int .u64 a1_1, .int .u64 a1_2]] ?_
     with_reducible refine (addr_Right.calls a1_0 a1_1 a1_2 false _ A26.out).mono ?_
     rintro e w44 ⟨rfl, hb⟩
     refine ⟨_, rfl, ?_⟩
     replace BK322 := bb_ BK322 hb
     replace BK323 := bb_ BK323 hb
     replace BK334 := bb_ BK334 hb
     replace BK335 := bb_ BK335 hb
     replace HB := bs_ HB hb
     (try clear hb)
     (try clear hb2)
     (try clear hk)
     (try clear hi)
     refine hK.out _ _ ⟨kc_ BK323 0, kc_ BK323 1, kc_ BK323 2⟩ (fun hHeld => ?_)
     clear hK K
     refine norm_ (a' := ?_) ?_ ?_
     rotate_left
     ·
      show Act.put _ (some 34) _ = _
      simp only [Act.put, List.setIfInBounds_toArray, List.set_cons_zero, List.set_cons_succ, i64_w, i32_w]
      rfl
     refine pu_ 2 (some 35) (bm_ 17 7) rfl HT_ ⟨by rfl, by intro w'; go_simp; with_reducible rfl⟩ ?_
     refine pure_ (i := 3) (N := some 36) (v := undef) (a' := ?_) (bm_ 17 15) rfl rfl (any_of HT_.out (by kernel_rfl)) (fun _ _ _ h => h) (Or.inr ⟨by rfl, rfl⟩) ?_ ?_
     rotate_left
     ·
      simp only [Act.put, List.setIfInBounds_toArray, List.set_cons_zero, List.set_cons_succ, i64_w, i32_w]
      rfl
     refine pure_ (i := 4) (N := some 37) (v := undef) (a' := ?_) (bm_ 17 31) rfl rfl (any_of HT_.out (by kernel_rfl)) (fun _ _ _ h => h) (Or.inr ⟨by rfl, rfl⟩) ?_ ?_
     rotate_left
     ·
      simp only [Act.put, List.setIfInBounds_toArray, List.set_cons_zero, List.set_cons_succ, i64_w, i32_w]
      rfl
     refine pure_ (i := 5) (N := some 38) (v := undef) (a' := ?_) (bm_ 17 63) rfl rfl (any_of HT_.out (by kernel_rfl)) (fun _ _ _ h => h) (Or.inr ⟨by rfl, rfl⟩) ?_ ?_
     rotate_left
     ·
      simp only [Act.put, List.setIfInBounds_toArray, List.set_cons_zero, List.set_cons_succ, i64_w, i32_w]
      rfl
     refine pure_ (i := 6) (N := some 39) (v := undef) (a' := ?_) (bm_ 17 127) rfl rfl (any_of HT_.out (by kernel_rfl)) (fun _ _ _ h => h) (Or.inr ⟨by rfl, rfl⟩) ?_ ?_
     rotate_left
     ·
      simp only [Act.put, List.setIfInBounds_toArray, List.set_cons_zero, List.set_cons_succ, i64_w, i32_w]
      rfl
     refine pure_ (i := 7) (N := some 40) (v := undef) (a' := ?_) (bm_ 17 255) rfl rfl (any_of HT_.out (by kernel_rfl)) (fun _ _ _ h => h) (Or.inr ⟨by rfl, rfl⟩) ?_ ?_
     rotate_left
     ·
      simp only [Act.put, List.setIfInBounds_toArray, List.set_cons_zero, List.set_cons_succ, i64_w, i32_w]
      rfl
     refine pu_ 8 (some 41) (bm_ 17 511) rfl HT_ ⟨by rfl, by intro w'; go_simp; with_reducible rfl⟩ ?_
     refine pu_ 9 (some 42) (bm_ 17 1023) rfl HT_ ⟨by rfl, by intro w'; go_simp; with_reducible rfl⟩ ?_
     refine pure_ (i := 10) (N := some 43) (v := undef) (a' := ?_) (bm_ 17 2047) rfl rfl (any_of HT_.out (by kernel_rfl)) (fun _ _ _ h => h) (Or.inr ⟨by rfl, rfl⟩) ?_ ?_
     rotate_left
     ·
      simp only [Act.put, List.setIfInBounds_toArray, List.set_cons_zero, List.set_cons_succ, i64_w, i32_w]
      rfl
     refine pure_ (i := 11) (N := some 44) (v := undef) (a' := ?_) (bm_ 17 4095) rfl rfl (any_of HT_.out (by kernel_rfl)) (fun _ _ _ h => h) (Or.inr ⟨by rfl, rfl⟩) ?_ ?_
     rotate_left
     ·
      simp only [Act.put, List.setIfInBounds_toArray, List.set_cons_zero, List.set_cons_succ, i64_w, i32_w]
      rfl
     refine pure_ (i := 12) (N := some 45) (v := undef) (a' := ?_) (bm_ 17 8191) rfl rfl (any_of HT_.out (by kernel_rfl)) (fun _ _ _ h => h) (Or.inr ⟨by rfl, rfl⟩) ?_ ?_
     rotate_left
     ·
      simp only [Act.put, List.setIfInBounds_toArray, List.set_cons_zero, List.set_cons_succ, i64_w, i32_w]
      rfl
     refine pure_ (i := 13) (N := some 46) (v := undef) (a' := ?_) (bm_ 17 16383) rfl rfl (any_of HT_.out (by kernel_rfl)) (fun _ _ _ h => h) (Or.inr ⟨by rfl, rfl⟩) ?_ ?_
     rotate_left
     ·
      simp only [Act.put, List.setIfInBounds_toArray, List.set_cons_zero, List.set_cons_succ, i64_w, i32_w]
      rfl
     refine pure_ (i := 14) (N := some 47) (v := undef) (a' := ?_) (bm_ 17 32767) rfl rfl (any_of HT_.out (by kernel_rfl)) (fun _ _ _ h => h) (Or.inr ⟨by rfl, rfl⟩) ?_ ?_
     rotate_left
     ·
      simp only [Act.put, List.setIfInBounds_toArray, List.set_cons_zero, List.set_cons_succ, i64_w, i32_w]
      rfl
     refine pu_ 15 (some 48) (bm_ 17 65535) rfl HT_ ⟨by rfl, by intro w'; go_simp; with_reducible rfl⟩ ?_
     refine pu_ 16 (some 8) (bm_ 17 131071) rfl HT_ ⟨by rfl, by intro w'; go_simp; with_reducible rfl⟩ ?_
     refine done_ (done_of HT_.out (by kernel_rfl)) ?_
     try go_wp2
     go_meet
     case rel => exact ⟨_, (false), (by first | rfl | (simp; done) | (simp [*]; done)), H', ⟨by first | omega | exact Nat.le_refl _⟩, ⟨by refine pw_ ?_; exact BK322.out⟩, ⟨by refine pw_ ?_; exact BK323.out⟩, ⟨by refine pw_ ?_; exact BK334.out⟩, ⟨by refine pw_ ?_; exact BK335.out⟩, ⟨pb_ HB⟩⟩
   case rest =>
    clear HC8
    try clear c1
    try clear c2
    try clear p2
    try clear c3
    try clear c4
    try clear c7
    try clear c12
    try clear c17
    try clear c18
    try clear c19
    try clear c20
    try clear c21
    try clear c22
    try clear c24
    try clear c27
    try clear c29
    try clear c30
    try clear c30b0
    try clear c33
    try clear c37
    try clear c38
    try clear hcz13_0
    try clear hcz13_1
    try clear hcz13_2
    try clear hcz13_3
    try clear hcz20_0
    try clear hcz20_1
    try clear hcz20_2
    try clear hcz20_3
    try clear hcz23_0
    try clear hcz23_1
    try clear hcz23_2
    try clear hcz23_3
    try clear hcz24_0
    try clear hcz24_1
    try clear hcz24_2
    try clear hcz24_3
    try clear hfz13_0
    try clear hfz13_1
    try clear hfz13_2
    try clear hfz13_3
    try clear hfz20_0
    try clear hfz20_1
    try clear hfz20_2
    try clear hfz20_3
    try clear hfz23_0
    try clear hfz23_1
    try clear hfz23_2
    try clear hfz23_3
    try clear hfz24_0
    try clear hfz24_1
    try clear hfz24_2
    try clear hfz24_3
    obtain ⟨kq, x8_7, rfl, HA, HJ7, BK322, BK323, BK334, BK335, HB⟩ := hcut
    cases kq with
    | zero => exact absurd HA.out (by simp [platbooklaw03_PrefixHalves.j0])
    | succ kj7 =>
     have H := HA.out
     clear HA
     simp only [platbooklaw03_PrefixHalves.j0] at H
     replace H := Option.bind_eq_some_iff.mp H
     obtain ⟨t346, A450, H⟩ := H
     replace H : (if (t346 != x8_7) = true then (some false) else ((addr_Width.f a0_0 a0_1 a0_2).bind fun t347 => (if a0_3 = t347 then (if t333 = 11 then (if ((!t325 && ((t326 == 0 && (t327 == 0)))) && (t328 == 0)) = true then (some ((!t329 && ((t330 == 0 && (t331 == 0)))) && (t332 == 0))) else (some false)) else (some false)) else ((prefix_Has.f kj7 t325 t326 t327 t328 a1_0 a1_1 a1_2).bind fun t348 => ((prefix_Has.f kj7 t329 t330 t331 t332 a1_0 a1_1 a1_2).bind fun t349 => (if t333 = 0 then ((prefix_Has.f kj7 a0_0 a0_1 a0_2 a0_3 a1_0 a1_1 a1_2).bind fun t350 => (if ((t348 != t349) == t350) = true then ((prefix_First.f t325 t326 t327 t328).bind fun bt351 => ((prefix_First.f a0_0 a0_1 a0_2 a0_3).bind fun bt354 => (if (bt351.1 == bt354.1 && ((bt351.2.1 == bt354.2.1 && (bt351.2.2 == bt354.2.2)))) = true then ((prefix_Last.f t329 t330 t331 t332).bind fun bt357 => ((prefix_Last.f a0_0 a0_1 a0_2 a0_3).bind fun bt360 => (if (bt357.1 == bt360.1 && ((bt357.2.1 == bt360.2.1 && (bt357.2.2 == bt360.2.2)))) = true then ((prefix_Overlap.f kj7 t325 t326 t327 t328 t329 t330 t331 t332).bind fun t363 => (if t363 = true then (some false) else ((prefix_Cmp.f kj7 a0_0 a0_1 a0_2 a0_3 t325 t326 t327 t328).bind fun t364 => (if t364 < 0 then ((prefix_Cmp.f kj7 t325 t326 t327 t328 t329 t330 t331 t332).bind fun t365 => (some (decide (t365 < 0)))) else (some false))))) else (some false)))) else (some false)))) else (some false))) else (some false))))))) = some r := H
     have A45 := Aside0.mk A450
     clear A450
     by_cases c46 : (t346 != x8_7) = true
     ·
      rw [if_pos c46] at H
      have c46b0 : (t346 != x8_7) = true := c46
      (try (have c46b1 : decide (t346 = x8_7) = false := by simpa using c46))
      (try (have c46b2 : (t346 == x8_7) = false := by simpa using c46))
      (try (have c46b3 : ¬ (t346 = x8_7) := by simpa using c46))
      clear c46
      obtain rfl := Option.some.inj H
      exact absurd HRT.out (by decide)
     ·
      rw [if_neg c46] at H
      have c46b0 : (t346 != x8_7) = false := by simpa using c46
      (try (have c46b1 : decide (t346 = x8_7) = true := by simpa using c46))
      (try (have c46b2 : (t346 == x8_7) = true := by simpa using c46))
      clear c46
      replace H := Option.bind_eq_some_iff.mp H
      obtain ⟨t347, A470, H⟩ := H
      replace H : (if a0_3 = t347 then (if t333 = 11 then (if ((!t325 && ((t326 == 0 && (t327 == 0)))) && (t328 == 0)) = true then (some ((!t329 && ((t330 == 0 && (t331 == 0)))) && (t332 == 0))) else (some false)) else (some false)) else ((prefix_Has.f kj7 t325 t326 t327 t328 a1_0 a1_1 a1_2).bind fun t348 => ((prefix_Has.f kj7 t329 t330 t331 t332 a1_0 a1_1 a1_2).bind fun t349 => (if t333 = 0 then ((prefix_Has.f kj7 a0_0 a0_1 a0_2 a0_3 a1_0 a1_1 a1_2).bind fun t350 => (if ((t348 != t349) == t350) = true then ((prefix_First.f t325 t326 t327 t328).bind fun bt351 => ((prefix_First.f a0_0 a0_1 a0_2 a0_3).bind fun bt354 => (if (bt351.1 == bt354.1 && ((bt351.2.1 == bt354.2.1 && (bt351.2.2 == bt354.2.2)))) = true then ((prefix_Last.f t329 t330 t331 t332).bind fun bt357 => ((prefix_Last.f a0_0 a0_1 a0_2 a0_3).bind fun bt360 => (if (bt357.1 == bt360.1 && ((bt357.2.1 == bt360.2.1 && (bt357.2.2 == bt360.2.2)))) = true then ((prefix_Overlap.f kj7 t325 t326 t327 t328 t329 t330 t331 t332).bind fun t363 => (if t363 = true then (some false) else ((prefix_Cmp.f kj7 a0_0 a0_1 a0_2 a0_3 t325 t326 t327 t328).bind fun t364 => (if t364 < 0 then ((prefix_Cmp.f kj7 t325 t326 t327 t328 t329 t330 t331 t332).bind fun t365 => (some (decide (t365 < 0)))) else (some false))))) else (some false)))) else (some false)))) else (some false))) else (some false))))) = some r := H
      have A47 := Aside0.mk A470
      clear A470
      by_cases c48 : a0_3 = t347
      ·
       rw [if_pos c48] at H
       have c48b0 : (a0_3 == t347) = true := beq_iff_eq.mpr c48
       have c48b1 : (a0_3 != t347) = false := bne_eq_false_iff_eq.mpr c48
       clear c48
       by_cases c49 : t333 = 11
       ·
        rw [if_pos c49] at H
        have c49b0 : (t333 == 11) = true := beq_iff_eq.mpr c49
        have c49b1 : (t333 != 11) = false := bne_eq_false_iff_eq.mpr c49
        clear c49
        by_cases c50 : ((!t325 && ((t326 == 0 && (t327 == 0)))) && (t328 == 0)) = true
        ·
         rw [if_pos c50] at H
         have c50b0 : ((!t325 && ((t326 == 0 && (t327 == 0)))) && (t328 == 0)) = true := c50
         clear c50
         obtain rfl := Option.some.inj H
         have hnb51 := NB322_323.out
         have hnc51 := NB323_322.out
         have hnb52 := NB322_334.out
         have hnc52 := NB334_322.out
         have hnb53 := NB322_335.out
         have hnc53 := NB335_322.out
         obtain ⟨hcz54_0, hcz54_1, hcz54_2, hcz54_3, hfz54_0, hfz54_1, hfz54_2, hfz54_3⟩ := c4_ BK322
         have hnb55 := NB323_334.out
         have hnc55 := NB334_323.out
         have hnb56 := NB323_335.out
         have hnc56 := NB335_323.out
         obtain ⟨hcz57_0, hcz57_1, hcz57_2, hfz57_0, hfz57_1, hfz57_2⟩ := c3_ BK323
         try go_wp2_with (first | ((with_reducible refine gate_callee (f := 40) rfl ?_); refine gl_ (some 51) Tryz.func40 #[.agg #[.bool a0_0, .int .u64 a0_1, .int .u64 a0_2, .int .i64 a0_3], .agg #[.bool a1_0, .int .u64 a1_1, .int .u64 a1_2]] ?_; (with_reducible refine (prefix_Has.calls kj7 a0_0 a0_1 a0_2 a0_3 a1_0 a1_1 a1_2 t346 _ A45.out).mono ?_); rintro e w58 ⟨rfl, hb⟩; refine ⟨_, rfl, ?_⟩; replace BK322 := bb_ BK322 hb; replace BK323 := bb_ BK323 hb; replace BK334 := bb_ BK334 hb; replace BK335 := bb_ BK335 hb; replace HB := bs_ HB hb; (try clear hb); (try clear hb2); (try clear hk); (try clear hi)))
         replace BK322 := Aside0.mk (blk_drew BK322.out)
         replace BK323 := Aside0.mk (blk_drew BK323.out)
         replace BK334 := Aside0.mk (blk_drew BK334.out)
         replace BK335 := Aside0.mk (blk_drew BK335.out)
         replace HB := Aside0.mk (below_drew1 HB.out)
         refine start_ (n := 6) (S := fun w' => w'.cell? ⟨gb322, 0, none⟩ = some (.bool a0_0) ∧ w'.cell? ⟨gb322, 1, none⟩ = some (.int .u64 a0_1) ∧ w'.cell? ⟨gb322, 2, none⟩ = some (.int .u64 a0_2) ∧ w'.cell? ⟨gb322, 3, none⟩ = some (.int .i64 a0_3)) (ds := []) (bm_ 6 0) (by kernel_rfl) rfl rfl ⟨kc_ BK322 0, kc_ BK322 1, kc_ BK322 2, kc_ BK322 3⟩ (fun hHeld => ?_)
         generalize w58.drew = w59 at BK322 BK323 BK334 BK335 HB hHeld ⊢
         refine pure_ (i := 0) (N := some 54) (v := ?_) (a' := ?_) (bm_ 6 1) rfl rfl (by kernel_rfl) (fun _ _ _ h => h) (Or.inl ⟨by rfl, ?_⟩) ?_ ?_
         rotate_left
         ·
          intro w'
          go_simp
          with_reducible rfl
         rotate_left
         ·
          simp only [Act.put, List.setIfInBounds_toArray, List.set_cons_zero, List.set_cons_succ, i64_w, i32_w]
          rfl
         refine pure_ (i := 2) (N := some 56) (v := ?_) (a' := ?_) (bm_ 6 5) rfl rfl (by kernel_rfl) (fun _ _ _ h => h) (Or.inl ⟨by rfl, ?_⟩) ?_ ?_
         rotate_left
         ·
          intro w'
          go_simp
          with_reducible rfl
         rotate_left
         ·
          simp only [Act.put, List.setIfInBounds_toArray, List.set_cons_zero, List.set_cons_succ, i64_w, i32_w]
          rfl
         refine take_ (i := 1) (N := some 55) (v := ?_) (a' := ?_) (bm_ 6 7) rfl rfl (by kernel_rfl) (fun _ _ _ h => h) (Or.inl ⟨by rfl, ?_⟩) hHeld ?_ ?_
         rotate_left
         ·
          rintro w' ⟨s0, s1, s2, s3⟩
          go_simp
          with_reducible rfl
         rotate_left
         ·
          simp only [Act.put, List.setIfInBounds_toArray, List.set_cons_zero, List.set_cons_succ, i64_w, i32_w]
          rfl
         refine take_ (i := 3) (N := some 57) (v := ?_) (a' := ?_) (bm_ 6 15) rfl rfl (by kernel_rfl) (fun _ _ _ h => h) (Or.inl ⟨by rfl, ?_⟩) hHeld ?_ ?_
         rotate_left
         ·
          rintro w' ⟨s0, s1, s2, s3⟩
          go_simp
          with_reducible rfl
         rotate_left
         ·
          simp only [Act.put, List.setIfInBounds_toArray, List.set_cons_zero, List.set_cons_succ, i64_w, i32_w]
          rfl
         refine one_ (i := 4) (N := some 58) (bm_ 6 31) rfl rfl (by kernel_rfl) (by decide) (fun K hK => ?_)
         refine gr_ Tryz.func22 #[.agg #[.bool a0_0, .int .u64 a0_1, .int .u64 a0_2]] ?_
         with_reducible refine (addr_Width.calls a0_0 a0_1 a0_2 t347 _ A47.out).mono ?_
         rintro e w60 ⟨rfl, hb⟩
         refine ⟨_, rfl, ?_⟩
         replace BK322 := bb_ BK322 hb
         replace BK323 := bb_ BK323 hb
         replace BK334 := bb_ BK334 hb
         replace BK335 := bb_ BK335 hb
         replace HB := bs_ HB hb
         (try clear hb)
         (try clear hb2)
         (try clear hk)
         (try clear hi)
         refine hK.out _ _ ⟨kc_ BK322 0, kc_ BK322 1, kc_ BK322 2, kc_ BK322 3⟩ (fun hHeld => ?_)
         clear hK K
         refine norm_ (a' := ?_) ?_ ?_
         rotate_left
         ·
          show Act.put _ (some 58) _ = _
          simp only [Act.put, List.setIfInBounds_toArray, List.set_cons_zero, List.set_cons_succ, i64_w, i32_w]
          rfl
         refine pure_ (i := 5) (N := some 59) (v := ?_) (a' := ?_) (bm_ 6 63) rfl rfl (by kernel_rfl) (fun _ _ _ h => h) (Or.inl ⟨by rfl, ?_⟩) ?_ ?_
         rotate_left
         ·
          intro w'
          go_simp
          with_reducible rfl
         rotate_left
         ·
          simp only [Act.put, List.setIfInBounds_toArray, List.set_cons_zero, List.set_cons_succ, i64_w, i32_w]
          rfl
         refine done_ (by kernel_rfl) ?_
         have hnb61 := NB334_335.out
         have hnc61 := NB335_334.out
         obtain ⟨hcz62_0, hcz62_1, hcz62_2, hcz62_3, hfz62_0, hfz62_1, hfz62_2, hfz62_3⟩ := c4_ BK334
         obtain ⟨hcz63_0, hcz63_1, hcz63_2, hcz63_3, hfz63_0, hfz63_1, hfz63_2, hfz63_3⟩ := c4_ BK335
         try go_wp2
         go_ret
         exact ⟨by first | rfl | (simp [errW_none, errW_some] <;> rfl) | (simp [*, errW_none, errW_some] <;> rfl), pb_ HB⟩
        ·
         rw [if_neg c50] at H
         have c50b0 : ((!t325 && ((t326 == 0 && (t327 == 0)))) && (t328 == 0)) = false := by simpa using c50
         clear c50
         obtain rfl := Option.some.inj H
         exact absurd HRT.out (by decide)
       ·
        rw [if_neg c49] at H
        have c49b0 : (t333 == 11) = false := beq_eq_false_iff_ne.mpr c49
        have c49b1 : (t333 != 11) = true := bne_iff_ne.mpr c49
        obtain rfl := Option.some.inj H
        exact absurd HRT.out (by decide)
      ·
       rw [if_neg c48] at H
       have c48b0 : (a0_3 == t347) = false := beq_eq_false_iff_ne.mpr c48
       have c48b1 : (a0_3 != t347) = true := bne_iff_ne.mpr c48
       replace H := Option.bind_eq_some_iff.mp H
       obtain ⟨t348, A640, H⟩ := H
       replace H : ((prefix_Has.f kj7 t329 t330 t331 t332 a1_0 a1_1 a1_2).bind fun t349 => (if t333 = 0 then ((prefix_Has.f kj7 a0_0 a0_1 a0_2 a0_3 a1_0 a1_1 a1_2).bind fun t350 => (if ((t348 != t349) == t350) = true then ((prefix_First.f t325 t326 t327 t328).bind fun bt351 => ((prefix_First.f a0_0 a0_1 a0_2 a0_3).bind fun bt354 => (if (bt351.1 == bt354.1 && ((bt351.2.1 == bt354.2.1 && (bt351.2.2 == bt354.2.2)))) = true then ((prefix_Last.f t329 t330 t331 t332).bind fun bt357 => ((prefix_Last.f a0_0 a0_1 a0_2 a0_3).bind fun bt360 => (if (bt357.1 == bt360.1 && ((bt357.2.1 == bt360.2.1 && (bt357.2.2 == bt360.2.2)))) = true then ((prefix_Overlap.f kj7 t325 t326 t327 t328 t329 t330 t331 t332).bind fun t363 => (if t363 = true then (some false) else ((prefix_Cmp.f kj7 a0_0 a0_1 a0_2 a0_3 t325 t326 t327 t328).bind fun t364 => (if t364 < 0 then ((prefix_Cmp.f kj7 t325 t326 t327 t328 t329 t330 t331 t332).bind fun t365 => (some (decide (t365 < 0)))) else (some false))))) else (some false)))) else (some false)))) else (some false))) else (some false))) = some r := H
       have A64 := Aside0.mk A640
       clear A640
       replace H := Option.bind_eq_some_iff.mp H
       obtain ⟨t349, A650, H⟩ := H
       replace H : (if t333 = 0 then ((prefix_Has.f kj7 a0_0 a0_1 a0_2 a0_3 a1_0 a1_1 a1_2).bind fun t350 => (if ((t348 != t349) == t350) = true then ((prefix_First.f t325 t326 t327 t328).bind fun bt351 => ((prefix_First.f a0_0 a0_1 a0_2 a0_3).bind fun bt354 => (if (bt351.1 == bt354.1 && ((bt351.2.1 == bt354.2.1 && (bt351.2.2 == bt354.2.2)))) = true then ((prefix_Last.f t329 t330 t331 t332).bind fun bt357 => ((prefix_Last.f a0_0 a0_1 a0_2 a0_3).bind fun bt360 => (if (bt357.1 == bt360.1 && ((bt357.2.1 == bt360.2.1 && (bt357.2.2 == bt360.2.2)))) = true then ((prefix_Overlap.f kj7 t325 t326 t327 t328 t329 t330 t331 t332).bind fun t363 => (if t363 = true then (some false) else ((prefix_Cmp.f kj7 a0_0 a0_1 a0_2 a0_3 t325 t326 t327 t328).bind fun t364 => (if t364 < 0 then ((prefix_Cmp.f kj7 t325 t326 t327 t328 t329 t330 t331 t332).bind fun t365 => (some (decide (t365 < 0)))) else (some false))))) else (some false)))) else (some false)))) else (some false))) else (some false)) = some r := H
       have A65 := Aside0.mk A650
       clear A650
       by_cases c66 : t333 = 0
       ·
        rw [if_pos c66] at H
        have c66b0 : (t333 == 0) = true := beq_iff_eq.mpr c66
        have c66b1 : (t333 != 0) = false := bne_eq_false_iff_eq.mpr c66
        clear c66
        replace H := Option.bind_eq_some_iff.mp H
        obtain ⟨t350, A670, H⟩ := H
        replace H : (if ((t348 != t349) == t350) = true then ((prefix_First.f t325 t326 t327 t328).bind fun bt351 => ((prefix_First.f a0_0 a0_1 a0_2 a0_3).bind fun bt354 => (if (bt351.1 == bt354.1 && ((bt351.2.1 == bt354.2.1 && (bt351.2.2 == bt354.2.2)))) = true then ((prefix_Last.f t329 t330 t331 t332).bind fun bt357 => ((prefix_Last.f a0_0 a0_1 a0_2 a0_3).bind fun bt360 => (if (bt357.1 == bt360.1 && ((bt357.2.1 == bt360.2.1 && (bt357.2.2 == bt360.2.2)))) = true then ((prefix_Overlap.f kj7 t325 t326 t327 t328 t329 t330 t331 t332).bind fun t363 => (if t363 = true then (some false) else ((prefix_Cmp.f kj7 a0_0 a0_1 a0_2 a0_3 t325 t326 t327 t328).bind fun t364 => (if t364 < 0 then ((prefix_Cmp.f kj7 t325 t326 t327 t328 t329 t330 t331 t332).bind fun t365 => (some (decide (t365 < 0)))) else (some false))))) else (some false)))) else (some false)))) else (some false)) = some r := H
        have A67 := Aside0.mk A670
        clear A670
        by_cases c68 : ((t348 != t349) == t350) = true
        ·
         rw [if_pos c68] at H
         have c68b0 : ((t348 != t349) == t350) = true := c68
         (try (have c68b1 : decide ((t348 != t349) = t350) = true := by simpa using c68))
         (try (have c68b2 : ((t348 != t349) == t350) = true := by simpa using c68))
         (try (have c68b3 : ((!(t348 == t349)) == t350) = true := by simpa [bne] using c68))
         (try (have c68b4 : decide ((!(t348 == t349)) = t350) = true := by simpa [bne] using c68))
         clear c68
         replace H := Option.bind_eq_some_iff.mp H
         obtain ⟨⟨t351, t352, t353⟩, A690, H⟩ := H
         replace H : ((prefix_First.f a0_0 a0_1 a0_2 a0_3).bind fun bt354 => (if (t351 == bt354.1 && ((t352 == bt354.2.1 && (t353 == bt354.2.2)))) = true then ((prefix_Last.f t329 t330 t331 t332).bind fun bt357 => ((prefix_Last.f a0_0 a0_1 a0_2 a0_3).bind fun bt360 => (if (bt357.1 == bt360.1 && ((bt357.2.1 == bt360.2.1 && (bt357.2.2 == bt360.2.2)))) = true then ((prefix_Overlap.f kj7 t325 t326 t327 t328 t329 t330 t331 t332).bind fun t363 => (if t363 = true then (some false) else ((prefix_Cmp.f kj7 a0_0 a0_1 a0_2 a0_3 t325 t326 t327 t328).bind fun t364 => (if t364 < 0 then ((prefix_Cmp.f kj7 t325 t326 t327 t328 t329 t330 t331 t332).bind fun t365 => (some (decide (t365 < 0)))) else (some false))))) else (some false)))) else (some false))) = some r := H
         have A69 := Aside0.mk A690
         clear A690
         replace H := Option.bind_eq_some_iff.mp H
         obtain ⟨⟨t354, t355, t356⟩, A700, H⟩ := H
         replace H : (if (t351 == t354 && ((t352 == t355 && (t353 == t356)))) = true then ((prefix_Last.f t329 t330 t331 t332).bind fun bt357 => ((prefix_Last.f a0_0 a0_1 a0_2 a0_3).bind fun bt360 => (if (bt357.1 == bt360.1 && ((bt357.2.1 == bt360.2.1 && (bt357.2.2 == bt360.2.2)))) = true then ((prefix_Overlap.f kj7 t325 t326 t327 t328 t329 t330 t331 t332).bind fun t363 => (if t363 = true then (some false) else ((prefix_Cmp.f kj7 a0_0 a0_1 a0_2 a0_3 t325 t326 t327 t328).bind fun t364 => (if t364 < 0 then ((prefix_Cmp.f kj7 t325 t326 t327 t328 t329 t330 t331 t332).bind fun t365 => (some (decide (t365 < 0)))) else (some false))))) else (some false)))) else (some false)) = some r := H
         have A70 := Aside0.mk A700
         clear A700
         by_cases c71 : (t351 == t354 && ((t352 == t355 && (t353 == t356)))) = true
         ·
          rw [if_pos c71] at H
          have c71b0 : (t351 == t354 && ((t352 == t355 && (t353 == t356)))) = true := c71
          (try (have c71b1 : decide (t351 = t354 && ((t352 == t355 && (t353 == t356)))) = true := by simpa using c71))
          (try (have c71b2 : (t351 == t354 && ((t352 == t355 && (t353 == t356)))) = true := by simpa using c71))
          clear c71
          replace H := Option.bind_eq_some_iff.mp H
          obtain ⟨⟨t357, t358, t359⟩, A720, H⟩ := H
          replace H : ((prefix_Last.f a0_0 a0_1 a0_2 a0_3).bind fun bt360 => (if (t357 == bt360.1 && ((t358 == bt360.2.1 && (t359 == bt360.2.2)))) = true then ((prefix_Overlap.f kj7 t325 t326 t327 t328 t329 t330 t331 t332).bind fun t363 => (if t363 = true then (some false) else ((prefix_Cmp.f kj7 a0_0 a0_1 a0_2 a0_3 t325 t326 t327 t328).bind fun t364 => (if t364 < 0 then ((prefix_Cmp.f kj7 t325 t326 t327 t328 t329 t330 t331 t332).bind fun t365 => (some (decide (t365 < 0)))) else (some false))))) else (some false))) = some r := H
          have A72 := Aside0.mk A720
          clear A720
          replace H := Option.bind_eq_some_iff.mp H
          obtain ⟨⟨t360, t361, t362⟩, A730, H⟩ := H
          replace H : (if (t357 == t360 && ((t358 == t361 && (t359 == t362)))) = true then ((prefix_Overlap.f kj7 t325 t326 t327 t328 t329 t330 t331 t332).bind fun t363 => (if t363 = true then (some false) else ((prefix_Cmp.f kj7 a0_0 a0_1 a0_2 a0_3 t325 t326 t327 t328).bind fun t364 => (if t364 < 0 then ((prefix_Cmp.f kj7 t325 t326 t327 t328 t329 t330 t331 t332).bind fun t365 => (some (decide (t365 < 0)))) else (some false))))) else (some false)) = some r := H
          have A73 := Aside0.mk A730
          clear A730
          by_cases c74 : (t357 == t360 && ((t358 == t361 && (t359 == t362)))) = true
          ·
           rw [if_pos c74] at H
           have c74b0 : (t357 == t360 && ((t358 == t361 && (t359 == t362)))) = true := c74
           (try (have c74b1 : decide (t357 = t360 && ((t358 == t361 && (t359 == t362)))) = true := by simpa using c74))
           (try (have c74b2 : (t357 == t360 && ((t358 == t361 && (t359 == t362)))) = true := by simpa using c74))
           clear c74
           replace H := Option.bind_eq_some_iff.mp H
           obtain ⟨t363, A750, H⟩ := H
           replace H : (if t363 = true then (some false) else ((prefix_Cmp.f kj7 a0_0 a0_1 a0_2 a0_3 t325 t326 t327 t328).bind fun t364 => (if t364 < 0 then ((prefix_Cmp.f kj7 t325 t326 t327 t328 t329 t330 t331 t332).bind fun t365 => (some (decide (t365 < 0)))) else (some false)))) = some r := H
           have A75 := Aside0.mk A750
           clear A750
           by_cases c76 : t363 = true
           ·
            subst c76
            rw [if_pos rfl] at H
            obtain rfl := Option.some.inj H
            exact absurd HRT.out (by decide)
           ·
            replace c76 := Bool.eq_false_iff.mpr c76
            subst c76
            have H1 : ((prefix_Cmp.f kj7 a0_0 a0_1 a0_2 a0_3 t325 t326 t327 t328).bind fun t364 => (if t364 < 0 then ((prefix_Cmp.f kj7 t325 t326 t327 t328 t329 t330 t331 t332).bind fun t365 => (some (decide (t365 < 0)))) else (some false))) = some r := by rw [if_neg (show ¬ (false = true) by decide)] at H; exact H
            clear H
            have H := H1
            clear H1
            replace H := Option.bind_eq_some_iff.mp H
            obtain ⟨t364, A770, H⟩ := H
            replace H : (if t364 < 0 then ((prefix_Cmp.f kj7 t325 t326 t327 t328 t329 t330 t331 t332).bind fun t365 => (some (decide (t365 < 0)))) else (some false)) = some r := H
            have A77 := Aside0.mk A770
            clear A770
            by_cases c78 : t364 < 0
            ·
             rw [if_pos c78] at H
             have c78b0 : decide (t364 < 0) = true := decide_eq_true c78
             clear c78
             replace H := Option.bind_eq_some_iff.mp H
             obtain ⟨t365, A790, H⟩ := H
             replace H : (some (decide (t365 < 0))) = some r := H
             have A79 := Aside0.mk A790
             clear A790
             obtain rfl := Option.some.inj H
             have hnb80 := NB322_323.out
             have hnc80 := NB323_322.out
             have hnb81 := NB322_334.out
             have hnc81 := NB334_322.out
             have hnb82 := NB322_335.out
             have hnc82 := NB335_322.out
             obtain ⟨hcz83_0, hcz83_1, hcz83_2, hcz83_3, hfz83_0, hfz83_1, hfz83_2, hfz83_3⟩ := c4_ BK322
             have hnb84 := NB323_334.out
             have hnc84 := NB334_323.out
             have hnb85 := NB323_335.out
             have hnc85 := NB335_323.out
             obtain ⟨hcz86_0, hcz86_1, hcz86_2, hfz86_0, hfz86_1, hfz86_2⟩ := c3_ BK323
             try go_wp2_with (first | ((with_reducible refine gate_callee (f := 40) rfl ?_); refine gl_ (some 51) Tryz.func40 #[.agg #[.bool a0_0, .int .u64 a0_1, .int .u64 a0_2, .int .i64 a0_3], .agg #[.bool a1_0, .int .u64 a1_1, .int .u64 a1_2]] ?_; (with_reducible refine (prefix_Has.calls kj7 a0_0 a0_1 a0_2 a0_3 a1_0 a1_1 a1_2 t346 _ A45.out).mono ?_); rintro e w87 ⟨rfl, hb⟩; refine ⟨_, rfl, ?_⟩; replace BK322 := bb_ BK322 hb; replace BK323 := bb_ BK323 hb; replace BK334 := bb_ BK334 hb; replace BK335 := bb_ BK335 hb; replace HB := bs_ HB hb; (try clear hb); (try clear hb2); (try clear hk); (try clear hi)))
             replace BK322 := Aside0.mk (blk_drew BK322.out)
             replace BK323 := Aside0.mk (blk_drew BK323.out)
             replace BK334 := Aside0.mk (blk_drew BK334.out)
             replace BK335 := Aside0.mk (blk_drew BK335.out)
             replace HB := Aside0.mk (below_drew1 HB.out)
             refine start_ (n := 6) (S := fun w' => w'.cell? ⟨gb322, 0, none⟩ = some (.bool a0_0) ∧ w'.cell? ⟨gb322, 1, none⟩ = some (.int .u64 a0_1) ∧ w'.cell? ⟨gb322, 2, none⟩ = some (.int .u64 a0_2) ∧ w'.cell? ⟨gb322, 3, none⟩ = some (.int .i64 a0_3)) (ds := []) (bm_ 6 0) (by kernel_rfl) rfl rfl ⟨kc_ BK322 0, kc_ BK322 1, kc_ BK322 2, kc_ BK322 3⟩ (fun hHeld => ?_)
             generalize w87.drew = w88 at BK322 BK323 BK334 BK335 HB hHeld ⊢
             refine pure_ (i := 0) (N := some 54) (v := ?_) (a' := ?_) (bm_ 6 1) rfl rfl (by kernel_rfl) (fun _ _ _ h => h) (Or.inl ⟨by rfl, ?_⟩) ?_ ?_
             rotate_left
             ·
              intro w'
              go_simp
              with_reducible rfl
             rotate_left
             ·
              simp only [Act.put, List.setIfInBounds_toArray, List.set_cons_zero, List.set_cons_succ, i64_w, i32_w]
              rfl
             refine pure_ (i := 2) (N := some 56) (v := ?_) (a' := ?_) (bm_ 6 5) rfl rfl (by kernel_rfl) (fun _ _ _ h => h) (Or.inl ⟨by rfl, ?_⟩) ?_ ?_
             rotate_left
             ·
              intro w'
              go_simp
              with_reducible rfl
             rotate_left
             ·
              simp only [Act.put, List.setIfInBounds_toArray, List.set_cons_zero, List.set_cons_succ, i64_w, i32_w]
              rfl
             refine take_ (i := 1) (N := some 55) (v := ?_) (a' := ?_) (bm_ 6 7) rfl rfl (by kernel_rfl) (fun _ _ _ h => h) (Or.inl ⟨by rfl, ?_⟩) hHeld ?_ ?_
             rotate_left
             ·
              rintro w' ⟨s0, s1, s2, s3⟩
              go_simp
              with_reducible rfl
             rotate_left
             ·
              simp only [Act.put, List.setIfInBounds_toArray, List.set_cons_zero, List.set_cons_succ, i64_w, i32_w]
              rfl
             refine take_ (i := 3) (N := some 57) (v := ?_) (a' := ?_) (bm_ 6 15) rfl rfl (by kernel_rfl) (fun _ _ _ h => h) (Or.inl ⟨by rfl, ?_⟩) hHeld ?_ ?_
             rotate_left
             ·
              rintro w' ⟨s0, s1, s2, s3⟩
              go_simp
              with_reducible rfl
             rotate_left
             ·
              simp only [Act.put, List.setIfInBounds_toArray, List.set_cons_zero, List.set_cons_succ, i64_w, i32_w]
              rfl
             refine one_ (i := 4) (N := some 58) (bm_ 6 31) rfl rfl (by kernel_rfl) (by decide) (fun K hK => ?_)
             refine gr_ Tryz.func22 #[.agg #[.bool a0_0, .int .u64 a0_1, .int .u64 a0_2]] ?_
             with_reducible refine (addr_Width.calls a0_0 a0_1 a0_2 t347 _ A47.out).mono ?_
             rintro e w89 ⟨rfl, hb⟩
             refine ⟨_, rfl, ?_⟩
             replace BK322 := bb_ BK322 hb
             replace BK323 := bb_ BK323 hb
             replace BK334 := bb_ BK334 hb
             replace BK335 := bb_ BK335 hb
             replace HB := bs_ HB hb
             (try clear hb)
             (try clear hb2)
             (try clear hk)
             (try clear hi)
             refine hK.out _ _ ⟨kc_ BK322 0, kc_ BK322 1, kc_ BK322 2, kc_ BK322 3⟩ (fun hHeld => ?_)
             clear hK K
             refine norm_ (a' := ?_) ?_ ?_
             rotate_left
             ·
              show Act.put _ (some 58) _ = _
              simp only [Act.put, List.setIfInBounds_toArray, List.set_cons_zero, List.set_cons_succ, i64_w, i32_w]
              rfl
             refine pure_ (i := 5) (N := some 59) (v := ?_) (a' := ?_) (bm_ 6 63) rfl rfl (by kernel_rfl) (fun _ _ _ h => h) (Or.inl ⟨by rfl, ?_⟩) ?_ ?_
             rotate_left
             ·
              intro w'
              go_simp
              with_reducible rfl
             rotate_left
             ·
              simp only [Act.put, List.setIfInBounds_toArray, List.set_cons_zero, List.set_cons_succ, i64_w, i32_w]
              rfl
             refine done_ (by kernel_rfl) ?_
             try go_wp2
             replace BK322 := Aside0.mk (blk_drew BK322.out)
             replace BK323 := Aside0.mk (blk_drew BK323.out)
             replace BK334 := Aside0.mk (blk_drew BK334.out)
             replace BK335 := Aside0.mk (blk_drew BK335.out)
             replace HB := Aside0.mk (below_drew1 HB.out)
             refine start_ (n := 8) (S := fun w' => w'.cell? ⟨gb334, 0, none⟩ = some (.bool t325) ∧ w'.cell? ⟨gb334, 1, none⟩ = some (.int .u64 t326) ∧ w'.cell? ⟨gb334, 2, none⟩ = some (.int .u64 t327) ∧ w'.cell? ⟨gb334, 3, none⟩ = some (.int .i64 t328) ∧ w'.cell? ⟨gb323, 0, none⟩ = some (.bool a1_0) ∧ w'.cell? ⟨gb323, 1, none⟩ = some (.int .u64 a1_1) ∧ w'.cell? ⟨gb323, 2, none⟩ = some (.int .u64 a1_2) ∧ w'.cell? ⟨gb335, 0, none⟩ = some (.bool t329) ∧ w'.cell? ⟨gb335, 1, none⟩ = some (.int .u64 t330) ∧ w'.cell? ⟨gb335, 2, none⟩ = some (.int .u64 t331) ∧ w'.cell? ⟨gb335, 3, none⟩ = some (.int .i64 t332)) (ds := []) (bm_ 8 0) (by kernel_rfl) rfl rfl ⟨kc_ BK334 0, kc_ BK334 1, kc_ BK334 2, kc_ BK334 3, kc_ BK323 0, kc_ BK323 1, kc_ BK323 2, kc_ BK335 0, kc_ BK335 1, kc_ BK335 2, kc_ BK335 3⟩ (fun hHeld => ?_); refine with_tabW platbooklaw03_PrefixHalves.tab11 platbooklaw03_PrefixHalves.bits11 (fun HT_ HW_ => ?_)
             generalize w89.drew = w90 at BK322 BK323 BK334 BK335 HB hHeld ⊢
             refine ta_ 0 (some 72) (bm_ 8 1) rfl HT_ HW_ ⟨by rfl, by rintro w' ⟨s0, s1, s2, s3, s4, s5, s6, s7, s8, s9, s10⟩; go_simp; with_reducible rfl⟩ hHeld ?_
             refine ta_ 1 (some 73) (bm_ 8 3) rfl HT_ HW_ ⟨by rfl, by rintro w' ⟨s0, s1, s2, s3, s4, s5, s6, s7, s8, s9, s10⟩; go_simp; with_reducible rfl⟩ hHeld ?_
             refine ta_ 3 (some 75) (bm_ 8 11) rfl HT_ HW_ ⟨by rfl, by rintro w' ⟨s0, s1, s2, s3, s4, s5, s6, s7, s8, s9, s10⟩; go_simp; with_reducible rfl⟩ hHeld ?_
             refine ta_ 4 (some 76) (bm_ 8 27) rfl HT_ HW_ ⟨by rfl, by rintro w' ⟨s0, s1, s2, s3, s4, s5, s6, s7, s8, s9, s10⟩; go_simp; with_reducible rfl⟩ hHeld ?_
             refine one_ (i := 2) (N := some 74) (bm_ 8 31) rfl rfl (one_of HT_.out (by kernel_rfl)) (by decide) (fun K hK => ?_)
             refine gr_ Tryz.func40 #[.agg #[.bool t325, .int .u64 t326, .int .u64 t327, .int .i64 t328], .agg #[.bool a1_0, .int .u64 a1_1, .int .u64 a1_2]] ?_
             with_reducible refine (prefix_Has.calls kj7 t325 t326 t327 t328 a1_0 a1_1 a1_2 t348 _ A64.out).mono ?_
             rintro e w91 ⟨rfl, hb⟩
             refine ⟨_, rfl, ?_⟩
             replace BK322 := bb_ BK322 hb
             replace BK323 := bb_ BK323 hb
             replace BK334 := bb_ BK334 hb
             replace BK335 := bb_ BK335 hb
             replace HB := bs_ HB hb
             (try clear hb)
             (try clear hb2)
             (try clear hk)
             (try clear hi)
             refine hK.out _ _ ⟨kc_ BK334 0, kc_ BK334 1, kc_ BK334 2, kc_ BK334 3, kc_ BK323 0, kc_ BK323 1, kc_ BK323 2, kc_ BK335 0, kc_ BK335 1, kc_ BK335 2, kc_ BK335 3⟩ (fun hHeld => ?_)
             clear hK K
             refine norm_ (a' := ?_) ?_ ?_
             rotate_left
             ·
              show Act.put _ (some 74) _ = _
              simp only [Act.put, List.setIfInBounds_toArray, List.set_cons_zero, List.set_cons_succ, i64_w, i32_w]
              rfl
             refine one_ (i := 5) (N := some 77) (bm_ 8 63) rfl rfl (one_of HT_.out (by kernel_rfl)) (by decide) (fun K hK => ?_)
             refine gr_ Tryz.func40 #[.agg #[.bool t329, .int .u64 t330, .int .u64 t331, .int .i64 t332], .agg #[.bool a1_0, .int .u64 a1_1, .int .u64 a1_2]] ?_
             with_reducible refine (prefix_Has.calls kj7 t329 t330 t331 t332 a1_0 a1_1 a1_2 t349 _ A65.out).mono ?_
             rintro e w92 ⟨rfl, hb⟩
             refine ⟨_, rfl, ?_⟩
             replace BK322 := bb_ BK322 hb
             replace BK323 := bb_ BK323 hb
             replace BK334 := bb_ BK334 hb
             replace BK335 := bb_ BK335 hb
             replace HB := bs_ HB hb
             (try clear hb)
             (try clear hb2)
             (try clear hk)
             (try clear hi)
             refine hK.out _ _ ⟨kc_ BK334 0, kc_ BK334 1, kc_ BK334 2, kc_ BK334 3, kc_ BK323 0, kc_ BK323 1, kc_ BK323 2, kc_ BK335 0, kc_ BK335 1, kc_ BK335 2, kc_ BK335 3⟩ (fun hHeld => ?_)
             clear hK K
             refine norm_ (a' := ?_) ?_ ?_
             rotate_left
             ·
              show Act.put _ (some 77) _ = _
              simp only [Act.put, List.setIfInBounds_toArray, List.set_cons_zero, List.set_cons_succ, i64_w, i32_w]
              rfl
             refine pu_ 6 (some 78) (bm_ 8 127) rfl HT_ ⟨by rfl, by intro w'; go_simp; with_reducible rfl⟩ ?_
             refine pu_ 7 (some 9) (bm_ 8 255) rfl HT_ ⟨by rfl, by intro w'; go_simp; with_reducible rfl⟩ ?_
             refine done_ (done_of HT_.out (by kernel_rfl)) ?_
             try go_wp2
             replace BK322 := Aside0.mk (blk_drew BK322.out)
             replace BK323 := Aside0.mk (blk_drew BK323.out)
             replace BK334 := Aside0.mk (blk_drew BK334.out)
             replace BK335 := Aside0.mk (blk_drew BK335.out)
             replace HB := Aside0.mk (below_drew1 HB.out)
             refine start_ (n := 42) (S := fun w' => w'.cell? ⟨gb322, 0, none⟩ = some (.bool a0_0) ∧ w'.cell? ⟨gb322, 1, none⟩ = some (.int .u64 a0_1) ∧ w'.cell? ⟨gb322, 2, none⟩ = some (.int .u64 a0_2) ∧ w'.cell? ⟨gb322, 3, none⟩ = some (.int .i64 a0_3) ∧ w'.cell? ⟨gb323, 0, none⟩ = some (.bool a1_0) ∧ w'.cell? ⟨gb323, 1, none⟩ = some (.int .u64 a1_1) ∧ w'.cell? ⟨gb323, 2, none⟩ = some (.int .u64 a1_2) ∧ w'.cell? ⟨gb334, 0, none⟩ = some (.bool t325) ∧ w'.cell? ⟨gb334, 1, none⟩ = some (.int .u64 t326) ∧ w'.cell? ⟨gb334, 2, none⟩ = some (.int .u64 t327) ∧ w'.cell? ⟨gb334, 3, none⟩ = some (.int .i64 t328) ∧ w'.cell? ⟨gb335, 0, none⟩ = some (.bool t329) ∧ w'.cell? ⟨gb335, 1, none⟩ = some (.int .u64 t330) ∧ w'.cell? ⟨gb335, 2, none⟩ = some (.int .u64 t331) ∧ w'.cell? ⟨gb335, 3, none⟩ = some (.int .i64 t332)) (ds := []) (bm_ 42 0) (by kernel_rfl) rfl rfl ⟨kc_ BK322 0, kc_ BK322 1, kc_ BK322 2, kc_ BK322 3, kc_ BK323 0, kc_ BK323 1, kc_ BK323 2, kc_ BK334 0, kc_ BK334 1, kc_ BK334 2, kc_ BK334 3, kc_ BK335 0, kc_ BK335 1, kc_ BK335 2, kc_ BK335 3⟩ (fun hHeld => ?_); refine with_tabW platbooklaw03_PrefixHalves.tab12 platbooklaw03_PrefixHalves.bits12 (fun HT_ HW_ => ?_)
             generalize w92.drew = w93 at BK322 BK323 BK334 BK335 HB hHeld ⊢
             refine pu_ 0 (some 79) (bm_ 42 1) rfl HT_ ⟨by rfl, by intro w'; go_simp; with_reducible rfl⟩ ?_
             refine pu_ 1 (some 80) (bm_ 42 3) rfl HT_ ⟨by rfl, by intro w'; go_simp; with_reducible rfl⟩ ?_
             refine pu_ 2 (some 81) (bm_ 42 7) rfl HT_ ⟨by rfl, by intro w'; go_simp; with_reducible rfl⟩ ?_
             refine pu_ 3 (some 82) (bm_ 42 15) rfl HT_ ⟨by rfl, by intro w'; go_simp; with_reducible rfl⟩ ?_
             refine ta_ 4 (some 83) (bm_ 42 31) rfl HT_ HW_ ⟨by rfl, by rintro w' ⟨s0, s1, s2, s3, s4, s5, s6, s7, s8, s9, s10, s11, s12, s13, s14⟩; go_simp; with_reducible rfl⟩ hHeld ?_
             refine ta_ 5 (some 84) (bm_ 42 63) rfl HT_ HW_ ⟨by rfl, by rintro w' ⟨s0, s1, s2, s3, s4, s5, s6, s7, s8, s9, s10, s11, s12, s13, s14⟩; go_simp; with_reducible rfl⟩ hHeld ?_
             refine one_ (i := 6) (N := some 85) (bm_ 42 127) rfl rfl (one_of HT_.out (by kernel_rfl)) (by decide) (fun K hK => ?_)
             refine gr_ Tryz.func40 #[.agg #[.bool a0_0, .int .u64 a0_1, .int .u64 a0_2, .int .i64 a0_3], .agg #[.bool a1_0, .int .u64 a1_1, .int .u64 a1_2]] ?_
             with_reducible refine (prefix_Has.calls kj7 a0_0 a0_1 a0_2 a0_3 a1_0 a1_1 a1_2 t350 _ A67.out).mono ?_
             rintro e w94 ⟨rfl, hb⟩
             refine ⟨_, rfl, ?_⟩
             replace BK322 := bb_ BK322 hb
             replace BK323 := bb_ BK323 hb
             replace BK334 := bb_ BK334 hb
             replace BK335 := bb_ BK335 hb
             replace HB := bs_ HB hb
             (try clear hb)
             (try clear hb2)
             (try clear hk)
             (try clear hi)
             refine hK.out _ _ ⟨kc_ BK322 0, kc_ BK322 1, kc_ BK322 2, kc_ BK322 3, kc_ BK323 0, kc_ BK323 1, kc_ BK323 2, kc_ BK334 0, kc_ BK334 1, kc_ BK334 2, kc_ BK334 3, kc_ BK335 0, kc_ BK335 1, kc_ BK335 2, kc_ BK335 3⟩ (fun hHeld => ?_)
             clear hK K
             refine norm_ (a' := ?_) ?_ ?_
             rotate_left
             ·
              show Act.put _ (some 85) _ = _
              simp only [Act.put, List.setIfInBounds_toArray, List.set_cons_zero, List.set_cons_succ, i64_w, i32_w]
              rfl
             refine pu_ 7 (some 86) (bm_ 42 255) rfl HT_ ⟨by rfl, by intro w'; go_simp; with_reducible rfl⟩ ?_
             refine pu_ 8 (some 87) (bm_ 42 511) rfl HT_ ⟨by rfl, by intro w'; go_simp; with_reducible rfl⟩ ?_
             refine pu_ 9 (some 88) (bm_ 42 1023) rfl HT_ ⟨by rfl, by intro w'; go_simp; with_reducible rfl⟩ ?_
             refine ta_ 10 (some 89) (bm_ 42 2047) rfl HT_ HW_ ⟨by rfl, by rintro w' ⟨s0, s1, s2, s3, s4, s5, s6, s7, s8, s9, s10, s11, s12, s13, s14⟩; go_simp; with_reducible rfl⟩ hHeld ?_
             refine ta_ 12 (some 91) (bm_ 42 6143) rfl HT_ HW_ ⟨by rfl, by rintro w' ⟨s0, s1, s2, s3, s4, s5, s6, s7, s8, s9, s10, s11, s12, s13, s14⟩; go_simp; with_reducible rfl⟩ hHeld ?_
             refine one_ (i := 11) (N := some 90) (bm_ 42 8191) rfl rfl (one_of HT_.out (by kernel_rfl)) (by decide) (fun K hK => ?_)
             refine gr_ Tryz.func37 #[.agg #[.bool t325, .int .u64 t326, .int .u64 t327, .int .i64 t328]] ?_
             with_reducible refine (prefix_First.calls t325 t326 t327 t328 t351 t352 t353 _ A69.out).mono ?_
             rintro e w95 ⟨rfl, hb⟩
             refine ⟨_, rfl, ?_⟩
             replace BK322 := bb_ BK322 hb
             replace BK323 := bb_ BK323 hb
             replace BK334 := bb_ BK334 hb
             replace BK335 := bb_ BK335 hb
             replace HB := bs_ HB hb
             (try clear hb)
             (try clear hb2)
             (try clear hk)
             (try clear hi)
             refine hK.out _ _ ⟨kc_ BK322 0, kc_ BK322 1, kc_ BK322 2, kc_ BK322 3, kc_ BK323 0, kc_ BK323 1, kc_ BK323 2, kc_ BK334 0, kc_ BK334 1, kc_ BK334 2, kc_ BK334 3, kc_ BK335 0, kc_ BK335 1, kc_ BK335 2, kc_ BK335 3⟩ (fun hHeld => ?_)
             clear hK K
             refine norm_ (a' := ?_) ?_ ?_
             rotate_left
             ·
              show Act.put _ (some 90) _ = _
              simp only [Act.put, List.setIfInBounds_toArray, List.set_cons_zero, List.set_cons_succ, i64_w, i32_w]
              rfl
             refine one_ (i := 13) (N := some 92) (bm_ 42 16383) rfl rfl (one_of HT_.out (by kernel_rfl)) (by decide) (fun K hK => ?_)
             refine gr_ Tryz.func37 #[.agg #[.bool a0_0, .int .u64 a0_1, .int .u64 a0_2, .int .i64 a0_3]] ?_
             with_reducible refine (prefix_First.calls a0_0 a0_1 a0_2 a0_3 t354 t355 t356 _ A70.out).mono ?_
             rintro e w96 ⟨rfl, hb⟩
             refine ⟨_, rfl, ?_⟩
             replace BK322 := bb_ BK322 hb
             replace BK323 := bb_ BK323 hb
             replace BK334 := bb_ BK334 hb
             replace BK335 := bb_ BK335 hb
             replace HB := bs_ HB hb
             (try clear hb)
             (try clear hb2)
             (try clear hk)
             (try clear hi)
             refine hK.out _ _ ⟨kc_ BK322 0, kc_ BK322 1, kc_ BK322 2, kc_ BK322 3, kc_ BK323 0, kc_ BK323 1, kc_ BK323 2, kc_ BK334 0, kc_ BK334 1, kc_ BK334 2, kc_ BK334 3, kc_ BK335 0, kc_ BK335 1, kc_ BK335 2, kc_ BK335 3⟩ (fun hHeld => ?_)
             clear hK K
             refine norm_ (a' := ?_) ?_ ?_
             rotate_left
             ·
              show Act.put _ (some 92) _ = _
              simp only [Act.put, List.setIfInBounds_toArray, List.set_cons_zero, List.set_cons_succ, i64_w, i32_w]
              rfl
             refine pu_ 14 (some 93) (bm_ 42 32767) rfl HT_ ⟨by rfl, by intro w'; go_simp; with_reducible rfl⟩ ?_
             refine pu_ 15 (some 94) (bm_ 42 65535) rfl HT_ ⟨by rfl, by intro w'; go_simp; with_reducible rfl⟩ ?_
             refine pu_ 16 (some 95) (bm_ 42 131071) rfl HT_ ⟨by rfl, by intro w'; go_simp; with_reducible rfl⟩ ?_
             refine ta_ 17 (some 96) (bm_ 42 262143) rfl HT_ HW_ ⟨by rfl, by rintro w' ⟨s0, s1, s2, s3, s4, s5, s6, s7, s8, s9, s10, s11, s12, s13, s14⟩; go_simp; with_reducible rfl⟩ hHeld ?_
             refine ta_ 19 (some 98) (bm_ 42 786431) rfl HT_ HW_ ⟨by rfl, by rintro w' ⟨s0, s1, s2, s3, s4, s5, s6, s7, s8, s9, s10, s11, s12, s13, s14⟩; go_simp; with_reducible rfl⟩ hHeld ?_
             refine one_ (i := 18) (N := some 97) (bm_ 42 1048575) rfl rfl (one_of HT_.out (by kernel_rfl)) (by decide) (fun K hK => ?_)
             refine gr_ Tryz.func38 #[.agg #[.bool t329, .int .u64 t330, .int .u64 t331, .int .i64 t332]] ?_
             with_reducible refine (prefix_Last.calls t329 t330 t331 t332 t357 t358 t359 _ A72.out).mono ?_
             rintro e w97 ⟨rfl, hb⟩
             refine ⟨_, rfl, ?_⟩
             replace BK322 := bb_ BK322 hb
             replace BK323 := bb_ BK323 hb
             replace BK334 := bb_ BK334 hb
             replace BK335 := bb_ BK335 hb
             replace HB := bs_ HB hb
             (try clear hb)
             (try clear hb2)
             (try clear hk)
             (try clear hi)
             refine hK.out _ _ ⟨kc_ BK322 0, kc_ BK322 1, kc_ BK322 2, kc_ BK322 3, kc_ BK323 0, kc_ BK323 1, kc_ BK323 2, kc_ BK334 0, kc_ BK334 1, kc_ BK334 2, kc_ BK334 3, kc_ BK335 0, kc_ BK335 1, kc_ BK335 2, kc_ BK335 3⟩ (fun hHeld => ?_)
             clear hK K
             refine norm_ (a' := ?_) ?_ ?_
             rotate_left
             ·
              show Act.put _ (some 97) _ = _
              simp only [Act.put, List.setIfInBounds_toArray, List.set_cons_zero, List.set_cons_succ, i64_w, i32_w]
              rfl
             refine one_ (i := 20) (N := some 99) (bm_ 42 2097151) rfl rfl (one_of HT_.out (by kernel_rfl)) (by decide) (fun K hK => ?_)
             refine gr_ Tryz.func38 #[.agg #[.bool a0_0, .int .u64 a0_1, .int .u64 a0_2, .int .i64 a0_3]] ?_
             with_reducible refine (prefix_Last.calls a0_0 a0_1 a0_2 a0_3 t360 t361 t362 _ A73.out).mono ?_
             rintro e w98 ⟨rfl, hb⟩
             refine ⟨_, rfl, ?_⟩
             replace BK322 := bb_ BK322 hb
             replace BK323 := bb_ BK323 hb
             replace BK334 := bb_ BK334 hb
             replace BK335 := bb_ BK335 hb
             replace HB := bs_ HB hb
             (try clear hb)
             (try clear hb2)
             (try clear hk)
             (try clear hi)
             refine hK.out _ _ ⟨kc_ BK322 0, kc_ BK322 1, kc_ BK322 2, kc_ BK322 3, kc_ BK323 0, kc_ BK323 1, kc_ BK323 2, kc_ BK334 0, kc_ BK334 1, kc_ BK334 2, kc_ BK334 3, kc_ BK335 0, kc_ BK335 1, kc_ BK335 2, kc_ BK335 3⟩ (fun hHeld => ?_)
             clear hK K
             refine norm_ (a' := ?_) ?_ ?_
             rotate_left
             ·
              show Act.put _ (some 99) _ = _
              simp only [Act.put, List.setIfInBounds_toArray, List.set_cons_zero, List.set_cons_succ, i64_w, i32_w]
              rfl
             refine pu_ 21 (some 100) (bm_ 42 4194303) rfl HT_ ⟨by rfl, by intro w'; go_simp; with_reducible rfl⟩ ?_
             refine pu_ 22 (some 101) (bm_ 42 8388607) rfl HT_ ⟨by rfl, by intro w'; go_simp; with_reducible rfl⟩ ?_
             refine pu_ 23 (some 102) (bm_ 42 16777215) rfl HT_ ⟨by rfl, by intro w'; go_simp; with_reducible rfl⟩ ?_
             refine ta_ 24 (some 103) (bm_ 42 33554431) rfl HT_ HW_ ⟨by rfl, by rintro w' ⟨s0, s1, s2, s3, s4, s5, s6, s7, s8, s9, s10, s11, s12, s13, s14⟩; go_simp; with_reducible rfl⟩ hHeld ?_
             refine ta_ 25 (some 104) (bm_ 42 67108863) rfl HT_ HW_ ⟨by rfl, by rintro w' ⟨s0, s1, s2, s3, s4, s5, s6, s7, s8, s9, s10, s11, s12, s13, s14⟩; go_simp; with_reducible rfl⟩ hHeld ?_
             refine one_ (i := 26) (N := some 105) (bm_ 42 134217727) rfl rfl (one_of HT_.out (by kernel_rfl)) (by decide) (fun K hK => ?_)
             refine gr_ Tryz.func43 #[.agg #[.bool t325, .int .u64 t326, .int .u64 t327, .int .i64 t328], .agg #[.bool t329, .int .u64 t330, .int .u64 t331, .int .i64 t332]] ?_
             with_reducible refine (prefix_Overlap.calls kj7 t325 t326 t327 t328 t329 t330 t331 t332 false _ A75.out).mono ?_
             rintro e w99 ⟨rfl, hb⟩
             refine ⟨_, rfl, ?_⟩
             replace BK322 := bb_ BK322 hb
             replace BK323 := bb_ BK323 hb
             replace BK334 := bb_ BK334 hb
             replace BK335 := bb_ BK335 hb
             replace HB := bs_ HB hb
             (try clear hb)
             (try clear hb2)
             (try clear hk)
             (try clear hi)
             refine hK.out _ _ ⟨kc_ BK322 0, kc_ BK322 1, kc_ BK322 2, kc_ BK322 3, kc_ BK323 0, kc_ BK323 1, kc_ BK323 2, kc_ BK334 0, kc_ BK334 1, kc_ BK334 2, kc_ BK334 3, kc_ BK335 0, kc_ BK335 1, kc_ BK335 2, kc_ BK335 3⟩ (fun hHeld => ?_)
             clear hK K
             refine norm_ (a' := ?_) ?_ ?_
             rotate_left
             ·
              show Act.put _ (some 105) _ = _
              simp only [Act.put, List.setIfInBounds_toArray, List.set_cons_zero, List.set_cons_succ, i64_w, i32_w]
              rfl
             refine pu_ 27 (some 106) (bm_ 42 268435455) rfl HT_ ⟨by rfl, by intro w'; go_simp; with_reducible rfl⟩ ?_
             refine pu_ 28 (some 107) (bm_ 42 536870911) rfl HT_ ⟨by rfl, by intro w'; go_simp; with_reducible rfl⟩ ?_
             refine pu_ 29 (some 108) (bm_ 42 1073741823) rfl HT_ ⟨by rfl, by intro w'; go_simp; with_reducible rfl⟩ ?_
             refine ta_ 30 (some 109) (bm_ 42 2147483647) rfl HT_ HW_ ⟨by rfl, by rintro w' ⟨s0, s1, s2, s3, s4, s5, s6, s7, s8, s9, s10, s11, s12, s13, s14⟩; go_simp; with_reducible rfl⟩ hHeld ?_
             refine ta_ 31 (some 110) (bm_ 42 4294967295) rfl HT_ HW_ ⟨by rfl, by rintro w' ⟨s0, s1, s2, s3, s4, s5, s6, s7, s8, s9, s10, s11, s12, s13, s14⟩; go_simp; with_reducible rfl⟩ hHeld ?_
             refine one_ (i := 32) (N := some 111) (bm_ 42 8589934591) rfl rfl (one_of HT_.out (by kernel_rfl)) (by decide) (fun K hK => ?_)
             refine gr_ Tryz.func45 #[.agg #[.bool a0_0, .int .u64 a0_1, .int .u64 a0_2, .int .i64 a0_3], .agg #[.bool t325, .int .u64 t326, .int .u64 t327, .int .i64 t328]] ?_
             with_reducible refine (prefix_Cmp.calls kj7 a0_0 a0_1 a0_2 a0_3 t325 t326 t327 t328 t364 _ A77.out).mono ?_
             rintro e w100 ⟨rfl, hb⟩
             refine ⟨_, rfl, ?_⟩
             replace BK322 := bb_ BK322 hb
             replace BK323 := bb_ BK323 hb
             replace BK334 := bb_ BK334 hb
             replace BK335 := bb_ BK335 hb
             replace HB := bs_ HB hb
             (try clear hb)
             (try clear hb2)
             (try clear hk)
             (try clear hi)
             refine hK.out _ _ ⟨kc_ BK322 0, kc_ BK322 1, kc_ BK322 2, kc_ BK322 3, kc_ BK323 0, kc_ BK323 1, kc_ BK323 2, kc_ BK334 0, kc_ BK334 1, kc_ BK334 2, kc_ BK334 3, kc_ BK335 0, kc_ BK335 1, kc_ BK335 2, kc_ BK335 3⟩ (fun hHeld => ?_)
             clear hK K
             refine norm_ (a' := ?_) ?_ ?_
             rotate_left
             ·
              show Act.put _ (some 111) _ = _
              simp only [Act.put, List.setIfInBounds_toArray, List.set_cons_zero, List.set_cons_succ, i64_w, i32_w]
              rfl
             refine pu_ 33 (some 112) (bm_ 42 17179869183) rfl HT_ ⟨by rfl, by intro w'; go_simp; with_reducible rfl⟩ ?_
             refine pu_ 34 (some 113) (bm_ 42 34359738367) rfl HT_ ⟨by rfl, by intro w'; go_simp; with_reducible rfl⟩ ?_
             refine pu_ 35 (some 114) (bm_ 42 68719476735) rfl HT_ ⟨by rfl, by intro w'; go_simp; with_reducible rfl⟩ ?_
             refine ta_ 36 (some 115) (bm_ 42 137438953471) rfl HT_ HW_ ⟨by rfl, by rintro w' ⟨s0, s1, s2, s3, s4, s5, s6, s7, s8, s9, s10, s11, s12, s13, s14⟩; go_simp; with_reducible rfl⟩ hHeld ?_
             refine ta_ 37 (some 116) (bm_ 42 274877906943) rfl HT_ HW_ ⟨by rfl, by rintro w' ⟨s0, s1, s2, s3, s4, s5, s6, s7, s8, s9, s10, s11, s12, s13, s14⟩; go_simp; with_reducible rfl⟩ hHeld ?_
             refine one_ (i := 38) (N := some 117) (bm_ 42 549755813887) rfl rfl (one_of HT_.out (by kernel_rfl)) (by decide) (fun K hK => ?_)
             refine gr_ Tryz.func45 #[.agg #[.bool t325, .int .u64 t326, .int .u64 t327, .int .i64 t328], .agg #[.bool t329, .int .u64 t330, .int .u64 t331, .int .i64 t332]] ?_
             with_reducible refine (prefix_Cmp.calls kj7 t325 t326 t327 t328 t329 t330 t331 t332 t365 _ A79.out).mono ?_
             rintro e w101 ⟨rfl, hb⟩
             refine ⟨_, rfl, ?_⟩
             replace BK322 := bb_ BK322 hb
             replace BK323 := bb_ BK323 hb
             replace BK334 := bb_ BK334 hb
             replace BK335 := bb_ BK335 hb
             replace HB := bs_ HB hb
             (try clear hb)
             (try clear hb2)
             (try clear hk)
             (try clear hi)
             refine hK.out _ _ ⟨kc_ BK322 0, kc_ BK322 1, kc_ BK322 2, kc_ BK322 3, kc_ BK323 0, kc_ BK323 1, kc_ BK323 2, kc_ BK334 0, kc_ BK334 1, kc_ BK334 2, kc_ BK334 3, kc_ BK335 0, kc_ BK335 1, kc_ BK335 2, kc_ BK335 3⟩ (fun hHeld => ?_)
             clear hK K
             refine norm_ (a' := ?_) ?_ ?_
             rotate_left
             ·
              show Act.put _ (some 117) _ = _
              simp only [Act.put, List.setIfInBounds_toArray, List.set_cons_zero, List.set_cons_succ, i64_w, i32_w]
              rfl
             refine pu_ 39 (some 118) (bm_ 42 1099511627775) rfl HT_ ⟨by rfl, by intro w'; go_simp; with_reducible rfl⟩ ?_
             refine pu_ 40 (some 119) (bm_ 42 2199023255551) rfl HT_ ⟨by rfl, by intro w'; go_simp; with_reducible rfl⟩ ?_
             refine pu_ 41 (some 4) (bm_ 42 4398046511103) rfl HT_ ⟨by rfl, by intro w'; go_simp; with_reducible rfl⟩ ?_
             refine done_ (done_of HT_.out (by kernel_rfl)) ?_
             try go_wp2
             go_ret
             exact ⟨by first | rfl | (simp [errW_none, errW_some] <;> rfl) | (simp [*, errW_none, errW_some] <;> rfl), pb_ HB⟩
            ·
             rw [if_neg c78] at H
             have c78b0 : decide (t364 < 0) = false := decide_eq_false c78
             clear c78
             obtain rfl := Option.some.inj H
             exact absurd HRT.out (by decide)
          ·
           rw [if_neg c74] at H
           have c74b0 : (t357 == t360 && ((t358 == t361 && (t359 == t362)))) = false := by simpa using c74
           (try (have c74b1 : decide (t357 = t360 && ((t358 == t361 && (t359 == t362)))) = false := by simpa using c74))
           (try (have c74b2 : (t357 == t360 && ((t358 == t361 && (t359 == t362)))) = false := by simpa using c74))
           (try (have c74b3 : ¬ (t357 = t360 && ((t358 == t361 && (t359 == t362)))) := by simpa using c74))
           clear c74
           obtain rfl := Option.some.inj H
           exact absurd HRT.out (by decide)
         ·
          rw [if_neg c71] at H
          have c71b0 : (t351 == t354 && ((t352 == t355 && (t353 == t356)))) = false := by simpa using c71
          (try (have c71b1 : decide (t351 = t354 && ((t352 == t355 && (t353 == t356)))) = false := by simpa using c71))
          (try (have c71b2 : (t351 == t354 && ((t352 == t355 && (t353 == t356)))) = false := by simpa using c71))
          (try (have c71b3 : ¬ (t351 = t354 && ((t352 == t355 && (t353 == t356)))) := by simpa using c71))
          clear c71
          obtain rfl := Option.some.inj H
          exact absurd HRT.out (by decide)
        ·
         rw [if_neg c68] at H
         have c68b0 : ((t348 != t349) == t350) = false := by simpa using c68
         (try (have c68b1 : decide ((t348 != t349) = t350) = false := by simpa using c68))
         (try (have c68b2 : ((t348 != t349) == t350) = false := by simpa using c68))
         (try (have c68b3 : ¬ ((t348 != t349) = t350) := by simpa using c68))
         (try (have c68b4 : ((!(t348 == t349)) == t350) = false := by simpa [bne] using c68))
         (try (have c68b5 : decide ((!(t348 == t349)) = t350) = false := by simpa [bne] using c68))
         clear c68
         obtain rfl := Option.some.inj H
         exact absurd HRT.out (by decide)
       ·
        rw [if_neg c66] at H
        have c66b0 : (t333 == 0) = false := beq_eq_false_iff_ne.mpr c66
        have c66b1 : (t333 != 0) = true := bne_iff_ne.mpr c66
        obtain rfl := Option.some.inj H
        exact absurd HRT.out (by decide)
  ·
   replace c7 := Bool.eq_false_iff.mpr c7
   subst c7
   have H1 : (if t333 = 1 then (if ((!t325 && ((t326 == 0 && (t327 == 0)))) && (t328 == 0)) = true then (some ((!t329 && ((t330 == 0 && (t331 == 0)))) && (t332 == 0))) else (some false)) else (some false)) = some r := by rw [if_neg (show ¬ (false = true) by decide)] at H; exact H
   clear H
   have H := H1
   clear H1
   by_cases c102 : t333 = 1
   ·
    rw [if_pos c102] at H
    have c102b0 : (t333 == 1) = true := beq_iff_eq.mpr c102
    have c102b1 : (t333 != 1) = false := bne_eq_false_iff_eq.mpr c102
    clear c102
    by_cases c103 : ((!t325 && ((t326 == 0 && (t327 == 0)))) && (t328 == 0)) = true
    ·
     rw [if_pos c103] at H
     have c103b0 : ((!t325 && ((t326 == 0 && (t327 == 0)))) && (t328 == 0)) = true := c103
     clear c103
     obtain rfl := Option.some.inj H
     go_enter Tryz.func7, Tryz.ntmps7
     go_wp2_with (first | ((with_reducible refine gate_dst (N := 2) rfl ?_); refine bx_ 2 #[.bool a0_0, .int .u64 a0_1, .int .u64 a0_2, .int .i64 a0_3] 38 ?_; intro gb322 hg w104 hbox hb; have BK322 := Aside0.mk (hbox); have GW322 := gw_ HB hg; have GE322 := gw_ HB hg; replace HB := bs_ HB hb; clear hb hbox hg) | ((with_reducible refine gate_dst (N := 3) rfl ?_); refine bx_ 3 #[.bool a1_0, .int .u64 a1_1, .int .u64 a1_2] 26 ?_; intro gb323 hg w105 hbox hb; have BK323 := Aside0.mk (hbox); have GW323 := gw_ HB hg; have GE323 := gw_ HB hg; have NB322_323 := nl_ BK322 hg; have NB323_322 := ng_ BK322 hg; replace BK322 := bb_ BK322 hb; replace HB := bs_ HB hb; clear hb hbox hg) | ((with_reducible refine gate_callee (f := 24) rfl ?_); refine gl_ (some 10) Tryz.func24 #[] ?_; (with_reducible refine (platbooklaw03_awake.calls  true _ ?side1 rfl A3.out).mono ?_); (case side1 => exact glob_keep HGLB.out (pb_ HB)); rintro e w106 ⟨rfl, hb⟩; refine ⟨_, rfl, ?_⟩; replace BK322 := bb_ BK322 hb; replace BK323 := bb_ BK323 hb; replace HB := bs_ HB hb; (try clear hb); (try clear hb2); (try clear hk); (try clear hi); have hnb107 := NB322_323.out; have hnc107 := NB323_322.out; obtain ⟨hcz108_0, hcz108_1, hcz108_2, hcz108_3, hfz108_0, hfz108_1, hfz108_2, hfz108_3⟩ := c4_ BK322) | ((with_reducible refine gate_callee (f := 33) rfl ?_); refine gl_ (some 14) Tryz.func33 #[.agg #[.bool a0_0, .int .u64 a0_1, .int .u64 a0_2, .int .i64 a0_3]] ?_; (with_reducible refine (prefix_Halves.calls a0_0 a0_1 a0_2 a0_3 t325 t326 t327 t328 t329 t330 t331 t332 t333 _ A5.out).mono ?_); rintro e w109 ⟨rfl, hb⟩; refine ⟨_, rfl, ?_⟩; replace BK322 := bb_ BK322 hb; replace BK323 := bb_ BK323 hb; replace HB := bs_ HB hb; (try clear hb); (try clear hb2); (try clear hk); (try clear hi)) | ((with_reducible refine gate_dst (N := 5) rfl ?_); refine bx_ 5 #[.bool false, .int .u64 0, .int .u64 0, .int .i64 0] 38 ?_; intro gb334 hg w110 hbox hb; have BK334 := Aside0.mk (hbox); have GW334 := gw_ HB hg; have GE334 := gw_ HB hg; have NB322_334 := nl_ BK322 hg; have NB334_322 := ng_ BK322 hg; have NB323_334 := nl_ BK323 hg; have NB334_323 := ng_ BK323 hg; replace BK322 := bb_ BK322 hb; replace BK323 := bb_ BK323 hb; replace HB := bs_ HB hb; clear hb hbox hg) | ((with_reducible refine gate_dst (N := 6) rfl ?_); refine bx_ 6 #[.bool false, .int .u64 0, .int .u64 0, .int .i64 0] 38 ?_; intro gb335 hg w111 hbox hb; have BK335 := Aside0.mk (hbox); have GW335 := gw_ HB hg; have GE335 := gw_ HB hg; have NB322_335 := nl_ BK322 hg; have NB335_322 := ng_ BK322 hg; have NB323_335 := nl_ BK323 hg; have NB335_323 := ng_ BK323 hg; have NB334_335 := nl_ BK334 hg; have NB335_334 := ng_ BK334 hg; replace BK322 := bb_ BK322 hb; replace BK323 := bb_ BK323 hb; replace BK334 := bb_ BK334 hb; replace HB := bs_ HB hb; clear hb hbox hg; have hnb112 := NB334_322.out; have hnc112 := NB322_334.out; have hnb113 := NB334_323.out; have hnc113 := NB323_334.out; have hnb114 := NB334_335.out; have hnc114 := NB335_334.out; obtain ⟨hcz115_0, hcz115_1, hcz115_2, hcz115_3, hfz115_0, hfz115_1, hfz115_2, hfz115_3⟩ := c4_ BK334; have hnb116 := NB335_322.out; have hnc116 := NB322_335.out; have hnb117 := NB335_323.out; have hnc117 := NB323_335.out; obtain ⟨hcz118_0, hcz118_1, hcz118_2, hcz118_3, hfz118_0, hfz118_1, hfz118_2, hfz118_3⟩ := c4_ BK335; obtain ⟨hcz119_0, hcz119_1, hcz119_2, hcz119_3, hfz119_0, hfz119_1, hfz119_2, hfz119_3⟩ := c4_ BK322) | ((with_reducible refine gate_callee (f := 29) rfl ?_); refine gl_ (some 19) Tryz.func29 #[.agg #[.bool a0_0, .int .u64 a0_1, .int .u64 a0_2, .int .i64 a0_3]] ?_; (with_reducible refine (platbookref03_Right.calls k a0_0 a0_1 a0_2 a0_3 false _ A6.out).mono ?_); rintro e w120 ⟨rfl, hb⟩; refine ⟨_, rfl, ?_⟩; replace BK322 := Aside0.mk (blk_below (g := gb322) (o := .cells #[.bool a0_0, .int .u64 a0_1, .int .u64 a0_2, .int .i64 a0_3] 38 (0, 0)) (by refine pw_ ?_; refine blk_far ?_ NB322_335.out _; refine pw_ ?_; refine blk_far ?_ NB322_335.out _; refine pw_ ?_; refine blk_far ?_ NB322_335.out _; refine pw_ ?_; refine blk_far ?_ NB322_335.out _; refine pw_ ?_; refine blk_far ?_ NB322_334.out _; refine pw_ ?_; refine blk_far ?_ NB322_334.out _; refine pw_ ?_; refine blk_far ?_ NB322_334.out _; refine pw_ ?_; refine blk_far ?_ NB322_334.out _; refine pw_ ?_; exact BK322.out) hb); replace BK323 := Aside0.mk (blk_below (g := gb323) (o := .cells #[.bool a1_0, .int .u64 a1_1, .int .u64 a1_2] 26 (0, 0)) (by refine pw_ ?_; refine blk_far ?_ NB323_335.out _; refine pw_ ?_; refine blk_far ?_ NB323_335.out _; refine pw_ ?_; refine blk_far ?_ NB323_335.out _; refine pw_ ?_; refine blk_far ?_ NB323_335.out _; refine pw_ ?_; refine blk_far ?_ NB323_334.out _; refine pw_ ?_; refine blk_far ?_ NB323_334.out _; refine pw_ ?_; refine blk_far ?_ NB323_334.out _; refine pw_ ?_; refine blk_far ?_ NB323_334.out _; refine pw_ ?_; exact BK323.out) hb); replace BK334 := Aside0.mk (blk_below (g := gb334) (o := .cells #[.bool t325, .int .u64 t326, .int .u64 t327, .int .i64 t328] 38 (0, 0)) (by refine pw_ ?_; refine blk_far ?_ NB334_335.out _; refine pw_ ?_; refine blk_far ?_ NB334_335.out _; refine pw_ ?_; refine blk_far ?_ NB334_335.out _; refine pw_ ?_; refine blk_far ?_ NB334_335.out _; refine pw_ ?_; refine blk_put (cs := #[.bool t325, .int .u64 t326, .int .u64 t327, .int .i64 0]) ?_ 3 _ rfl; refine pw_ ?_; refine blk_put (cs := #[.bool t325, .int .u64 t326, .int .u64 0, .int .i64 0]) ?_ 2 _ rfl; refine pw_ ?_; refine blk_put (cs := #[.bool t325, .int .u64 0, .int .u64 0, .int .i64 0]) ?_ 1 _ rfl; refine pw_ ?_; refine blk_put (cs := #[.bool false, .int .u64 0, .int .u64 0, .int .i64 0]) ?_ 0 _ rfl; refine pw_ ?_; exact BK334.out) hb); replace BK335 := Aside0.mk (blk_below (g := gb335) (o := .cells #[.bool t329, .int .u64 t330, .int .u64 t331, .int .i64 t332] 38 (0, 0)) (by refine pw_ ?_; refine blk_put (cs := #[.bool t329, .int .u64 t330, .int .u64 t331, .int .i64 0]) ?_ 3 _ rfl; refine pw_ ?_; refine blk_put (cs := #[.bool t329, .int .u64 t330, .int .u64 0, .int .i64 0]) ?_ 2 _ rfl; refine pw_ ?_; refine blk_put (cs := #[.bool t329, .int .u64 0, .int .u64 0, .int .i64 0]) ?_ 1 _ rfl; refine pw_ ?_; refine blk_put (cs := #[.bool false, .int .u64 0, .int .u64 0, .int .i64 0]) ?_ 0 _ rfl; refine pw_ ?_; refine blk_far ?_ NB335_334.out _; refine pw_ ?_; refine blk_far ?_ NB335_334.out _; refine pw_ ?_; refine blk_far ?_ NB335_334.out _; refine pw_ ?_; refine blk_far ?_ NB335_334.out _; refine pw_ ?_; exact BK335.out) hb); replace HB := bs_ HB hb; (try clear hb); (try clear hb2); (try clear hk); (try clear hi); obtain ⟨hcz121_0, hcz121_1, hcz121_2, hcz121_3, hfz121_0, hfz121_1, hfz121_2, hfz121_3⟩ := c4_ BK334; obtain ⟨hcz122_0, hcz122_1, hcz122_2, hcz122_3, hfz122_0, hfz122_1, hfz122_2, hfz122_3⟩ := c4_ BK335))
     go_ret
     exact ⟨by first | rfl | (simp [errW_none, errW_some] <;> rfl) | (simp [*, errW_none, errW_some] <;> rfl), pb_ HB⟩
    ·
     rw [if_neg c103] at H
     have c103b0 : ((!t325 && ((t326 == 0 && (t327 == 0)))) && (t328 == 0)) = false := by simpa using c103
     clear c103
     obtain rfl := Option.some.inj H
     exact absurd HRT.out (by decide)
   ·
    rw [if_neg c102] at H
    have c102b0 : (t333 == 1) = false := beq_eq_false_iff_ne.mpr c102
    have c102b1 : (t333 != 1) = true := bne_iff_ne.mpr c102
    obtain rfl := Option.some.inj H
    exact absurd HRT.out (by decide)
 ·
  replace c4 := Bool.eq_false_iff.mpr c4
  subst c4
  have H1 : (some false) = some r := by rw [if_neg (show ¬ (false = true) by decide)] at H; exact H
  clear H
  have H := H1
  clear H1
  obtain rfl := Option.some.inj H
  exact absurd HRT.out (by decide)

end Go.Proofs.YtgdgklibilddgaaGreatDoor.PPr

namespace Go.Proofs.YtgdgklibilddgaaGreatDoor.PPr
open Go.RowKit Go.Proofs.YtgdgklibilddgaaGreatDoorW.PrintWords Go.Proofs.YtgdgklibilddgaaGreatDoorW.PrintLast Go.Proofs.YtgdgklibilddgaaGreatDoorW.PrintMore
attribute [local go_sem] max2_int min2_int max_two min_two max_three min_three max_four min_four   -- for this text's walks alone

attribute [local go_sem high] eqA26 eqA38
def platbookref03_Overlap.f (k : Nat) (a0_0 : Bool) (a0_1 : Int) (a0_2 : Int) (a0_3 : Int) (a1_0 : Bool) (a1_1 : Int) (a1_2 : Int) (a1_3 : Int) : Option (Bool) := (platbookref03_Right.f k a0_0 a0_1 a0_2 a0_3).bind fun t272 => (if t272 = true then ((platbookref03_Right.f k a1_0 a1_1 a1_2 a1_3).bind fun t273 => (if t273 = true then ((platbookref03_Has.f k a1_0 a1_1 a1_2 a1_3 a0_0 a0_1 a0_2).bind fun t274 => (if t274 = true then (some true) else ((platbookref03_Has.f k a0_0 a0_1 a0_2 a0_3 a1_0 a1_1 a1_2).bind fun t275 => (some t275)))) else (some false))) else (some false))
set_option maxHeartbeats 8000000 in
set_option maxRecDepth 100000 in
theorem platbookref03_Overlap.calls (k : Nat) (a0_0 : Bool) (a0_1 : Int) (a0_2 : Int) (a0_3 : Int) (a1_0 : Bool) (a1_1 : Int) (a1_2 : Int) (a1_3 : Int) (r : Bool) (w : World) (h : platbookref03_Overlap.f k a0_0 a0_1 a0_2 a0_3 a1_0 a1_1 a1_2 a1_3 = some r) :
  Calls Tryz.prog 44 #[.agg #[.bool a0_0, .int .u64 a0_1, .int .u64 a0_2, .int .i64 a0_3], .agg #[.bool a1_0, .int .u64 a1_1, .int .u64 a1_2, .int .i64 a1_3]] w fun e w' => e = .returned (.bool r) ∧ Below w.heap.size w w' := by
 have hu38 := Tryz.underlying38
 have hu26 := Tryz.underlying26
 have HB := Aside0.mk (Below.refl w.heap.size w)
 have H : ((platbookref03_Right.f k a0_0 a0_1 a0_2 a0_3).bind fun t272 => (if t272 = true then ((platbookref03_Right.f k a1_0 a1_1 a1_2 a1_3).bind fun t273 => (if t273 = true then ((platbookref03_Has.f k a1_0 a1_1 a1_2 a1_3 a0_0 a0_1 a0_2).bind fun t274 => (if t274 = true then (some true) else ((platbookref03_Has.f k a0_0 a0_1 a0_2 a0_3 a1_0 a1_1 a1_2).bind fun t275 => (some t275)))) else (some false))) else (some false))) = some r := h
 clear h
 replace H := Option.bind_eq_some_iff.mp H
 obtain ⟨t272, A30, H⟩ := H
 replace H : (if t272 = true then ((platbookref03_Right.f k a1_0 a1_1 a1_2 a1_3).bind fun t273 => (if t273 = true then ((platbookref03_Has.f k a1_0 a1_1 a1_2 a1_3 a0_0 a0_1 a0_2).bind fun t274 => (if t274 = true then (some true) else ((platbookref03_Has.f k a0_0 a0_1 a0_2 a0_3 a1_0 a1_1 a1_2).bind fun t275 => (some t275)))) else (some false))) else (some false)) = some r := H
 have A3 := Aside0.mk A30
 clear A30
 by_cases c4 : t272 = true
 ·
  subst c4
  rw [if_pos rfl] at H
  replace H := Option.bind_eq_some_iff.mp H
  obtain ⟨t273, A50, H⟩ := H
  replace H : (if t273 = true then ((platbookref03_Has.f k a1_0 a1_1 a1_2 a1_3 a0_0 a0_1 a0_2).bind fun t274 => (if t274 = true then (some true) else ((platbookref03_Has.f k a0_0 a0_1 a0_2 a0_3 a1_0 a1_1 a1_2).bind fun t275 => (some t275)))) else (some false)) = some r := H
  have A5 := Aside0.mk A50
  clear A50
  by_cases c6 : t273 = true
  ·
   subst c6
   rw [if_pos rfl] at H
   replace H := Option.bind_eq_some_iff.mp H
   obtain ⟨t274, A70, H⟩ := H
   replace H : (if t274 = true then (some true) else ((platbookref03_Has.f k a0_0 a0_1 a0_2 a0_3 a1_0 a1_1 a1_2).bind fun t275 => (some t275))) = some r := H
   have A7 := Aside0.mk A70
   clear A70
   by_cases c8 : t274 = true
   ·
    subst c8
    rw [if_pos rfl] at H
    obtain rfl := Option.some.inj H
    go_enter Tryz.func44, Tryz.ntmps44
    go_wp2_with (first | ((with_reducible refine gate_dst (N := 2) rfl ?_); refine bx_ 2 #[.bool a0_0, .int .u64 a0_1, .int .u64 a0_2, .int .i64 a0_3] 38 ?_; intro gb270 hg w9 hbox hb; have BK270 := Aside0.mk (hbox); have GW270 := gw_ HB hg; have GE270 := gw_ HB hg; replace HB := bs_ HB hb; clear hb hbox hg) | ((with_reducible refine gate_dst (N := 3) rfl ?_); refine bx_ 3 #[.bool a1_0, .int .u64 a1_1, .int .u64 a1_2, .int .i64 a1_3] 38 ?_; intro gb271 hg w10 hbox hb; have BK271 := Aside0.mk (hbox); have GW271 := gw_ HB hg; have GE271 := gw_ HB hg; have NB270_271 := nl_ BK270 hg; have NB271_270 := ng_ BK270 hg; replace BK270 := bb_ BK270 hb; replace HB := bs_ HB hb; clear hb hbox hg; have hnb11 := NB270_271.out; have hnc11 := NB271_270.out; obtain ⟨hcz12_0, hcz12_1, hcz12_2, hcz12_3, hfz12_0, hfz12_1, hfz12_2, hfz12_3⟩ := c4_ BK270) | ((with_reducible refine gate_callee (f := 29) rfl ?_); refine gl_ (some 6) Tryz.func29 #[.agg #[.bool a0_0, .int .u64 a0_1, .int .u64 a0_2, .int .i64 a0_3]] ?_; (with_reducible refine (platbookref03_Right.calls k a0_0 a0_1 a0_2 a0_3 true _ A3.out).mono ?_); rintro e w13 ⟨rfl, hb⟩; refine ⟨_, rfl, ?_⟩; replace BK270 := bb_ BK270 hb; replace BK271 := bb_ BK271 hb; replace HB := bs_ HB hb; (try clear hb); (try clear hb2); (try clear hk); (try clear hi); obtain ⟨hcz14_0, hcz14_1, hcz14_2, hcz14_3, hfz14_0, hfz14_1, hfz14_2, hfz14_3⟩ := c4_ BK271) | (go_at_call 29; (with_reducible refine (platbookref03_Right.calls k a1_0 a1_1 a1_2 a1_3 true _ A5.out).mono ?_); rintro e w15 ⟨rfl, hb⟩; replace BK270 := bb_ BK270 hb; replace BK271 := bb_ BK271 hb; replace HB := bs_ HB hb; (try clear hb); (try clear hb2); (try clear hk); (try clear hi); obtain ⟨hcz16_0, hcz16_1, hcz16_2, hcz16_3, hfz16_0, hfz16_1, hfz16_2, hfz16_3⟩ := c4_ BK271; obtain ⟨hcz17_0, hcz17_1, hcz17_2, hcz17_3, hfz17_0, hfz17_1, hfz17_2, hfz17_3⟩ := c4_ BK270) | (go_at_call 41; (with_reducible refine (platbookref03_Has.calls k a1_0 a1_1 a1_2 a1_3 a0_0 a0_1 a0_2 true _ A7.out).mono ?_); rintro e w18 ⟨rfl, hb⟩; replace BK270 := bb_ BK270 hb; replace BK271 := bb_ BK271 hb; replace HB := bs_ HB hb; (try clear hb); (try clear hb2); (try clear hk); (try clear hi)))
    go_ret
    exact ⟨by first | rfl | (simp [errW_none, errW_some] <;> rfl) | (simp [*, errW_none, errW_some] <;> rfl), pb_ HB⟩
   ·
    replace c8 := Bool.eq_false_iff.mpr c8
    subst c8
    have H1 : ((platbookref03_Has.f k a0_0 a0_1 a0_2 a0_3 a1_0 a1_1 a1_2).bind fun t275 => (some t275)) = some r := by rw [if_neg (show ¬ (false = true) by decide)] at H; exact H
    clear H
    have H := H1
    clear H1
    replace H := Option.bind_eq_some_iff.mp H
    obtain ⟨t275, A190, H⟩ := H
    replace H : (some t275) = some r := H
    have A19 := Aside0.mk A190
    clear A190
    obtain rfl := Option.some.inj H
    go_enter Tryz.func44, Tryz.ntmps44
    go_wp2_with (first | ((with_reducible refine gate_dst (N := 2) rfl ?_); refine bx_ 2 #[.bool a0_0, .int .u64 a0_1, .int .u64 a0_2, .int .i64 a0_3] 38 ?_; intro gb270 hg w20 hbox hb; have BK270 := Aside0.mk (hbox); have GW270 := gw_ HB hg; have GE270 := gw_ HB hg; replace HB := bs_ HB hb; clear hb hbox hg) | ((with_reducible refine gate_dst (N := 3) rfl ?_); refine bx_ 3 #[.bool a1_0, .int .u64 a1_1, .int .u64 a1_2, .int .i64 a1_3] 38 ?_; intro gb271 hg w21 hbox hb; have BK271 := Aside0.mk (hbox); have GW271 := gw_ HB hg; have GE271 := gw_ HB hg; have NB270_271 := nl_ BK270 hg; have NB271_270 := ng_ BK270 hg; replace BK270 := bb_ BK270 hb; replace HB := bs_ HB hb; clear hb hbox hg; have hnb22 := NB270_271.out; have hnc22 := NB271_270.out; obtain ⟨hcz23_0, hcz23_1, hcz23_2, hcz23_3, hfz23_0, hfz23_1, hfz23_2, hfz23_3⟩ := c4_ BK270) | ((with_reducible refine gate_callee (f := 29) rfl ?_); refine gl_ (some 6) Tryz.func29 #[.agg #[.bool a0_0, .int .u64 a0_1, .int .u64 a0_2, .int .i64 a0_3]] ?_; (with_reducible refine (platbookref03_Right.calls k a0_0 a0_1 a0_2 a0_3 true _ A3.out).mono ?_); rintro e w24 ⟨rfl, hb⟩; refine ⟨_, rfl, ?_⟩; replace BK270 := bb_ BK270 hb; replace BK271 := bb_ BK271 hb; replace HB := bs_ HB hb; (try clear hb); (try clear hb2); (try clear hk); (try clear hi); obtain ⟨hcz25_0, hcz25_1, hcz25_2, hcz25_3, hfz25_0, hfz25_1, hfz25_2, hfz25_3⟩ := c4_ BK271) | (go_at_call 29; (with_reducible refine (platbookref03_Right.calls k a1_0 a1_1 a1_2 a1_3 true _ A5.out).mono ?_); rintro e w26 ⟨rfl, hb⟩; replace BK270 := bb_ BK270 hb; replace BK271 := bb_ BK271 hb; replace HB := bs_ HB hb; (try clear hb); (try clear hb2); (try clear hk); (try clear hi); obtain ⟨hcz27_0, hcz27_1, hcz27_2, hcz27_3, hfz27_0, hfz27_1, hfz27_2, hfz27_3⟩ := c4_ BK271; obtain ⟨hcz28_0, hcz28_1, hcz28_2, hcz28_3, hfz28_0, hfz28_1, hfz28_2, hfz28_3⟩ := c4_ BK270) | (go_at_call 41; (with_reducible refine (platbookref03_Has.calls k a1_0 a1_1 a1_2 a1_3 a0_0 a0_1 a0_2 false _ A7.out).mono ?_); rintro e w29 ⟨rfl, hb⟩; replace BK270 := bb_ BK270 hb; replace BK271 := bb_ BK271 hb; replace HB := bs_ HB hb; (try clear hb); (try clear hb2); (try clear hk); (try clear hi); obtain ⟨hcz30_0, hcz30_1, hcz30_2, hcz30_3, hfz30_0, hfz30_1, hfz30_2, hfz30_3⟩ := c4_ BK270; obtain ⟨hcz31_0, hcz31_1, hcz31_2, hcz31_3, hfz31_0, hfz31_1, hfz31_2, hfz31_3⟩ := c4_ BK271) | (go_at_call 41; (with_reducible refine (platbookref03_Has.calls k a0_0 a0_1 a0_2 a0_3 a1_0 a1_1 a1_2 t275 _ A19.out).mono ?_); rintro e w32 ⟨rfl, hb⟩; replace BK270 := bb_ BK270 hb; replace BK271 := bb_ BK271 hb; replace HB := bs_ HB hb; (try clear hb); (try clear hb2); (try clear hk); (try clear hi)))
    go_ret
    exact ⟨by first | rfl | (simp [errW_none, errW_some] <;> rfl) | (simp [*, errW_none, errW_some] <;> rfl), pb_ HB⟩
  ·
   replace c6 := Bool.eq_false_iff.mpr c6
   subst c6
   have H1 : (some false) = some r := by rw [if_neg (show ¬ (false = true) by decide)] at H; exact H
   clear H
   have H := H1
   clear H1
   obtain rfl := Option.some.inj H
   go_enter Tryz.func44, Tryz.ntmps44
   go_wp2_with (first | ((with_reducible refine gate_dst (N := 2) rfl ?_); refine bx_ 2 #[.bool a0_0, .int .u64 a0_1, .int .u64 a0_2, .int .i64 a0_3] 38 ?_; intro gb270 hg w33 hbox hb; have BK270 := Aside0.mk (hbox); have GW270 := gw_ HB hg; have GE270 := gw_ HB hg; replace HB := bs_ HB hb; clear hb hbox hg) | ((with_reducible refine gate_dst (N := 3) rfl ?_); refine bx_ 3 #[.bool a1_0, .int .u64 a1_1, .int .u64 a1_2, .int .i64 a1_3] 38 ?_; intro gb271 hg w34 hbox hb; have BK271 := Aside0.mk (hbox); have GW271 := gw_ HB hg; have GE271 := gw_ HB hg; have NB270_271 := nl_ BK270 hg; have NB271_270 := ng_ BK270 hg; replace BK270 := bb_ BK270 hb; replace HB := bs_ HB hb; clear hb hbox hg; have hnb35 := NB270_271.out; have hnc35 := NB271_270.out; obtain ⟨hcz36_0, hcz36_1, hcz36_2, hcz36_3, hfz36_0, hfz36_1, hfz36_2, hfz36_3⟩ := c4_ BK270) | ((with_reducible refine gate_callee (f := 29) rfl ?_); refine gl_ (some 6) Tryz.func29 #[.agg #[.bool a0_0, .int .u64 a0_1, .int .u64 a0_2, .int .i64 a0_3]] ?_; (with_reducible refine (platbookref03_Right.calls k a0_0 a0_1 a0_2 a0_3 true _ A3.out).mono ?_); rintro e w37 ⟨rfl, hb⟩; refine ⟨_, rfl, ?_⟩; replace BK270 := bb_ BK270 hb; replace BK271 := bb_ BK271 hb; replace HB := bs_ HB hb; (try clear hb); (try clear hb2); (try clear hk); (try clear hi); obtain ⟨hcz38_0, hcz38_1, hcz38_2, hcz38_3, hfz38_0, hfz38_1, hfz38_2, hfz38_3⟩ := c4_ BK271) | (go_at_call 29; (with_reducible refine (platbookref03_Right.calls k a1_0 a1_1 a1_2 a1_3 false _ A5.out).mono ?_); rintro e w39 ⟨rfl, hb⟩; replace BK270 := bb_ BK270 hb; replace BK271 := bb_ BK271 hb; replace HB := bs_ HB hb; (try clear hb); (try clear hb2); (try clear hk); (try clear hi)))
   go_ret
   exact ⟨by first | rfl | (simp [errW_none, errW_some] <;> rfl) | (simp [*, errW_none, errW_some] <;> rfl), pb_ HB⟩
 ·
  replace c4 := Bool.eq_false_iff.mpr c4
  subst c4
  have H1 : (some false) = some r := by rw [if_neg (show ¬ (false = true) by decide)] at H; exact H
  clear H
  have H := H1
  clear H1
  obtain rfl := Option.some.inj H
  go_enter Tryz.func44, Tryz.ntmps44
  go_wp2_with (first | ((with_reducible refine gate_dst (N := 2) rfl ?_); refine bx_ 2 #[.bool a0_0, .int .u64 a0_1, .int .u64 a0_2, .int .i64 a0_3] 38 ?_; intro gb270 hg w40 hbox hb; have BK270 := Aside0.mk (hbox); have GW270 := gw_ HB hg; have GE270 := gw_ HB hg; replace HB := bs_ HB hb; clear hb hbox hg) | ((with_reducible refine gate_dst (N := 3) rfl ?_); refine bx_ 3 #[.bool a1_0, .int .u64 a1_1, .int .u64 a1_2, .int .i64 a1_3] 38 ?_; intro gb271 hg w41 hbox hb; have BK271 := Aside0.mk (hbox); have GW271 := gw_ HB hg; have GE271 := gw_ HB hg; have NB270_271 := nl_ BK270 hg; have NB271_270 := ng_ BK270 hg; replace BK270 := bb_ BK270 hb; replace HB := bs_ HB hb; clear hb hbox hg; have hnb42 := NB270_271.out; have hnc42 := NB271_270.out; obtain ⟨hcz43_0, hcz43_1, hcz43_2, hcz43_3, hfz43_0, hfz43_1, hfz43_2, hfz43_3⟩ := c4_ BK270) | ((with_reducible refine gate_callee (f := 29) rfl ?_); refine gl_ (some 6) Tryz.func29 #[.agg #[.bool a0_0, .int .u64 a0_1, .int .u64 a0_2, .int .i64 a0_3]] ?_; (with_reducible refine (platbookref03_Right.calls k a0_0 a0_1 a0_2 a0_3 false _ A3.out).mono ?_); rintro e w44 ⟨rfl, hb⟩; refine ⟨_, rfl, ?_⟩; replace BK270 := bb_ BK270 hb; replace BK271 := bb_ BK271 hb; replace HB := bs_ HB hb; (try clear hb); (try clear hb2); (try clear hk); (try clear hi)))
  go_ret
  exact ⟨by first | rfl | (simp [errW_none, errW_some] <;> rfl) | (simp [*, errW_none, errW_some] <;> rfl), pb_ HB⟩

def platbooklaw03_PrefixHas.j0 : Nat → Int → Int → Bool → Int → Int → Int → Bool → Int → Int → Int → Bool → Int → Int → Bool → Int → Int → Int → Bool → Int → Int → Int → Bool → Int → Int → Option (Bool)
 | 0, _, _, _, _, _, _, _, _, _, _, _, _, _, _, _, _, _, _, _, _, _, _, _, _ => none
 | k + 1, x10, x12, x277000, x277001, x277002, x277003, x278000, x278001, x278002, x278003, x279000, x279001, x279002, x286000, x286001, x286002, x286003, x292000, x292001, x292002, x292003, x293000, x293001, x293002 => if ((x286000 == x292000 && ((x286001 == x292001 && (x286002 == x292002)))) && (x286003 == x292003)) = true then (if x10 = x12 then ((prefix_Right.f x277000 x277001 x277002 x277003).bind fun t294 => ((platbookref03_Right.f k x277000 x277001 x277002 x277003).bind fun t295 => (if (t294 == t295) = true then ((prefix_First.f x277000 x277001 x277002 x277003).bind fun bt296 => (if (bt296.1 == x293000 && ((bt296.2.1 == x293001 && (bt296.2.2 == x293002)))) = true then ((prefix_Last.f x277000 x277001 x277002 x277003).bind fun bt299 => ((platbookref03_Last.f k x277000 x277001 x277002 x277003).bind fun bt302 => (if (bt299.1 == bt302.1 && ((bt299.2.1 == bt302.2.1 && (bt299.2.2 == bt302.2.2)))) = true then ((prefix_Has.f k x277000 x277001 x277002 x277003 x279000 x279001 x279002).bind fun t305 => ((platbookref03_Has.f k x277000 x277001 x277002 x277003 x279000 x279001 x279002).bind fun t306 => (if (t305 == t306) = true then ((prefix_Within.f k x277000 x277001 x277002 x277003 x278000 x278001 x278002 x278003).bind fun t307 => ((platbookref03_Within.f k x277000 x277001 x277002 x277003 x278000 x278001 x278002 x278003).bind fun t308 => (if (t307 == t308) = true then ((prefix_Overlap.f k x277000 x277001 x277002 x277003 x278000 x278001 x278002 x278003).bind fun t309 => ((platbookref03_Overlap.f k x277000 x277001 x277002 x277003 x278000 x278001 x278002 x278003).bind fun t310 => (some (t309 == t310)))) else (some false)))) else (some false)))) else (some false)))) else (some false))) else (some false)))) else (some false)) else (some false)
def platbooklaw03_PrefixHas.f (k : Nat) (a0_0 : Bool) (a0_1 : Int) (a0_2 : Int) (a0_3 : Int) (a1_0 : Bool) (a1_1 : Int) (a1_2 : Int) (a1_3 : Int) (a2_0 : Bool) (a2_1 : Int) (a2_2 : Int) (a3 : Int) : Option (Bool) := (platbooklaw03_awake.f).bind fun t279 => (if t279 = true then ((prefix_Of.f k a2_0 a2_1 a2_2 a3).bind fun bt280 => ((platbookref03_Of.f k a2_0 a2_1 a2_2 a3).bind fun bt286 => ((platbookref03_Right.f k a0_0 a0_1 a0_2 a0_3).bind fun t293 => (if t293 = true then (platbooklaw03_PrefixHas.j0 k bt280.2.2.2.2 bt286.2.2.2.2 a0_0 a0_1 a0_2 a0_3 a1_0 a1_1 a1_2 a1_3 a2_0 a2_1 a2_2 bt280.1 bt280.2.1 bt280.2.2.1 bt280.2.2.2.1 bt286.1 bt286.2.1 bt286.2.2.1 bt286.2.2.2.1 a0_0 a0_1 a0_2) else (platbooklaw03_PrefixHas.j0 k bt280.2.2.2.2 bt286.2.2.2.2 a0_0 a0_1 a0_2 a0_3 a1_0 a1_1 a1_2 a1_3 a2_0 a2_1 a2_2 bt280.1 bt280.2.1 bt280.2.2.1 bt280.2.2.2.1 bt286.1 bt286.2.1 bt286.2.2.1 bt286.2.2.2.1 false 0 0))))) else (some false))
def platbooklaw03_PrefixHas.T8 : Bool × List (List Nat × List Nat) := (true, [([], []), ([], []), ([0, 1], [0, 1]), ([2], [2]), ([3], [3]), ([3], [3]), ([4, 5, 3], [3, 4, 5]), ([3, 6], [3, 6]), ([7, 3], [7]), ([8], [8]), ([9, 8, 8], [8, 9]), ([8], [8]), ([11, 10, 8], [8, 11]), ([10, 12, 8], [8, 10, 12]), ([8, 13], [8, 13]), ([14, 12], [14]), ([15], [15]), ([16, 15, 15], [15, 16]), ([15], [15]), ([17, 18, 15], [15, 17, 18]), ([15, 19], [15, 19]), ([20, 17], [20]), ([21], [21]), ([22, 21, 21], [21, 22]), ([21], [21]), ([24, 23, 21], [21, 24]), ([23, 25, 21], [21, 23, 25]), ([21, 26], [21, 26]), ([27, 25], [27]), ([28], [28]), ([28], [28]), ([29, 30, 28, 28], [28, 29, 30]), ([28], [28]), ([28], [28]), ([32, 33, 31, 28], [28, 32, 33]), ([31, 34, 28], [28, 31, 34]), ([28, 35], [28, 35]), ([36, 34], [36]), ([37], [37]), ([37], [37]), ([38, 39, 37, 37], [37, 38, 39]), ([37], [37]), ([37], [37]), ([41, 42, 40, 37], [37, 41, 42]), ([40, 43, 37], [37, 40, 43]), ([37, 44], [37, 44]), ([45, 43], [45]), ([46], [46]), ([46], [46]), ([47, 48, 46, 46], [46, 47, 48]), ([46], [46]), ([46], [46]), ([50, 51, 49, 46], [46, 50, 51]), ([49, 52, 46], [46, 49, 52]), ([46, 53], [46, 53]), ([54, 52, 0, 1, 2, 3, 4, 5, 6, 7, 8, 9, 10, 11, 12, 13, 14, 15, 16, 17, 18, 19, 20, 21, 22, 23, 24, 25, 26, 27, 28, 29, 30, 31, 32, 33, 34, 35, 36, 37, 38, 39, 40, 41, 42, 43, 44, 45, 46, 47, 48, 49, 50, 51, 52, 53, 54], [54])])
def platbooklaw03_PrefixHas.B8 : List Nat := [0, 0, 3, 7, 15, 15, 63, 127, 255, 511, 1023, 511, 4095, 8191, 16383, 32767, 65535, 131071, 65535, 524287, 1048575, 2097151, 4194303, 8388607, 4194303, 33554431, 67108863, 134217727, 268435455, 536870911, 536870911, 2147483647, 536870911, 536870911, 17179869183, 34359738367, 68719476735, 137438953471, 274877906943, 274877906943, 1099511627775, 274877906943, 274877906943, 8796093022207, 17592186044415, 35184372088831, 70368744177663, 140737488355327, 140737488355327, 562949953421311, 140737488355327, 140737488355327, 4503599627370495, 9007199254740991, 18014398509481983, 36028797018963967]
theorem platbooklaw03_PrefixHas.tab8 : rtab .any (opsOf Tryz.f6 8) = platbooklaw03_PrefixHas.T8 := by kernel_rfl
theorem platbooklaw03_PrefixHas.bits8 : waitsOk platbooklaw03_PrefixHas.T8.2 platbooklaw03_PrefixHas.B8 = true := by kernel_rfl
set_option maxHeartbeats 8000000 in
set_option maxRecDepth 100000 in
theorem platbooklaw03_PrefixHas.calls (k : Nat) (a0_0 : Bool) (a0_1 : Int) (a0_2 : Int) (a0_3 : Int) (a1_0 : Bool) (a1_1 : Int) (a1_2 : Int) (a1_3 : Int) (a2_0 : Bool) (a2_1 : Int) (a2_2 : Int) (a3 : Int) (r : Bool) (w : World) (hG : Glob w) (hrt : r = true) (h : platbooklaw03_PrefixHas.f k a0_0 a0_1 a0_2 a0_3 a1_0 a1_1 a1_2 a1_3 a2_0 a2_1 a2_2 a3 = some r) :
  Calls Tryz.prog 6 #[.agg #[.bool a0_0, .int .u64 a0_1, .int .u64 a0_2, .int .i64 a0_3], .agg #[.bool a1_0, .int .u64 a1_1, .int .u64 a1_2, .int .i64 a1_3], .agg #[.bool a2_0, .int .u64 a2_1, .int .u64 a2_2], .int .i64 a3] w fun e w' => e = .returned (.bool r) ∧ Below w.heap.size w w' := by
 have hu38 := Tryz.underlying38
 have hu26 := Tryz.underlying26
 have HGLB := Aside0.mk hG
 clear hG
 have HRT := Aside0.mk hrt
 clear hrt
 have HB := Aside0.mk (Below.refl w.heap.size w)
 have H : ((platbooklaw03_awake.f).bind fun t279 => (if t279 = true then ((prefix_Of.f k a2_0 a2_1 a2_2 a3).bind fun bt280 => ((platbookref03_Of.f k a2_0 a2_1 a2_2 a3).bind fun bt286 => ((platbookref03_Right.f k a0_0 a0_1 a0_2 a0_3).bind fun t293 => (if t293 = true then (platbooklaw03_PrefixHas.j0 k bt280.2.2.2.2 bt286.2.2.2.2 a0_0 a0_1 a0_2 a0_3 a1_0 a1_1 a1_2 a1_3 a2_0 a2_1 a2_2 bt280.1 bt280.2.1 bt280.2.2.1 bt280.2.2.2.1 bt286.1 bt286.2.1 bt286.2.2.1 bt286.2.2.2.1 a0_0 a0_1 a0_2) else (platbooklaw03_PrefixHas.j0 k bt280.2.2.2.2 bt286.2.2.2.2 a0_0 a0_1 a0_2 a0_3 a1_0 a1_1 a1_2 a1_3 a2_0 a2_1 a2_2 bt280.1 bt280.2.1 bt280.2.2.1 bt280.2.2.2.1 bt286.1 bt286.2.1 bt286.2.2.1 bt286.2.2.2.1 false 0 0))))) else (some false))) = some r := h
 clear h
 replace H := Option.bind_eq_some_iff.mp H
 obtain ⟨t279, A50, H⟩ := H
 replace H : (if t279 = true then ((prefix_Of.f k a2_0 a2_1 a2_2 a3).bind fun bt280 => ((platbookref03_Of.f k a2_0 a2_1 a2_2 a3).bind fun bt286 => ((platbookref03_Right.f k a0_0 a0_1 a0_2 a0_3).bind fun t293 => (if t293 = true then (platbooklaw03_PrefixHas.j0 k bt280.2.2.2.2 bt286.2.2.2.2 a0_0 a0_1 a0_2 a0_3 a1_0 a1_1 a1_2 a1_3 a2_0 a2_1 a2_2 bt280.1 bt280.2.1 bt280.2.2.1 bt280.2.2.2.1 bt286.1 bt286.2.1 bt286.2.2.1 bt286.2.2.2.1 a0_0 a0_1 a0_2) else (platbooklaw03_PrefixHas.j0 k bt280.2.2.2.2 bt286.2.2.2.2 a0_0 a0_1 a0_2 a0_3 a1_0 a1_1 a1_2 a1_3 a2_0 a2_1 a2_2 bt280.1 bt280.2.1 bt280.2.2.1 bt280.2.2.2.1 bt286.1 bt286.2.1 bt286.2.2.1 bt286.2.2.2.1 false 0 0))))) else (some false)) = some r := H
 have A5 := Aside0.mk A50
 clear A50
 by_cases c6 : t279 = true
 ·
  subst c6
  rw [if_pos rfl] at H
  replace H := Option.bind_eq_some_iff.mp H
  obtain ⟨⟨t280, t281, t282, t283, t284⟩, A70, H⟩ := H
  replace H : ((platbookref03_Of.f k a2_0 a2_1 a2_2 a3).bind fun bt286 => ((platbookref03_Right.f k a0_0 a0_1 a0_2 a0_3).bind fun t293 => (if t293 = true then (platbooklaw03_PrefixHas.j0 k t284 bt286.2.2.2.2 a0_0 a0_1 a0_2 a0_3 a1_0 a1_1 a1_2 a1_3 a2_0 a2_1 a2_2 t280 t281 t282 t283 bt286.1 bt286.2.1 bt286.2.2.1 bt286.2.2.2.1 a0_0 a0_1 a0_2) else (platbooklaw03_PrefixHas.j0 k t284 bt286.2.2.2.2 a0_0 a0_1 a0_2 a0_3 a1_0 a1_1 a1_2 a1_3 a2_0 a2_1 a2_2 t280 t281 t282 t283 bt286.1 bt286.2.1 bt286.2.2.1 bt286.2.2.2.1 false 0 0)))) = some r := H
  have A7 := Aside0.mk A70
  clear A70
  replace H := Option.bind_eq_some_iff.mp H
  obtain ⟨⟨t286, t287, t288, t289, t290⟩, A80, H⟩ := H
  replace H : ((platbookref03_Right.f k a0_0 a0_1 a0_2 a0_3).bind fun t293 => (if t293 = true then (platbooklaw03_PrefixHas.j0 k t284 t290 a0_0 a0_1 a0_2 a0_3 a1_0 a1_1 a1_2 a1_3 a2_0 a2_1 a2_2 t280 t281 t282 t283 t286 t287 t288 t289 a0_0 a0_1 a0_2) else (platbooklaw03_PrefixHas.j0 k t284 t290 a0_0 a0_1 a0_2 a0_3 a1_0 a1_1 a1_2 a1_3 a2_0 a2_1 a2_2 t280 t281 t282 t283 t286 t287 t288 t289 false 0 0))) = some r := H
  have A8 := Aside0.mk A80
  clear A80
  replace H := Option.bind_eq_some_iff.mp H
  obtain ⟨t293, A90, H⟩ := H
  replace H : (if t293 = true then (platbooklaw03_PrefixHas.j0 k t284 t290 a0_0 a0_1 a0_2 a0_3 a1_0 a1_1 a1_2 a1_3 a2_0 a2_1 a2_2 t280 t281 t282 t283 t286 t287 t288 t289 a0_0 a0_1 a0_2) else (platbooklaw03_PrefixHas.j0 k t284 t290 a0_0 a0_1 a0_2 a0_3 a1_0 a1_1 a1_2 a1_3 a2_0 a2_1 a2_2 t280 t281 t282 t283 t286 t287 t288 t289 false 0 0)) = some r := H
  have A9 := Aside0.mk A90
  clear A90
  have HC10 := Aside0.mk H
  clear H
  go_enter Tryz.func6, Tryz.ntmps6
  go_upto_if 30 with (first | ((with_reducible refine gate_dst (N := 4) rfl ?_); refine bx_ 4 #[.bool a0_0, .int .u64 a0_1, .int .u64 a0_2, .int .i64 a0_3] 38 ?_; intro gb276 hg w11 hbox hb; have BK276 := Aside0.mk (hbox); have GW276 := gw_ HB hg; have GE276 := gw_ HB hg; replace HB := bs_ HB hb; clear hb hbox hg) | ((with_reducible refine gate_dst (N := 5) rfl ?_); refine bx_ 5 #[.bool a1_0, .int .u64 a1_1, .int .u64 a1_2, .int .i64 a1_3] 38 ?_; intro gb277 hg w12 hbox hb; have BK277 := Aside0.mk (hbox); have GW277 := gw_ HB hg; have GE277 := gw_ HB hg; have NB276_277 := nl_ BK276 hg; have NB277_276 := ng_ BK276 hg; replace BK276 := bb_ BK276 hb; replace HB := bs_ HB hb; clear hb hbox hg) | ((with_reducible refine gate_dst (N := 6) rfl ?_); refine bx_ 6 #[.bool a2_0, .int .u64 a2_1, .int .u64 a2_2] 26 ?_; intro gb278 hg w13 hbox hb; have BK278 := Aside0.mk (hbox); have GW278 := gw_ HB hg; have GE278 := gw_ HB hg; have NB276_278 := nl_ BK276 hg; have NB278_276 := ng_ BK276 hg; have NB277_278 := nl_ BK277 hg; have NB278_277 := ng_ BK277 hg; replace BK276 := bb_ BK276 hb; replace BK277 := bb_ BK277 hb; replace HB := bs_ HB hb; clear hb hbox hg) | ((with_reducible refine gate_callee (f := 24) rfl ?_); refine gl_ (some 14) Tryz.func24 #[] ?_; (with_reducible refine (platbooklaw03_awake.calls  true _ ?side1 rfl A5.out).mono ?_); (case side1 => exact glob_keep HGLB.out (pb_ HB)); rintro e w14 ⟨rfl, hb⟩; refine ⟨_, rfl, ?_⟩; replace BK276 := bb_ BK276 hb; replace BK277 := bb_ BK277 hb; replace BK278 := bb_ BK278 hb; replace HB := bs_ HB hb; (try clear hb); (try clear hb2); (try clear hk); (try clear hi); have hnb15 := NB278_276.out; have hnc15 := NB276_278.out; have hnb16 := NB278_277.out; have hnc16 := NB277_278.out; obtain ⟨hcz17_0, hcz17_1, hcz17_2, hfz17_0, hfz17_1, hfz17_2⟩ := c3_ BK278) | ((with_reducible refine gate_callee (f := 34) rfl ?_); refine gl_ (some 19) Tryz.func34 #[.agg #[.bool a2_0, .int .u64 a2_1, .int .u64 a2_2], .int .i64 a3] ?_; (with_reducible refine (prefix_Of.calls k a2_0 a2_1 a2_2 a3 t280 t281 t282 t283 t284 _ A7.out).mono ?_); rintro e w18 ⟨rfl, hb⟩; refine ⟨_, rfl, ?_⟩; replace BK276 := bb_ BK276 hb; replace BK277 := bb_ BK277 hb; replace BK278 := bb_ BK278 hb; replace HB := bs_ HB hb; (try clear hb); (try clear hb2); (try clear hk); (try clear hi)) | ((with_reducible refine gate_dst (N := 9) rfl ?_); refine bx_ 9 #[.bool false, .int .u64 0, .int .u64 0, .int .i64 0] 38 ?_; intro gb285 hg w19 hbox hb; have BK285 := Aside0.mk (hbox); have GW285 := gw_ HB hg; have GE285 := gw_ HB hg; have NB276_285 := nl_ BK276 hg; have NB285_276 := ng_ BK276 hg; have NB277_285 := nl_ BK277 hg; have NB285_277 := ng_ BK277 hg; have NB278_285 := nl_ BK278 hg; have NB285_278 := ng_ BK278 hg; replace BK276 := bb_ BK276 hb; replace BK277 := bb_ BK277 hb; replace BK278 := bb_ BK278 hb; replace HB := bs_ HB hb; clear hb hbox hg; have hnb20 := NB285_276.out; have hnc20 := NB276_285.out; have hnb21 := NB285_277.out; have hnc21 := NB277_285.out; have hnb22 := NB285_278.out; have hnc22 := NB278_285.out; obtain ⟨hcz23_0, hcz23_1, hcz23_2, hcz23_3, hfz23_0, hfz23_1, hfz23_2, hfz23_3⟩ := c4_ BK285; obtain ⟨hcz24_0, hcz24_1, hcz24_2, hfz24_0, hfz24_1, hfz24_2⟩ := c3_ BK278) | ((with_reducible refine gate_callee (f := 35) rfl ?_); refine gl_ (some 25) Tryz.func35 #[.agg #[.bool a2_0, .int .u64 a2_1, .int .u64 a2_2], .int .i64 a3] ?_; (with_reducible refine (platbookref03_Of.calls k a2_0 a2_1 a2_2 a3 t286 t287 t288 t289 t290 _ A8.out).mono ?_); rintro e w25 ⟨rfl, hb⟩; refine ⟨_, rfl, ?_⟩; replace BK276 := Aside0.mk (blk_below (g := gb276) (o := .cells #[.bool a0_0, .int .u64 a0_1, .int .u64 a0_2, .int .i64 a0_3] 38 (0, 0)) (by refine pw_ ?_; refine blk_far ?_ NB276_285.out _; refine pw_ ?_; refine blk_far ?_ NB276_285.out _; refine pw_ ?_; refine blk_far ?_ NB276_285.out _; refine pw_ ?_; refine blk_far ?_ NB276_285.out _; refine pw_ ?_; exact BK276.out) hb); replace BK277 := Aside0.mk (blk_below (g := gb277) (o := .cells #[.bool a1_0, .int .u64 a1_1, .int .u64 a1_2, .int .i64 a1_3] 38 (0, 0)) (by refine pw_ ?_; refine blk_far ?_ NB277_285.out _; refine pw_ ?_; refine blk_far ?_ NB277_285.out _; refine pw_ ?_; refine blk_far ?_ NB277_285.out _; refine pw_ ?_; refine blk_far ?_ NB277_285.out _; refine pw_ ?_; exact BK277.out) hb); replace BK278 := Aside0.mk (blk_below (g := gb278) (o := .cells #[.bool a2_0, .int .u64 a2_1, .int .u64 a2_2] 26 (0, 0)) (by refine pw_ ?_; refine blk_far ?_ NB278_285.out _; refine pw_ ?_; refine blk_far ?_ NB278_285.out _; refine pw_ ?_; refine blk_far ?_ NB278_285.out _; refine pw_ ?_; refine blk_far ?_ NB278_285.out _; refine pw_ ?_; exact BK278.out) hb); replace BK285 := Aside0.mk (blk_below (g := gb285) (o := .cells #[.bool t280, .int .u64 t281, .int .u64 t282, .int .i64 t283] 38 (0, 0)) (by refine pw_ ?_; refine blk_put (cs := #[.bool t280, .int .u64 t281, .int .u64 t282, .int .i64 0]) ?_ 3 _ rfl; refine pw_ ?_; refine blk_put (cs := #[.bool t280, .int .u64 t281, .int .u64 0, .int .i64 0]) ?_ 2 _ rfl; refine pw_ ?_; refine blk_put (cs := #[.bool t280, .int .u64 0, .int .u64 0, .int .i64 0]) ?_ 1 _ rfl; refine pw_ ?_; refine blk_put (cs := #[.bool false, .int .u64 0, .int .u64 0, .int .i64 0]) ?_ 0 _ rfl; refine pw_ ?_; exact BK285.out) hb); replace HB := bs_ HB hb; (try clear hb); (try clear hb2); (try clear hk); (try clear hi)) | ((with_reducible refine gate_dst (N := 11) rfl ?_); refine bx_ 11 #[.bool false, .int .u64 0, .int .u64 0, .int .i64 0] 38 ?_; intro gb291 hg w26 hbox hb; have BK291 := Aside0.mk (hbox); have GW291 := gw_ HB hg; have GE291 := gw_ HB hg; have NB276_291 := nl_ BK276 hg; have NB291_276 := ng_ BK276 hg; have NB277_291 := nl_ BK277 hg; have NB291_277 := ng_ BK277 hg; have NB278_291 := nl_ BK278 hg; have NB291_278 := ng_ BK278 hg; have NB285_291 := nl_ BK285 hg; have NB291_285 := ng_ BK285 hg; replace BK276 := bb_ BK276 hb; replace BK277 := bb_ BK277 hb; replace BK278 := bb_ BK278 hb; replace BK285 := bb_ BK285 hb; replace HB := bs_ HB hb; clear hb hbox hg; have hnb27 := NB291_276.out; have hnc27 := NB276_291.out; have hnb28 := NB291_277.out; have hnc28 := NB277_291.out; have hnb29 := NB291_278.out; have hnc29 := NB278_291.out; have hnb30 := NB291_285.out; have hnc30 := NB285_291.out; obtain ⟨hcz31_0, hcz31_1, hcz31_2, hcz31_3, hfz31_0, hfz31_1, hfz31_2, hfz31_3⟩ := c4_ BK291) | ((with_reducible refine gate_dst (N := 13) rfl ?_); refine bx_ 13 #[.bool false, .int .u64 0, .int .u64 0] 26 ?_; intro gb292 hg w32 hbox hb; have BK292 := Aside0.mk (hbox); have GW292 := gw_ HB hg; have GE292 := gw_ HB hg; have NB276_292 := Aside0.mk ((by rw [hg]; exact Nat.ne_of_lt (blk_lt (g := gb276) (o := .cells #[.bool a0_0, .int .u64 a0_1, .int .u64 a0_2, .int .i64 a0_3] 38 (0, 0)) (by refine pw_ ?_; refine blk_far ?_ NB276_291.out _; refine pw_ ?_; refine blk_far ?_ NB276_291.out _; refine pw_ ?_; refine blk_far ?_ NB276_291.out _; refine pw_ ?_; refine blk_far ?_ NB276_291.out _; refine pw_ ?_; exact BK276.out)) : gb276 ≠ gb292)); have NB292_276 := Aside0.mk ((by rw [hg]; exact Nat.ne_of_gt (blk_lt (g := gb276) (o := .cells #[.bool a0_0, .int .u64 a0_1, .int .u64 a0_2, .int .i64 a0_3] 38 (0, 0)) (by refine pw_ ?_; refine blk_far ?_ NB276_291.out _; refine pw_ ?_; refine blk_far ?_ NB276_291.out _; refine pw_ ?_; refine blk_far ?_ NB276_291.out _; refine pw_ ?_; refine blk_far ?_ NB276_291.out _; refine pw_ ?_; exact BK276.out)) : gb292 ≠ gb276)); have NB277_292 := Aside0.mk ((by rw [hg]; exact Nat.ne_of_lt (blk_lt (g := gb277) (o := .cells #[.bool a1_0, .int .u64 a1_1, .int .u64 a1_2, .int .i64 a1_3] 38 (0, 0)) (by refine pw_ ?_; refine blk_far ?_ NB277_291.out _; refine pw_ ?_; refine blk_far ?_ NB277_291.out _; refine pw_ ?_; refine blk_far ?_ NB277_291.out _; refine pw_ ?_; refine blk_far ?_ NB277_291.out _; refine pw_ ?_; exact BK277.out)) : gb277 ≠ gb292)); have NB292_277 := Aside0.mk ((by rw [hg]; exact Nat.ne_of_gt (blk_lt (g := gb277) (o := .cells #[.bool a1_0, .int .u64 a1_1, .int .u64 a1_2, .int .i64 a1_3] 38 (0, 0)) (by refine pw_ ?_; refine blk_far ?_ NB277_291.out _; refine pw_ ?_; refine blk_far ?_ NB277_291.out _; refine pw_ ?_; refine blk_far ?_ NB277_291.out _; refine pw_ ?_; refine blk_far ?_ NB277_291.out _; refine pw_ ?_; exact BK277.out)) : gb292 ≠ gb277)); have NB278_292 := Aside0.mk ((by rw [hg]; exact Nat.ne_of_lt (blk_lt (g := gb278) (o := .cells #[.bool a2_0, .int .u64 a2_1, .int .u64 a2_2] 26 (0, 0)) (by refine pw_ ?_; refine blk_far ?_ NB278_291.out _; refine pw_ ?_; refine blk_far ?_ NB278_291.out _; refine pw_ ?_; refine blk_far ?_ NB278_291.out _; refine pw_ ?_; refine blk_far ?_ NB278_291.out _; refine pw_ ?_; exact BK278.out)) : gb278 ≠ gb292)); have NB292_278 := Aside0.mk ((by rw [hg]; exact Nat.ne_of_gt (blk_lt (g := gb278) (o := .cells #[.bool a2_0, .int .u64 a2_1, .int .u64 a2_2] 26 (0, 0)) (by refine pw_ ?_; refine blk_far ?_ NB278_291.out _; refine pw_ ?_; refine blk_far ?_ NB278_291.out _; refine pw_ ?_; refine blk_far ?_ NB278_291.out _; refine pw_ ?_; refine blk_far ?_ NB278_291.out _; refine pw_ ?_; exact BK278.out)) : gb292 ≠ gb278)); have NB285_292 := Aside0.mk ((by rw [hg]; exact Nat.ne_of_lt (blk_lt (g := gb285) (o := .cells #[.bool t280, .int .u64 t281, .int .u64 t282, .int .i64 t283] 38 (0, 0)) (by refine pw_ ?_; refine blk_far ?_ NB285_291.out _; refine pw_ ?_; refine blk_far ?_ NB285_291.out _; refine pw_ ?_; refine blk_far ?_ NB285_291.out _; refine pw_ ?_; refine blk_far ?_ NB285_291.out _; refine pw_ ?_; exact BK285.out)) : gb285 ≠ gb292)); have NB292_285 := Aside0.mk ((by rw [hg]; exact Nat.ne_of_gt (blk_lt (g := gb285) (o := .cells #[.bool t280, .int .u64 t281, .int .u64 t282, .int .i64 t283] 38 (0, 0)) (by refine pw_ ?_; refine blk_far ?_ NB285_291.out _; refine pw_ ?_; refine blk_far ?_ NB285_291.out _; refine pw_ ?_; refine blk_far ?_ NB285_291.out _; refine pw_ ?_; refine blk_far ?_ NB285_291.out _; refine pw_ ?_; exact BK285.out)) : gb292 ≠ gb285)); have NB291_292 := Aside0.mk ((by rw [hg]; exact Nat.ne_of_lt (blk_lt (g := gb291) (o := .cells #[.bool t286, .int .u64 t287, .int .u64 t288, .int .i64 t289] 38 (0, 0)) (by refine pw_ ?_; refine blk_put (cs := #[.bool t286, .int .u64 t287, .int .u64 t288, .int .i64 0]) ?_ 3 _ rfl; refine pw_ ?_; refine blk_put (cs := #[.bool t286, .int .u64 t287, .int .u64 0, .int .i64 0]) ?_ 2 _ rfl; refine pw_ ?_; refine blk_put (cs := #[.bool t286, .int .u64 0, .int .u64 0, .int .i64 0]) ?_ 1 _ rfl; refine pw_ ?_; refine blk_put (cs := #[.bool false, .int .u64 0, .int .u64 0, .int .i64 0]) ?_ 0 _ rfl; refine pw_ ?_; exact BK291.out)) : gb291 ≠ gb292)); have NB292_291 := Aside0.mk ((by rw [hg]; exact Nat.ne_of_gt (blk_lt (g := gb291) (o := .cells #[.bool t286, .int .u64 t287, .int .u64 t288, .int .i64 t289] 38 (0, 0)) (by refine pw_ ?_; refine blk_put (cs := #[.bool t286, .int .u64 t287, .int .u64 t288, .int .i64 0]) ?_ 3 _ rfl; refine pw_ ?_; refine blk_put (cs := #[.bool t286, .int .u64 t287, .int .u64 0, .int .i64 0]) ?_ 2 _ rfl; refine pw_ ?_; refine blk_put (cs := #[.bool t286, .int .u64 0, .int .u64 0, .int .i64 0]) ?_ 1 _ rfl; refine pw_ ?_; refine blk_put (cs := #[.bool false, .int .u64 0, .int .u64 0, .int .i64 0]) ?_ 0 _ rfl; refine pw_ ?_; exact BK291.out)) : gb292 ≠ gb291)); replace BK276 := Aside0.mk (blk_below (g := gb276) (o := .cells #[.bool a0_0, .int .u64 a0_1, .int .u64 a0_2, .int .i64 a0_3] 38 (0, 0)) (by refine pw_ ?_; refine blk_far ?_ NB276_291.out _; refine pw_ ?_; refine blk_far ?_ NB276_291.out _; refine pw_ ?_; refine blk_far ?_ NB276_291.out _; refine pw_ ?_; refine blk_far ?_ NB276_291.out _; refine pw_ ?_; exact BK276.out) hb); replace BK277 := Aside0.mk (blk_below (g := gb277) (o := .cells #[.bool a1_0, .int .u64 a1_1, .int .u64 a1_2, .int .i64 a1_3] 38 (0, 0)) (by refine pw_ ?_; refine blk_far ?_ NB277_291.out _; refine pw_ ?_; refine blk_far ?_ NB277_291.out _; refine pw_ ?_; refine blk_far ?_ NB277_291.out _; refine pw_ ?_; refine blk_far ?_ NB277_291.out _; refine pw_ ?_; exact BK277.out) hb); replace BK278 := Aside0.mk (blk_below (g := gb278) (o := .cells #[.bool a2_0, .int .u64 a2_1, .int .u64 a2_2] 26 (0, 0)) (by refine pw_ ?_; refine blk_far ?_ NB278_291.out _; refine pw_ ?_; refine blk_far ?_ NB278_291.out _; refine pw_ ?_; refine blk_far ?_ NB278_291.out _; refine pw_ ?_; refine blk_far ?_ NB278_291.out _; refine pw_ ?_; exact BK278.out) hb); replace BK285 := Aside0.mk (blk_below (g := gb285) (o := .cells #[.bool t280, .int .u64 t281, .int .u64 t282, .int .i64 t283] 38 (0, 0)) (by refine pw_ ?_; refine blk_far ?_ NB285_291.out _; refine pw_ ?_; refine blk_far ?_ NB285_291.out _; refine pw_ ?_; refine blk_far ?_ NB285_291.out _; refine pw_ ?_; refine blk_far ?_ NB285_291.out _; refine pw_ ?_; exact BK285.out) hb); replace BK291 := Aside0.mk (blk_below (g := gb291) (o := .cells #[.bool t286, .int .u64 t287, .int .u64 t288, .int .i64 t289] 38 (0, 0)) (by refine pw_ ?_; refine blk_put (cs := #[.bool t286, .int .u64 t287, .int .u64 t288, .int .i64 0]) ?_ 3 _ rfl; refine pw_ ?_; refine blk_put (cs := #[.bool t286, .int .u64 t287, .int .u64 0, .int .i64 0]) ?_ 2 _ rfl; refine pw_ ?_; refine blk_put (cs := #[.bool t286, .int .u64 0, .int .u64 0, .int .i64 0]) ?_ 1 _ rfl; refine pw_ ?_; refine blk_put (cs := #[.bool false, .int .u64 0, .int .u64 0, .int .i64 0]) ?_ 0 _ rfl; refine pw_ ?_; exact BK291.out) hb); replace HB := bs_ HB hb; clear hb hbox hg; have hnb33 := NB292_276.out; have hnc33 := NB276_292.out; have hnb34 := NB292_277.out; have hnc34 := NB277_292.out; have hnb35 := NB292_278.out; have hnc35 := NB278_292.out; have hnb36 := NB292_285.out; have hnc36 := NB285_292.out; have hnb37 := NB292_291.out; have hnc37 := NB291_292.out; obtain ⟨hcz38_0, hcz38_1, hcz38_2, hfz38_0, hfz38_1, hfz38_2⟩ := c3_ BK292; have hnb39 := NB276_277.out; have hnc39 := NB277_276.out; obtain ⟨hcz40_0, hcz40_1, hcz40_2, hcz40_3, hfz40_0, hfz40_1, hfz40_2, hfz40_3⟩ := c4_ BK276) | ((with_reducible refine gate_callee (f := 29) rfl ?_); refine gl_ (some 30) Tryz.func29 #[.agg #[.bool a0_0, .int .u64 a0_1, .int .u64 a0_2, .int .i64 a0_3]] ?_; (with_reducible refine (platbookref03_Right.calls k a0_0 a0_1 a0_2 a0_3 t293 _ A9.out).mono ?_); rintro e w41 ⟨rfl, hb⟩; refine ⟨_, rfl, ?_⟩; replace BK276 := Aside0.mk (blk_below (g := gb276) (o := .cells #[.bool a0_0, .int .u64 a0_1, .int .u64 a0_2, .int .i64 a0_3] 38 (0, 0)) (by refine pw_ ?_; refine blk_far ?_ NB276_292.out _; refine pw_ ?_; refine blk_far ?_ NB276_292.out _; refine pw_ ?_; refine blk_far ?_ NB276_292.out _; refine pw_ ?_; exact BK276.out) hb); replace BK277 := Aside0.mk (blk_below (g := gb277) (o := .cells #[.bool a1_0, .int .u64 a1_1, .int .u64 a1_2, .int .i64 a1_3] 38 (0, 0)) (by refine pw_ ?_; refine blk_far ?_ NB277_292.out _; refine pw_ ?_; refine blk_far ?_ NB277_292.out _; refine pw_ ?_; refine blk_far ?_ NB277_292.out _; refine pw_ ?_; exact BK277.out) hb); replace BK278 := Aside0.mk (blk_below (g := gb278) (o := .cells #[.bool a2_0, .int .u64 a2_1, .int .u64 a2_2] 26 (0, 0)) (by refine pw_ ?_; refine blk_far ?_ NB278_292.out _; refine pw_ ?_; refine blk_far ?_ NB278_292.out _; refine pw_ ?_; refine blk_far ?_ NB278_292.out _; refine pw_ ?_; exact BK278.out) hb); replace BK285 := Aside0.mk (blk_below (g := gb285) (o := .cells #[.bool t280, .int .u64 t281, .int .u64 t282, .int .i64 t283] 38 (0, 0)) (by refine pw_ ?_; refine blk_far ?_ NB285_292.out _; refine pw_ ?_; refine blk_far ?_ NB285_292.out _; refine pw_ ?_; refine blk_far ?_ NB285_292.out _; refine pw_ ?_; exact BK285.out) hb); replace BK291 := Aside0.mk (blk_below (g := gb291) (o := .cells #[.bool t286, .int .u64 t287, .int .u64 t288, .int .i64 t289] 38 (0, 0)) (by refine pw_ ?_; refine blk_far ?_ NB291_292.out _; refine pw_ ?_; refine blk_far ?_ NB291_292.out _; refine pw_ ?_; refine blk_far ?_ NB291_292.out _; refine pw_ ?_; exact BK291.out) hb); replace BK292 := Aside0.mk (blk_below (g := gb292) (o := .cells #[.bool false, .int .u64 0, .int .u64 0] 26 (0, 0)) (by refine pw_ ?_; refine blk_put (cs := #[.bool false, .int .u64 0, .int .u64 0]) ?_ 2 _ rfl; refine pw_ ?_; refine blk_put (cs := #[.bool false, .int .u64 0, .int .u64 0]) ?_ 1 _ rfl; refine pw_ ?_; refine blk_put (cs := #[.bool false, .int .u64 0, .int .u64 0]) ?_ 0 _ rfl; refine pw_ ?_; exact BK292.out) hb); replace HB := bs_ HB hb; (try clear hb); (try clear hb2); (try clear hk); (try clear hi)))
  (try simp only [Act.put, List.setIfInBounds_toArray, List.set_cons_zero, List.set_cons_succ])
  go_cut [] (fun wc => ∃ (kq : Nat) (x293000_9 : Bool) (x293001_9 : Int) (x293002_9 : Int), Aside0 (platbooklaw03_PrefixHas.j0 kq t284 t290 a0_0 a0_1 a0_2 a0_3 a1_0 a1_1 a1_2 a1_3 a2_0 a2_1 a2_2 t280 t281 t282 t283 t286 t287 t288 t289 x293000_9 x293001_9 x293002_9 = some r) ∧ Aside0 (kq ≤ k) ∧ Aside0 (wc.heap[gb276]? = some (.cells #[.bool a0_0, .int .u64 a0_1, .int .u64 a0_2, .int .i64 a0_3] 38 (0, 0))) ∧ Aside0 (wc.heap[gb277]? = some (.cells #[.bool a1_0, .int .u64 a1_1, .int .u64 a1_2, .int .i64 a1_3] 38 (0, 0))) ∧ Aside0 (wc.heap[gb278]? = some (.cells #[.bool a2_0, .int .u64 a2_1, .int .u64 a2_2] 26 (0, 0))) ∧ Aside0 (wc.heap[gb285]? = some (.cells #[.bool t280, .int .u64 t281, .int .u64 t282, .int .i64 t283] 38 (0, 0))) ∧ Aside0 (wc.heap[gb291]? = some (.cells #[.bool t286, .int .u64 t287, .int .u64 t288, .int .i64 t289] 38 (0, 0))) ∧ Aside0 (wc.heap[gb292]? = some (.cells #[.bool x293000_9, .int .u64 x293001_9, .int .u64 x293002_9] 26 (0, 0))) ∧ Aside0 (Below w.heap.size w wc))
  case first =>
   have H := HC10.out
   clear HC10
   by_cases c42 : t293 = true
   ·
    subst c42
    rw [if_pos rfl] at H
    have H' := Aside0.mk H
    clear H
    have hnb43 := NB276_277.out
    have hnc43 := NB277_276.out
    have hnb44 := NB276_278.out
    have hnc44 := NB278_276.out
    have hnb45 := NB276_285.out
    have hnc45 := NB285_276.out
    have hnb46 := NB276_291.out
    have hnc46 := NB291_276.out
    have hnb47 := NB276_292.out
    have hnc47 := NB292_276.out
    obtain ⟨hcz48_0, hcz48_1, hcz48_2, hcz48_3, hfz48_0, hfz48_1, hfz48_2, hfz48_3⟩ := c4_ BK276
    have hnb49 := NB292_277.out
    have hnc49 := NB277_292.out
    have hnb50 := NB292_278.out
    have hnc50 := NB278_292.out
    have hnb51 := NB292_285.out
    have hnc51 := NB285_292.out
    have hnb52 := NB292_291.out
    have hnc52 := NB291_292.out
    obtain ⟨hcz53_0, hcz53_1, hcz53_2, hfz53_0, hfz53_1, hfz53_2⟩ := c3_ BK292
    go_wp2
    go_meet
    case rel => exact ⟨_, (a0_0), (a0_1), (a0_2), H', ⟨by first | omega | exact Nat.le_refl _⟩, ⟨by refine pw_ ?_; refine blk_far ?_ NB276_292.out _; refine pw_ ?_; refine blk_far ?_ NB276_292.out _; refine pw_ ?_; refine blk_far ?_ NB276_292.out _; refine pw_ ?_; exact BK276.out⟩, ⟨by refine pw_ ?_; refine blk_far ?_ NB277_292.out _; refine pw_ ?_; refine blk_far ?_ NB277_292.out _; refine pw_ ?_; refine blk_far ?_ NB277_292.out _; refine pw_ ?_; exact BK277.out⟩, ⟨by refine pw_ ?_; refine blk_far ?_ NB278_292.out _; refine pw_ ?_; refine blk_far ?_ NB278_292.out _; refine pw_ ?_; refine blk_far ?_ NB278_292.out _; refine pw_ ?_; exact BK278.out⟩, ⟨by refine pw_ ?_; refine blk_far ?_ NB285_292.out _; refine pw_ ?_; refine blk_far ?_ NB285_292.out _; refine pw_ ?_; refine blk_far ?_ NB285_292.out _; refine pw_ ?_; exact BK285.out⟩, ⟨by refine pw_ ?_; refine blk_far ?_ NB291_292.out _; refine pw_ ?_; refine blk_far ?_ NB291_292.out _; refine pw_ ?_; refine blk_far ?_ NB291_292.out _; refine pw_ ?_; exact BK291.out⟩, ⟨by refine pw_ ?_; refine blk_put (cs := #[.bool a0_0, .int .u64 a0_1, .int .u64 0]) ?_ 2 _ rfl; refine pw_ ?_; refine blk_put (cs := #[.bool a0_0, .int .u64 0, .int .u64 0]) ?_ 1 _ rfl; refine pw_ ?_; refine blk_put (cs := #[.bool false, .int .u64 0, .int .u64 0]) ?_ 0 _ rfl; refine pw_ ?_; exact BK292.out⟩, ⟨pb_ HB⟩⟩
   ·
    replace c42 := Bool.eq_false_iff.mpr c42
    subst c42
    have H1 : (platbooklaw03_PrefixHas.j0 k t284 t290 a0_0 a0_1 a0_2 a0_3 a1_0 a1_1 a1_2 a1_3 a2_0 a2_1 a2_2 t280 t281 t282 t283 t286 t287 t288 t289 false 0 0) = some r := by rw [if_neg (show ¬ (false = true) by decide)] at H; exact H
    clear H
    have H := H1
    clear H1
    have H' := Aside0.mk H
    clear H
    go_wp2
    go_meet
    case rel => exact ⟨_, (false), (0), (0), H', ⟨by first | omega | exact Nat.le_refl _⟩, ⟨by refine pw_ ?_; exact BK276.out⟩, ⟨by refine pw_ ?_; exact BK277.out⟩, ⟨by refine pw_ ?_; exact BK278.out⟩, ⟨by refine pw_ ?_; exact BK285.out⟩, ⟨by refine pw_ ?_; exact BK291.out⟩, ⟨by refine pw_ ?_; exact BK292.out⟩, ⟨pb_ HB⟩⟩
  case rest =>
   clear HC10
   try clear c1
   try clear c2
   try clear p2
   try clear c3
   try clear c4
   try clear c5
   try clear c6
   try clear c15
   try clear c16
   try clear c20
   try clear c21
   try clear c22
   try clear c24
   try clear c27
   try clear c28
   try clear c29
   try clear c30
   try clear c33
   try clear c34
   try clear c35
   try clear c36
   try clear c37
   try clear c39
   try clear c42
   try clear c43
   try clear c44
   try clear c45
   try clear c46
   try clear c47
   try clear c49
   try clear c50
   try clear c51
   try clear c52
   try clear hcz17_0
   try clear hcz17_1
   try clear hcz17_2
   try clear hcz23_0
   try clear hcz23_1
   try clear hcz23_2
   try clear hcz23_3
   try clear hcz24_0
   try clear hcz24_1
   try clear hcz24_2
   try clear hcz31_0
   try clear hcz31_1
   try clear hcz31_2
   try clear hcz31_3
   try clear hcz38_0
   try clear hcz38_1
   try clear hcz38_2
   try clear hcz40_0
   try clear hcz40_1
   try clear hcz40_2
   try clear hcz40_3
   try clear hcz48_0
   try clear hcz48_1
   try clear hcz48_2
   try clear hcz48_3
   try clear hcz53_0
   try clear hcz53_1
   try clear hcz53_2
   try clear hfz17_0
   try clear hfz17_1
   try clear hfz17_2
   try clear hfz23_0
   try clear hfz23_1
   try clear hfz23_2
   try clear hfz23_3
   try clear hfz24_0
   try clear hfz24_1
   try clear hfz24_2
   try clear hfz31_0
   try clear hfz31_1
   try clear hfz31_2
   try clear hfz31_3
   try clear hfz38_0
   try clear hfz38_1
   try clear hfz38_2
   try clear hfz40_0
   try clear hfz40_1
   try clear hfz40_2
   try clear hfz40_3
   try clear hfz48_0
   try clear hfz48_1
   try clear hfz48_2
   try clear hfz48_3
   try clear hfz53_0
   try clear hfz53_1
   try clear hfz53_2
   obtain ⟨kq, x293000_9, x293001_9, x293002_9, HA, HJ9, BK276, BK277, BK278, BK285, BK291, BK292, HB⟩ := hcut
   cases kq with
   | zero => exact absurd HA.out (by simp [platbooklaw03_PrefixHas.j0])
   | succ kj9 =>
    have H := HA.out
    clear HA
    simp only [platbooklaw03_PrefixHas.j0] at H
    by_cases c54 : ((t280 == t286 && ((t281 == t287 && (t282 == t288)))) && (t283 == t289)) = true
    ·
     rw [if_pos c54] at H
     have c54b0 : ((t280 == t286 && ((t281 == t287 && (t282 == t288)))) && (t283 == t289)) = true := c54
     clear c54
     by_cases c55 : t284 = t290
     ·
      rw [if_pos c55] at H
      have c55b0 : (t284 == t290) = true := beq_iff_eq.mpr c55
      have c55b1 : (t284 != t290) = false := bne_eq_false_iff_eq.mpr c55
      clear c55
      replace H := Option.bind_eq_some_iff.mp H
      obtain ⟨t294, A560, H⟩ := H
      replace H : ((platbookref03_Right.f kj9 a0_0 a0_1 a0_2 a0_3).bind fun t295 => (if (t294 == t295) = true then ((prefix_First.f a0_0 a0_1 a0_2 a0_3).bind fun bt296 => (if (bt296.1 == x293000_9 && ((bt296.2.1 == x293001_9 && (bt296.2.2 == x293002_9)))) = true then ((prefix_Last.f a0_0 a0_1 a0_2 a0_3).bind fun bt299 => ((platbookref03_Last.f kj9 a0_0 a0_1 a0_2 a0_3).bind fun bt302 => (if (bt299.1 == bt302.1 && ((bt299.2.1 == bt302.2.1 && (bt299.2.2 == bt302.2.2)))) = true then ((prefix_Has.f kj9 a0_0 a0_1 a0_2 a0_3 a2_0 a2_1 a2_2).bind fun t305 => ((platbookref03_Has.f kj9 a0_0 a0_1 a0_2 a0_3 a2_0 a2_1 a2_2).bind fun t306 => (if (t305 == t306) = true then ((prefix_Within.f kj9 a0_0 a0_1 a0_2 a0_3 a1_0 a1_1 a1_2 a1_3).bind fun t307 => ((platbookref03_Within.f kj9 a0_0 a0_1 a0_2 a0_3 a1_0 a1_1 a1_2 a1_3).bind fun t308 => (if (t307 == t308) = true then ((prefix_Overlap.f kj9 a0_0 a0_1 a0_2 a0_3 a1_0 a1_1 a1_2 a1_3).bind fun t309 => ((platbookref03_Overlap.f kj9 a0_0 a0_1 a0_2 a0_3 a1_0 a1_1 a1_2 a1_3).bind fun t310 => (some (t309 == t310)))) else (some false)))) else (some false)))) else (some false)))) else (some false))) else (some false))) = some r := H
      have A56 := Aside0.mk A560
      clear A560
      replace H := Option.bind_eq_some_iff.mp H
      obtain ⟨t295, A570, H⟩ := H
      replace H : (if (t294 == t295) = true then ((prefix_First.f a0_0 a0_1 a0_2 a0_3).bind fun bt296 => (if (bt296.1 == x293000_9 && ((bt296.2.1 == x293001_9 && (bt296.2.2 == x293002_9)))) = true then ((prefix_Last.f a0_0 a0_1 a0_2 a0_3).bind fun bt299 => ((platbookref03_Last.f kj9 a0_0 a0_1 a0_2 a0_3).bind fun bt302 => (if (bt299.1 == bt302.1 && ((bt299.2.1 == bt302.2.1 && (bt299.2.2 == bt302.2.2)))) = true then ((prefix_Has.f kj9 a0_0 a0_1 a0_2 a0_3 a2_0 a2_1 a2_2).bind fun t305 => ((platbookref03_Has.f kj9 a0_0 a0_1 a0_2 a0_3 a2_0 a2_1 a2_2).bind fun t306 => (if (t305 == t306) = true then ((prefix_Within.f kj9 a0_0 a0_1 a0_2 a0_3 a1_0 a1_1 a1_2 a1_3).bind fun t307 => ((platbookref03_Within.f kj9 a0_0 a0_1 a0_2 a0_3 a1_0 a1_1 a1_2 a1_3).bind fun t308 => (if (t307 == t308) = true then ((prefix_Overlap.f kj9 a0_0 a0_1 a0_2 a0_3 a1_0 a1_1 a1_2 a1_3).bind fun t309 => ((platbookref03_Overlap.f kj9 a0_0 a0_1 a0_2 a0_3 a1_0 a1_1 a1_2 a1_3).bind fun t310 => (some (t309 == t310)))) else (some false)))) else (some false)))) else (some false)))) else (some false))) else (some false)) = some r := H
      have A57 := Aside0.mk A570
      clear A570
      by_cases c58 : (t294 == t295) = true
      ·
       rw [if_pos c58] at H
       have c58b0 : (t294 == t295) = true := c58
       (try (have c58b1 : decide (t294 = t295) = true := by simpa using c58))
       (try (have c58b2 : (t294 == t295) = true := by simpa using c58))
       clear c58
       replace H := Option.bind_eq_some_iff.mp H
       obtain ⟨⟨t296, t297, t298⟩, A590, H⟩ := H
       replace H : (if (t296 == x293000_9 && ((t297 == x293001_9 && (t298 == x293002_9)))) = true then ((prefix_Last.f a0_0 a0_1 a0_2 a0_3).bind fun bt299 => ((platbookref03_Last.f kj9 a0_0 a0_1 a0_2 a0_3).bind fun bt302 => (if (bt299.1 == bt302.1 && ((bt299.2.1 == bt302.2.1 && (bt299.2.2 == bt302.2.2)))) = true then ((prefix_Has.f kj9 a0_0 a0_1 a0_2 a0_3 a2_0 a2_1 a2_2).bind fun t305 => ((platbookref03_Has.f kj9 a0_0 a0_1 a0_2 a0_3 a2_0 a2_1 a2_2).bind fun t306 => (if (t305 == t306) = true then ((prefix_Within.f kj9 a0_0 a0_1 a0_2 a0_3 a1_0 a1_1 a1_2 a1_3).bind fun t307 => ((platbookref03_Within.f kj9 a0_0 a0_1 a0_2 a0_3 a1_0 a1_1 a1_2 a1_3).bind fun t308 => (if (t307 == t308) = true then ((prefix_Overlap.f kj9 a0_0 a0_1 a0_2 a0_3 a1_0 a1_1 a1_2 a1_3).bind fun t309 => ((platbookref03_Overlap.f kj9 a0_0 a0_1 a0_2 a0_3 a1_0 a1_1 a1_2 a1_3).bind fun t310 => (some (t309 == t310)))) else (some false)))) else (some false)))) else (some false)))) else (some false)) = some r := H
       have A59 := Aside0.mk A590
       clear A590
       by_cases c60 : (t296 == x293000_9 && ((t297 == x293001_9 && (t298 == x293002_9)))) = true
       ·
        rw [if_pos c60] at H
        have c60b0 : (t296 == x293000_9 && ((t297 == x293001_9 && (t298 == x293002_9)))) = true := c60
        (try (have c60b1 : decide (t296 = x293000_9 && ((t297 == x293001_9 && (t298 == x293002_9)))) = true := by simpa using c60))
        (try (have c60b2 : (t296 == x293000_9 && ((t297 == x293001_9 && (t298 == x293002_9)))) = true := by simpa using c60))
        clear c60
        replace H := Option.bind_eq_some_iff.mp H
        obtain ⟨⟨t299, t300, t301⟩, A610, H⟩ := H
        replace H : ((platbookref03_Last.f kj9 a0_0 a0_1 a0_2 a0_3).bind fun bt302 => (if (t299 == bt302.1 && ((t300 == bt302.2.1 && (t301 == bt302.2.2)))) = true then ((prefix_Has.f kj9 a0_0 a0_1 a0_2 a0_3 a2_0 a2_1 a2_2).bind fun t305 => ((platbookref03_Has.f kj9 a0_0 a0_1 a0_2 a0_3 a2_0 a2_1 a2_2).bind fun t306 => (if (t305 == t306) = true then ((prefix_Within.f kj9 a0_0 a0_1 a0_2 a0_3 a1_0 a1_1 a1_2 a1_3).bind fun t307 => ((platbookref03_Within.f kj9 a0_0 a0_1 a0_2 a0_3 a1_0 a1_1 a1_2 a1_3).bind fun t308 => (if (t307 == t308) = true then ((prefix_Overlap.f kj9 a0_0 a0_1 a0_2 a0_3 a1_0 a1_1 a1_2 a1_3).bind fun t309 => ((platbookref03_Overlap.f kj9 a0_0 a0_1 a0_2 a0_3 a1_0 a1_1 a1_2 a1_3).bind fun t310 => (some (t309 == t310)))) else (some false)))) else (some false)))) else (some false))) = some r := H
        have A61 := Aside0.mk A610
        clear A610
        replace H := Option.bind_eq_some_iff.mp H
        obtain ⟨⟨t302, t303, t304⟩, A620, H⟩ := H
        replace H : (if (t299 == t302 && ((t300 == t303 && (t301 == t304)))) = true then ((prefix_Has.f kj9 a0_0 a0_1 a0_2 a0_3 a2_0 a2_1 a2_2).bind fun t305 => ((platbookref03_Has.f kj9 a0_0 a0_1 a0_2 a0_3 a2_0 a2_1 a2_2).bind fun t306 => (if (t305 == t306) = true then ((prefix_Within.f kj9 a0_0 a0_1 a0_2 a0_3 a1_0 a1_1 a1_2 a1_3).bind fun t307 => ((platbookref03_Within.f kj9 a0_0 a0_1 a0_2 a0_3 a1_0 a1_1 a1_2 a1_3).bind fun t308 => (if (t307 == t308) = true then ((prefix_Overlap.f kj9 a0_0 a0_1 a0_2 a0_3 a1_0 a1_1 a1_2 a1_3).bind fun t309 => ((platbookref03_Overlap.f kj9 a0_0 a0_1 a0_2 a0_3 a1_0 a1_1 a1_2 a1_3).bind fun t310 => (some (t309 == t310)))) else (some false)))) else (some false)))) else (some false)) = some r := H
        have A62 := Aside0.mk A620
        clear A620
        by_cases c63 : (t299 == t302 && ((t300 == t303 && (t301 == t304)))) = true
        ·
         rw [if_pos c63] at H
         have c63b0 : (t299 == t302 && ((t300 == t303 && (t301 == t304)))) = true := c63
         (try (have c63b1 : decide (t299 = t302 && ((t300 == t303 && (t301 == t304)))) = true := by simpa using c63))
         (try (have c63b2 : (t299 == t302 && ((t300 == t303 && (t301 == t304)))) = true := by simpa using c63))
         clear c63
         replace H := Option.bind_eq_some_iff.mp H
         obtain ⟨t305, A640, H⟩ := H
         replace H : ((platbookref03_Has.f kj9 a0_0 a0_1 a0_2 a0_3 a2_0 a2_1 a2_2).bind fun t306 => (if (t305 == t306) = true then ((prefix_Within.f kj9 a0_0 a0_1 a0_2 a0_3 a1_0 a1_1 a1_2 a1_3).bind fun t307 => ((platbookref03_Within.f kj9 a0_0 a0_1 a0_2 a0_3 a1_0 a1_1 a1_2 a1_3).bind fun t308 => (if (t307 == t308) = true then ((prefix_Overlap.f kj9 a0_0 a0_1 a0_2 a0_3 a1_0 a1_1 a1_2 a1_3).bind fun t309 => ((platbookref03_Overlap.f kj9 a0_0 a0_1 a0_2 a0_3 a1_0 a1_1 a1_2 a1_3).bind fun t310 => (some (t309 == t310)))) else (some false)))) else (some false))) = some r := H
         have A64 := Aside0.mk A640
         clear A640
         replace H := Option.bind_eq_some_iff.mp H
         obtain ⟨t306, A650, H⟩ := H
         replace H : (if (t305 == t306) = true then ((prefix_Within.f kj9 a0_0 a0_1 a0_2 a0_3 a1_0 a1_1 a1_2 a1_3).bind fun t307 => ((platbookref03_Within.f kj9 a0_0 a0_1 a0_2 a0_3 a1_0 a1_1 a1_2 a1_3).bind fun t308 => (if (t307 == t308) = true then ((prefix_Overlap.f kj9 a0_0 a0_1 a0_2 a0_3 a1_0 a1_1 a1_2 a1_3).bind fun t309 => ((platbookref03_Overlap.f kj9 a0_0 a0_1 a0_2 a0_3 a1_0 a1_1 a1_2 a1_3).bind fun t310 => (some (t309 == t310)))) else (some false)))) else (some false)) = some r := H
         have A65 := Aside0.mk A650
         clear A650
         by_cases c66 : (t305 == t306) = true
         ·
          rw [if_pos c66] at H
          have c66b0 : (t305 == t306) = true := c66
          (try (have c66b1 : decide (t305 = t306) = true := by simpa using c66))
          (try (have c66b2 : (t305 == t306) = true := by simpa using c66))
          clear c66
          replace H := Option.bind_eq_some_iff.mp H
          obtain ⟨t307, A670, H⟩ := H
          replace H : ((platbookref03_Within.f kj9 a0_0 a0_1 a0_2 a0_3 a1_0 a1_1 a1_2 a1_3).bind fun t308 => (if (t307 == t308) = true then ((prefix_Overlap.f kj9 a0_0 a0_1 a0_2 a0_3 a1_0 a1_1 a1_2 a1_3).bind fun t309 => ((platbookref03_Overlap.f kj9 a0_0 a0_1 a0_2 a0_3 a1_0 a1_1 a1_2 a1_3).bind fun t310 => (some (t309 == t310)))) else (some false))) = some r := H
          have A67 := Aside0.mk A670
          clear A670
          replace H := Option.bind_eq_some_iff.mp H
          obtain ⟨t308, A680, H⟩ := H
          replace H : (if (t307 == t308) = true then ((prefix_Overlap.f kj9 a0_0 a0_1 a0_2 a0_3 a1_0 a1_1 a1_2 a1_3).bind fun t309 => ((platbookref03_Overlap.f kj9 a0_0 a0_1 a0_2 a0_3 a1_0 a1_1 a1_2 a1_3).bind fun t310 => (some (t309 == t310)))) else (some false)) = some r := H
          have A68 := Aside0.mk A680
          clear A680
          by_cases c69 : (t307 == t308) = true
          ·
           rw [if_pos c69] at H
           have c69b0 : (t307 == t308) = true := c69
           (try (have c69b1 : decide (t307 = t308) = true := by simpa using c69))
           (try (have c69b2 : (t307 == t308) = true := by simpa using c69))
           clear c69
           replace H := Option.bind_eq_some_iff.mp H
           obtain ⟨t309, A700, H⟩ := H
           replace H : ((platbookref03_Overlap.f kj9 a0_0 a0_1 a0_2 a0_3 a1_0 a1_1 a1_2 a1_3).bind fun t310 => (some (t309 == t310))) = some r := H
           have A70 := Aside0.mk A700
           clear A700
           replace H := Option.bind_eq_some_iff.mp H
           obtain ⟨t310, A710, H⟩ := H
           replace H : (some (t309 == t310)) = some r := H
           have A71 := Aside0.mk A710
           clear A710
           obtain rfl := Option.some.inj H
           try go_wp2
           replace BK276 := Aside0.mk (blk_drew BK276.out)
           replace BK277 := Aside0.mk (blk_drew BK277.out)
           replace BK278 := Aside0.mk (blk_drew BK278.out)
           replace BK285 := Aside0.mk (blk_drew BK285.out)
           replace BK291 := Aside0.mk (blk_drew BK291.out)
           replace BK292 := Aside0.mk (blk_drew BK292.out)
           replace HB := Aside0.mk (below_drew1 HB.out)
           refine start_ (n := 56) (S := fun w' => w'.cell? ⟨gb285, 0, none⟩ = some (.bool t280) ∧ w'.cell? ⟨gb285, 1, none⟩ = some (.int .u64 t281) ∧ w'.cell? ⟨gb285, 2, none⟩ = some (.int .u64 t282) ∧ w'.cell? ⟨gb285, 3, none⟩ = some (.int .i64 t283) ∧ w'.cell? ⟨gb291, 0, none⟩ = some (.bool t286) ∧ w'.cell? ⟨gb291, 1, none⟩ = some (.int .u64 t287) ∧ w'.cell? ⟨gb291, 2, none⟩ = some (.int .u64 t288) ∧ w'.cell? ⟨gb291, 3, none⟩ = some (.int .i64 t289) ∧ w'.cell? ⟨gb276, 0, none⟩ = some (.bool a0_0) ∧ w'.cell? ⟨gb276, 1, none⟩ = some (.int .u64 a0_1) ∧ w'.cell? ⟨gb276, 2, none⟩ = some (.int .u64 a0_2) ∧ w'.cell? ⟨gb276, 3, none⟩ = some (.int .i64 a0_3) ∧ w'.cell? ⟨gb292, 0, none⟩ = some (.bool x293000_9) ∧ w'.cell? ⟨gb292, 1, none⟩ = some (.int .u64 x293001_9) ∧ w'.cell? ⟨gb292, 2, none⟩ = some (.int .u64 x293002_9) ∧ w'.cell? ⟨gb278, 0, none⟩ = some (.bool a2_0) ∧ w'.cell? ⟨gb278, 1, none⟩ = some (.int .u64 a2_1) ∧ w'.cell? ⟨gb278, 2, none⟩ = some (.int .u64 a2_2) ∧ w'.cell? ⟨gb277, 0, none⟩ = some (.bool a1_0) ∧ w'.cell? ⟨gb277, 1, none⟩ = some (.int .u64 a1_1) ∧ w'.cell? ⟨gb277, 2, none⟩ = some (.int .u64 a1_2) ∧ w'.cell? ⟨gb277, 3, none⟩ = some (.int .i64 a1_3)) (ds := []) (bm_ 56 0) (by kernel_rfl) rfl rfl ⟨kc_ BK285 0, kc_ BK285 1, kc_ BK285 2, kc_ BK285 3, kc_ BK291 0, kc_ BK291 1, kc_ BK291 2, kc_ BK291 3, kc_ BK276 0, kc_ BK276 1, kc_ BK276 2, kc_ BK276 3, kc_ BK292 0, kc_ BK292 1, kc_ BK292 2, kc_ BK278 0, kc_ BK278 1, kc_ BK278 2, kc_ BK277 0, kc_ BK277 1, kc_ BK277 2, kc_ BK277 3⟩ (fun hHeld => ?_); refine with_tabW platbooklaw03_PrefixHas.tab8 platbooklaw03_PrefixHas.bits8 (fun HT_ HW_ => ?_)
           generalize wc.drew = w72 at BK276 BK277 BK278 BK285 BK291 BK292 HB hHeld ⊢
           refine ta_ 0 (some 33) (bm_ 56 1) rfl HT_ HW_ ⟨by rfl, by rintro w' ⟨s0, s1, s2, s3, s4, s5, s6, s7, s8, s9, s10, s11, s12, s13, s14, s15, s16, s17, s18, s19, s20, s21⟩; go_simp; with_reducible rfl⟩ hHeld ?_
           refine ta_ 1 (some 34) (bm_ 56 3) rfl HT_ HW_ ⟨by rfl, by rintro w' ⟨s0, s1, s2, s3, s4, s5, s6, s7, s8, s9, s10, s11, s12, s13, s14, s15, s16, s17, s18, s19, s20, s21⟩; go_simp; with_reducible rfl⟩ hHeld ?_
           refine pu_ 2 (some 35) (bm_ 56 7) rfl HT_ ⟨by rfl, by intro w'; go_simp; with_reducible rfl⟩ ?_
           refine pu_ 3 (some 36) (bm_ 56 15) rfl HT_ ⟨by rfl, by intro w'; go_simp; with_reducible rfl⟩ ?_
           refine pu_ 4 (some 37) (bm_ 56 31) rfl HT_ ⟨by rfl, by intro w'; go_simp; with_reducible rfl⟩ ?_
           refine pu_ 5 (some 38) (bm_ 56 63) rfl HT_ ⟨by rfl, by intro w'; go_simp; with_reducible rfl⟩ ?_
           refine pu_ 6 (some 39) (bm_ 56 127) rfl HT_ ⟨by rfl, by intro w'; go_simp; with_reducible rfl⟩ ?_
           refine pu_ 7 (some 40) (bm_ 56 255) rfl HT_ ⟨by rfl, by intro w'; go_simp; with_reducible rfl⟩ ?_
           refine pu_ 8 (some 41) (bm_ 56 511) rfl HT_ ⟨by rfl, by intro w'; go_simp; with_reducible rfl⟩ ?_
           refine ta_ 9 (some 42) (bm_ 56 1023) rfl HT_ HW_ ⟨by rfl, by rintro w' ⟨s0, s1, s2, s3, s4, s5, s6, s7, s8, s9, s10, s11, s12, s13, s14, s15, s16, s17, s18, s19, s20, s21⟩; go_simp; with_reducible rfl⟩ hHeld ?_
           refine ta_ 11 (some 44) (bm_ 56 3071) rfl HT_ HW_ ⟨by rfl, by rintro w' ⟨s0, s1, s2, s3, s4, s5, s6, s7, s8, s9, s10, s11, s12, s13, s14, s15, s16, s17, s18, s19, s20, s21⟩; go_simp; with_reducible rfl⟩ hHeld ?_
           refine one_ (i := 10) (N := some 43) (bm_ 56 4095) rfl rfl (one_of HT_.out (by kernel_rfl)) (by decide) (fun K hK => ?_)
           refine gr_ Tryz.func36 #[.agg #[.bool a0_0, .int .u64 a0_1, .int .u64 a0_2, .int .i64 a0_3]] ?_
           with_reducible refine (prefix_Right.calls a0_0 a0_1 a0_2 a0_3 t294 _ A56.out).mono ?_
           rintro e w73 ⟨rfl, hb⟩
           refine ⟨_, rfl, ?_⟩
           replace BK276 := bb_ BK276 hb
           replace BK277 := bb_ BK277 hb
           replace BK278 := bb_ BK278 hb
           replace BK285 := bb_ BK285 hb
           replace BK291 := bb_ BK291 hb
           replace BK292 := bb_ BK292 hb
           replace HB := bs_ HB hb
           (try clear hb)
           (try clear hb2)
           (try clear hk)
           (try clear hi)
           refine hK.out _ _ ⟨kc_ BK285 0, kc_ BK285 1, kc_ BK285 2, kc_ BK285 3, kc_ BK291 0, kc_ BK291 1, kc_ BK291 2, kc_ BK291 3, kc_ BK276 0, kc_ BK276 1, kc_ BK276 2, kc_ BK276 3, kc_ BK292 0, kc_ BK292 1, kc_ BK292 2, kc_ BK278 0, kc_ BK278 1, kc_ BK278 2, kc_ BK277 0, kc_ BK277 1, kc_ BK277 2, kc_ BK277 3⟩ (fun hHeld => ?_)
           clear hK K
           refine norm_ (a' := ?_) ?_ ?_
           rotate_left
           ·
            show Act.put _ (some 43) _ = _
            simp only [Act.put, List.setIfInBounds_toArray, List.set_cons_zero, List.set_cons_succ, i64_w, i32_w]
            rfl
           refine one_ (i := 12) (N := some 45) (bm_ 56 8191) rfl rfl (one_of HT_.out (by kernel_rfl)) (by decide) (fun K hK => ?_)
           refine gr_ Tryz.func29 #[.agg #[.bool a0_0, .int .u64 a0_1, .int .u64 a0_2, .int .i64 a0_3]] ?_
           with_reducible refine (platbookref03_Right.calls kj9 a0_0 a0_1 a0_2 a0_3 t295 _ A57.out).mono ?_
           rintro e w74 ⟨rfl, hb⟩
           refine ⟨_, rfl, ?_⟩
           replace BK276 := bb_ BK276 hb
           replace BK277 := bb_ BK277 hb
           replace BK278 := bb_ BK278 hb
           replace BK285 := bb_ BK285 hb
           replace BK291 := bb_ BK291 hb
           replace BK292 := bb_ BK292 hb
           replace HB := bs_ HB hb
           (try clear hb)
           (try clear hb2)
           (try clear hk)
           (try clear hi)
           refine hK.out _ _ ⟨kc_ BK285 0, kc_ BK285 1, kc_ BK285 2, kc_ BK285 3, kc_ BK291 0, kc_ BK291 1, kc_ BK291 2, kc_ BK291 3, kc_ BK276 0, kc_ BK276 1, kc_ BK276 2, kc_ BK276 3, kc_ BK292 0, kc_ BK292 1, kc_ BK292 2, kc_ BK278 0, kc_ BK278 1, kc_ BK278 2, kc_ BK277 0, kc_ BK277 1, kc_ BK277 2, kc_ BK277 3⟩ (fun hHeld => ?_)
           clear hK K
           refine norm_ (a' := ?_) ?_ ?_
           rotate_left
           ·
            show Act.put _ (some 45) _ = _
            simp only [Act.put, List.setIfInBounds_toArray, List.set_cons_zero, List.set_cons_succ, i64_w, i32_w]
            rfl
           refine pu_ 13 (some 46) (bm_ 56 16383) rfl HT_ ⟨by rfl, by intro w'; go_simp; with_reducible rfl⟩ ?_
           refine pu_ 14 (some 47) (bm_ 56 32767) rfl HT_ ⟨by rfl, by intro w'; go_simp; with_reducible rfl⟩ ?_
           refine pu_ 15 (some 48) (bm_ 56 65535) rfl HT_ ⟨by rfl, by intro w'; go_simp; with_reducible rfl⟩ ?_
           refine ta_ 16 (some 49) (bm_ 56 131071) rfl HT_ HW_ ⟨by rfl, by rintro w' ⟨s0, s1, s2, s3, s4, s5, s6, s7, s8, s9, s10, s11, s12, s13, s14, s15, s16, s17, s18, s19, s20, s21⟩; go_simp; with_reducible rfl⟩ hHeld ?_
           refine ta_ 18 (some 51) (bm_ 56 393215) rfl HT_ HW_ ⟨by rfl, by rintro w' ⟨s0, s1, s2, s3, s4, s5, s6, s7, s8, s9, s10, s11, s12, s13, s14, s15, s16, s17, s18, s19, s20, s21⟩; go_simp; with_reducible rfl⟩ hHeld ?_
           refine one_ (i := 17) (N := some 50) (bm_ 56 524287) rfl rfl (one_of HT_.out (by kernel_rfl)) (by decide) (fun K hK => ?_)
           refine gr_ Tryz.func37 #[.agg #[.bool a0_0, .int .u64 a0_1, .int .u64 a0_2, .int .i64 a0_3]] ?_
           with_reducible refine (prefix_First.calls a0_0 a0_1 a0_2 a0_3 t296 t297 t298 _ A59.out).mono ?_
           rintro e w75 ⟨rfl, hb⟩
           refine ⟨_, rfl, ?_⟩
           replace BK276 := bb_ BK276 hb
           replace BK277 := bb_ BK277 hb
           replace BK278 := bb_ BK278 hb
           replace BK285 := bb_ BK285 hb
           replace BK291 := bb_ BK291 hb
           replace BK292 := bb_ BK292 hb
           replace HB := bs_ HB hb
           (try clear hb)
           (try clear hb2)
           (try clear hk)
           (try clear hi)
           refine hK.out _ _ ⟨kc_ BK285 0, kc_ BK285 1, kc_ BK285 2, kc_ BK285 3, kc_ BK291 0, kc_ BK291 1, kc_ BK291 2, kc_ BK291 3, kc_ BK276 0, kc_ BK276 1, kc_ BK276 2, kc_ BK276 3, kc_ BK292 0, kc_ BK292 1, kc_ BK292 2, kc_ BK278 0, kc_ BK278 1, kc_ BK278 2, kc_ BK277 0, kc_ BK277 1, kc_ BK277 2, kc_ BK277 3⟩ (fun hHeld => ?_)
           clear hK K
           refine norm_ (a' := ?_) ?_ ?_
           rotate_left
           ·
            show Act.put _ (some 50) _ = _
            simp only [Act.put, List.setIfInBounds_toArray, List.set_cons_zero, List.set_cons_succ, i64_w, i32_w]
            rfl
           refine pu_ 19 (some 52) (bm_ 56 1048575) rfl HT_ ⟨by rfl, by intro w'; go_simp; with_reducible rfl⟩ ?_
           refine pu_ 20 (some 53) (bm_ 56 2097151) rfl HT_ ⟨by rfl, by intro w'; go_simp; with_reducible rfl⟩ ?_
           refine pu_ 21 (some 54) (bm_ 56 4194303) rfl HT_ ⟨by rfl, by intro w'; go_simp; with_reducible rfl⟩ ?_
           refine ta_ 22 (some 55) (bm_ 56 8388607) rfl HT_ HW_ ⟨by rfl, by rintro w' ⟨s0, s1, s2, s3, s4, s5, s6, s7, s8, s9, s10, s11, s12, s13, s14, s15, s16, s17, s18, s19, s20, s21⟩; go_simp; with_reducible rfl⟩ hHeld ?_
           refine ta_ 24 (some 57) (bm_ 56 25165823) rfl HT_ HW_ ⟨by rfl, by rintro w' ⟨s0, s1, s2, s3, s4, s5, s6, s7, s8, s9, s10, s11, s12, s13, s14, s15, s16, s17, s18, s19, s20, s21⟩; go_simp; with_reducible rfl⟩ hHeld ?_
           refine one_ (i := 23) (N := some 56) (bm_ 56 33554431) rfl rfl (one_of HT_.out (by kernel_rfl)) (by decide) (fun K hK => ?_)
           refine gr_ Tryz.func38 #[.agg #[.bool a0_0, .int .u64 a0_1, .int .u64 a0_2, .int .i64 a0_3]] ?_
           with_reducible refine (prefix_Last.calls a0_0 a0_1 a0_2 a0_3 t299 t300 t301 _ A61.out).mono ?_
           rintro e w76 ⟨rfl, hb⟩
           refine ⟨_, rfl, ?_⟩
           replace BK276 := bb_ BK276 hb
           replace BK277 := bb_ BK277 hb
           replace BK278 := bb_ BK278 hb
           replace BK285 := bb_ BK285 hb
           replace BK291 := bb_ BK291 hb
           replace BK292 := bb_ BK292 hb
           replace HB := bs_ HB hb
           (try clear hb)
           (try clear hb2)
           (try clear hk)
           (try clear hi)
           refine hK.out _ _ ⟨kc_ BK285 0, kc_ BK285 1, kc_ BK285 2, kc_ BK285 3, kc_ BK291 0, kc_ BK291 1, kc_ BK291 2, kc_ BK291 3, kc_ BK276 0, kc_ BK276 1, kc_ BK276 2, kc_ BK276 3, kc_ BK292 0, kc_ BK292 1, kc_ BK292 2, kc_ BK278 0, kc_ BK278 1, kc_ BK278 2, kc_ BK277 0, kc_ BK277 1, kc_ BK277 2, kc_ BK277 3⟩ (fun hHeld => ?_)
           clear hK K
           refine norm_ (a' := ?_) ?_ ?_
           rotate_left
           ·
            show Act.put _ (some 56) _ = _
            simp only [Act.put, List.setIfInBounds_toArray, List.set_cons_zero, List.set_cons_succ, i64_w, i32_w]
            rfl
           refine one_ (i := 25) (N := some 58) (bm_ 56 67108863) rfl rfl (one_of HT_.out (by kernel_rfl)) (by decide) (fun K hK => ?_)
           refine gr_ Tryz.func39 #[.agg #[.bool a0_0, .int .u64 a0_1, .int .u64 a0_2, .int .i64 a0_3]] ?_
           with_reducible refine (platbookref03_Last.calls kj9 a0_0 a0_1 a0_2 a0_3 t302 t303 t304 _ A62.out).mono ?_
           rintro e w77 ⟨rfl, hb⟩
           refine ⟨_, rfl, ?_⟩
           replace BK276 := bb_ BK276 hb
           replace BK277 := bb_ BK277 hb
           replace BK278 := bb_ BK278 hb
           replace BK285 := bb_ BK285 hb
           replace BK291 := bb_ BK291 hb
           replace BK292 := bb_ BK292 hb
           replace HB := bs_ HB hb
           (try clear hb)
           (try clear hb2)
           (try clear hk)
           (try clear hi)
           refine hK.out _ _ ⟨kc_ BK285 0, kc_ BK285 1, kc_ BK285 2, kc_ BK285 3, kc_ BK291 0, kc_ BK291 1, kc_ BK291 2, kc_ BK291 3, kc_ BK276 0, kc_ BK276 1, kc_ BK276 2, kc_ BK276 3, kc_ BK292 0, kc_ BK292 1, kc_ BK292 2, kc_ BK278 0, kc_ BK278 1, kc_ BK278 2, kc_ BK277 0, kc_ BK277 1, kc_ BK277 2, kc_ BK277 3⟩ (fun hHeld => ?_)
           clear hK K
           refine norm_ (a' := ?_) ?_ ?_
           rotate_left
           ·
            show Act.put _ (some 58) _ = _
            simp only [Act.put, List.setIfInBounds_toArray, List.set_cons_zero, List.set_cons_succ, i64_w, i32_w]
            rfl
           refine pu_ 26 (some 59) (bm_ 56 134217727) rfl HT_ ⟨by rfl, by intro w'; go_simp; with_reducible rfl⟩ ?_
           refine pu_ 27 (some 60) (bm_ 56 268435455) rfl HT_ ⟨by rfl, by intro w'; go_simp; with_reducible rfl⟩ ?_
           refine pu_ 28 (some 61) (bm_ 56 536870911) rfl HT_ ⟨by rfl, by intro w'; go_simp; with_reducible rfl⟩ ?_
           refine ta_ 29 (some 62) (bm_ 56 1073741823) rfl HT_ HW_ ⟨by rfl, by rintro w' ⟨s0, s1, s2, s3, s4, s5, s6, s7, s8, s9, s10, s11, s12, s13, s14, s15, s16, s17, s18, s19, s20, s21⟩; go_simp; with_reducible rfl⟩ hHeld ?_
           refine ta_ 30 (some 63) (bm_ 56 2147483647) rfl HT_ HW_ ⟨by rfl, by rintro w' ⟨s0, s1, s2, s3, s4, s5, s6, s7, s8, s9, s10, s11, s12, s13, s14, s15, s16, s17, s18, s19, s20, s21⟩; go_simp; with_reducible rfl⟩ hHeld ?_
           refine ta_ 32 (some 65) (bm_ 56 6442450943) rfl HT_ HW_ ⟨by rfl, by rintro w' ⟨s0, s1, s2, s3, s4, s5, s6, s7, s8, s9, s10, s11, s12, s13, s14, s15, s16, s17, s18, s19, s20, s21⟩; go_simp; with_reducible rfl⟩ hHeld ?_
           refine ta_ 33 (some 66) (bm_ 56 15032385535) rfl HT_ HW_ ⟨by rfl, by rintro w' ⟨s0, s1, s2, s3, s4, s5, s6, s7, s8, s9, s10, s11, s12, s13, s14, s15, s16, s17, s18, s19, s20, s21⟩; go_simp; with_reducible rfl⟩ hHeld ?_
           refine one_ (i := 31) (N := some 64) (bm_ 56 17179869183) rfl rfl (one_of HT_.out (by kernel_rfl)) (by decide) (fun K hK => ?_)
           refine gr_ Tryz.func40 #[.agg #[.bool a0_0, .int .u64 a0_1, .int .u64 a0_2, .int .i64 a0_3], .agg #[.bool a2_0, .int .u64 a2_1, .int .u64 a2_2]] ?_
           with_reducible refine (prefix_Has.calls kj9 a0_0 a0_1 a0_2 a0_3 a2_0 a2_1 a2_2 t305 _ A64.out).mono ?_
           rintro e w78 ⟨rfl, hb⟩
           refine ⟨_, rfl, ?_⟩
           replace BK276 := bb_ BK276 hb
           replace BK277 := bb_ BK277 hb
           replace BK278 := bb_ BK278 hb
           replace BK285 := bb_ BK285 hb
           replace BK291 := bb_ BK291 hb
           replace BK292 := bb_ BK292 hb
           replace HB := bs_ HB hb
           (try clear hb)
           (try clear hb2)
           (try clear hk)
           (try clear hi)
           refine hK.out _ _ ⟨kc_ BK285 0, kc_ BK285 1, kc_ BK285 2, kc_ BK285 3, kc_ BK291 0, kc_ BK291 1, kc_ BK291 2, kc_ BK291 3, kc_ BK276 0, kc_ BK276 1, kc_ BK276 2, kc_ BK276 3, kc_ BK292 0, kc_ BK292 1, kc_ BK292 2, kc_ BK278 0, kc_ BK278 1, kc_ BK278 2, kc_ BK277 0, kc_ BK277 1, kc_ BK277 2, kc_ BK277 3⟩ (fun hHeld => ?_)
           clear hK K
           refine norm_ (a' := ?_) ?_ ?_
           rotate_left
           ·
            show Act.put _ (some 64) _ = _
            simp only [Act.put, List.setIfInBounds_toArray, List.set_cons_zero, List.set_cons_succ, i64_w, i32_w]
            rfl
           refine one_ (i := 34) (N := some 67) (bm_ 56 34359738367) rfl rfl (one_of HT_.out (by kernel_rfl)) (by decide) (fun K hK => ?_)
           refine gr_ Tryz.func41 #[.agg #[.bool a0_0, .int .u64 a0_1, .int .u64 a0_2, .int .i64 a0_3], .agg #[.bool a2_0, .int .u64 a2_1, .int .u64 a2_2]] ?_
           with_reducible refine (platbookref03_Has.calls kj9 a0_0 a0_1 a0_2 a0_3 a2_0 a2_1 a2_2 t306 _ A65.out).mono ?_
           rintro e w79 ⟨rfl, hb⟩
           refine ⟨_, rfl, ?_⟩
           replace BK276 := bb_ BK276 hb
           replace BK277 := bb_ BK277 hb
           replace BK278 := bb_ BK278 hb
           replace BK285 := bb_ BK285 hb
           replace BK291 := bb_ BK291 hb
           replace BK292 := bb_ BK292 hb
           replace HB := bs_ HB hb
           (try clear hb)
           (try clear hb2)
           (try clear hk)
           (try clear hi)
           refine hK.out _ _ ⟨kc_ BK285 0, kc_ BK285 1, kc_ BK285 2, kc_ BK285 3, kc_ BK291 0, kc_ BK291 1, kc_ BK291 2, kc_ BK291 3, kc_ BK276 0, kc_ BK276 1, kc_ BK276 2, kc_ BK276 3, kc_ BK292 0, kc_ BK292 1, kc_ BK292 2, kc_ BK278 0, kc_ BK278 1, kc_ BK278 2, kc_ BK277 0, kc_ BK277 1, kc_ BK277 2, kc_ BK277 3⟩ (fun hHeld => ?_)
           clear hK K
           refine norm_ (a' := ?_) ?_ ?_
           rotate_left
           ·
            show Act.put _ (some 67) _ = _
            simp only [Act.put, List.setIfInBounds_toArray, List.set_cons_zero, List.set_cons_succ, i64_w, i32_w]
            rfl
           refine pu_ 35 (some 68) (bm_ 56 68719476735) rfl HT_ ⟨by rfl, by intro w'; go_simp; with_reducible rfl⟩ ?_
           refine pu_ 36 (some 69) (bm_ 56 137438953471) rfl HT_ ⟨by rfl, by intro w'; go_simp; with_reducible rfl⟩ ?_
           refine pu_ 37 (some 70) (bm_ 56 274877906943) rfl HT_ ⟨by rfl, by intro w'; go_simp; with_reducible rfl⟩ ?_
           refine ta_ 38 (some 71) (bm_ 56 549755813887) rfl HT_ HW_ ⟨by rfl, by rintro w' ⟨s0, s1, s2, s3, s4, s5, s6, s7, s8, s9, s10, s11, s12, s13, s14, s15, s16, s17, s18, s19, s20, s21⟩; go_simp; with_reducible rfl⟩ hHeld ?_
           refine ta_ 39 (some 72) (bm_ 56 1099511627775) rfl HT_ HW_ ⟨by rfl, by rintro w' ⟨s0, s1, s2, s3, s4, s5, s6, s7, s8, s9, s10, s11, s12, s13, s14, s15, s16, s17, s18, s19, s20, s21⟩; go_simp; with_reducible rfl⟩ hHeld ?_
           refine ta_ 41 (some 74) (bm_ 56 3298534883327) rfl HT_ HW_ ⟨by rfl, by rintro w' ⟨s0, s1, s2, s3, s4, s5, s6, s7, s8, s9, s10, s11, s12, s13, s14, s15, s16, s17, s18, s19, s20, s21⟩; go_simp; with_reducible rfl⟩ hHeld ?_
           refine ta_ 42 (some 75) (bm_ 56 7696581394431) rfl HT_ HW_ ⟨by rfl, by rintro w' ⟨s0, s1, s2, s3, s4, s5, s6, s7, s8, s9, s10, s11, s12, s13, s14, s15, s16, s17, s18, s19, s20, s21⟩; go_simp; with_reducible rfl⟩ hHeld ?_
           refine one_ (i := 40) (N := some 73) (bm_ 56 8796093022207) rfl rfl (one_of HT_.out (by kernel_rfl)) (by decide) (fun K hK => ?_)
           refine gr_ Tryz.func32 #[.agg #[.bool a0_0, .int .u64 a0_1, .int .u64 a0_2, .int .i64 a0_3], .agg #[.bool a1_0, .int .u64 a1_1, .int .u64 a1_2, .int .i64 a1_3]] ?_
           with_reducible refine (prefix_Within.calls kj9 a0_0 a0_1 a0_2 a0_3 a1_0 a1_1 a1_2 a1_3 t307 _ A67.out).mono ?_
           rintro e w80 ⟨rfl, hb⟩
           refine ⟨_, rfl, ?_⟩
           replace BK276 := bb_ BK276 hb
           replace BK277 := bb_ BK277 hb
           replace BK278 := bb_ BK278 hb
           replace BK285 := bb_ BK285 hb
           replace BK291 := bb_ BK291 hb
           replace BK292 := bb_ BK292 hb
           replace HB := bs_ HB hb
           (try clear hb)
           (try clear hb2)
           (try clear hk)
           (try clear hi)
           refine hK.out _ _ ⟨kc_ BK285 0, kc_ BK285 1, kc_ BK285 2, kc_ BK285 3, kc_ BK291 0, kc_ BK291 1, kc_ BK291 2, kc_ BK291 3, kc_ BK276 0, kc_ BK276 1, kc_ BK276 2, kc_ BK276 3, kc_ BK292 0, kc_ BK292 1, kc_ BK292 2, kc_ BK278 0, kc_ BK278 1, kc_ BK278 2, kc_ BK277 0, kc_ BK277 1, kc_ BK277 2, kc_ BK277 3⟩ (fun hHeld => ?_)
           clear hK K
           refine norm_ (a' := ?_) ?_ ?_
           rotate_left
           ·
            show Act.put _ (some 73) _ = _
            simp only [Act.put, List.setIfInBounds_toArray, List.set_cons_zero, List.set_cons_succ, i64_w, i32_w]
            rfl
           refine one_ (i := 43) (N := some 76) (bm_ 56 17592186044415) rfl rfl (one_of HT_.out (by kernel_rfl)) (by decide) (fun K hK => ?_)
           refine gr_ Tryz.func42 #[.agg #[.bool a0_0, .int .u64 a0_1, .int .u64 a0_2, .int .i64 a0_3], .agg #[.bool a1_0, .int .u64 a1_1, .int .u64 a1_2, .int .i64 a1_3]] ?_
           with_reducible refine (platbookref03_Within.calls kj9 a0_0 a0_1 a0_2 a0_3 a1_0 a1_1 a1_2 a1_3 t308 _ A68.out).mono ?_
           rintro e w81 ⟨rfl, hb⟩
           refine ⟨_, rfl, ?_⟩
           replace BK276 := bb_ BK276 hb
           replace BK277 := bb_ BK277 hb
           replace BK278 := bb_ BK278 hb
           replace BK285 := bb_ BK285 hb
           replace BK291 := bb_ BK291 hb
           replace BK292 := bb_ BK292 hb
           replace HB := bs_ HB hb
           (try clear hb)
           (try clear hb2)
           (try clear hk)
           (try clear hi)
           refine hK.out _ _ ⟨kc_ BK285 0, kc_ BK285 1, kc_ BK285 2, kc_ BK285 3, kc_ BK291 0, kc_ BK291 1, kc_ BK291 2, kc_ BK291 3, kc_ BK276 0, kc_ BK276 1, kc_ BK276 2, kc_ BK276 3, kc_ BK292 0, kc_ BK292 1, kc_ BK292 2, kc_ BK278 0, kc_ BK278 1, kc_ BK278 2, kc_ BK277 0, kc_ BK277 1, kc_ BK277 2, kc_ BK277 3⟩ (fun hHeld => ?_)
           clear hK K
           refine norm_ (a' := ?_) ?_ ?_
           rotate_left
           ·
            show Act.put _ (some 76) _ = _
            simp only [Act.put, List.setIfInBounds_toArray, List.set_cons_zero, List.set_cons_succ, i64_w, i32_w]
            rfl
           refine pu_ 44 (some 77) (bm_ 56 35184372088831) rfl HT_ ⟨by rfl, by intro w'; go_simp; with_reducible rfl⟩ ?_
           refine pu_ 45 (some 78) (bm_ 56 70368744177663) rfl HT_ ⟨by rfl, by intro w'; go_simp; with_reducible rfl⟩ ?_
           refine pu_ 46 (some 79) (bm_ 56 140737488355327) rfl HT_ ⟨by rfl, by intro w'; go_simp; with_reducible rfl⟩ ?_
           refine ta_ 47 (some 80) (bm_ 56 281474976710655) rfl HT_ HW_ ⟨by rfl, by rintro w' ⟨s0, s1, s2, s3, s4, s5, s6, s7, s8, s9, s10, s11, s12, s13, s14, s15, s16, s17, s18, s19, s20, s21⟩; go_simp; with_reducible rfl⟩ hHeld ?_
           refine ta_ 48 (some 81) (bm_ 56 562949953421311) rfl HT_ HW_ ⟨by rfl, by rintro w' ⟨s0, s1, s2, s3, s4, s5, s6, s7, s8, s9, s10, s11, s12, s13, s14, s15, s16, s17, s18, s19, s20, s21⟩; go_simp; with_reducible rfl⟩ hHeld ?_
           refine ta_ 50 (some 83) (bm_ 56 1688849860263935) rfl HT_ HW_ ⟨by rfl, by rintro w' ⟨s0, s1, s2, s3, s4, s5, s6, s7, s8, s9, s10, s11, s12, s13, s14, s15, s16, s17, s18, s19, s20, s21⟩; go_simp; with_reducible rfl⟩ hHeld ?_
           refine ta_ 51 (some 84) (bm_ 56 3940649673949183) rfl HT_ HW_ ⟨by rfl, by rintro w' ⟨s0, s1, s2, s3, s4, s5, s6, s7, s8, s9, s10, s11, s12, s13, s14, s15, s16, s17, s18, s19, s20, s21⟩; go_simp; with_reducible rfl⟩ hHeld ?_
           refine one_ (i := 49) (N := some 82) (bm_ 56 4503599627370495) rfl rfl (one_of HT_.out (by kernel_rfl)) (by decide) (fun K hK => ?_)
           refine gr_ Tryz.func43 #[.agg #[.bool a0_0, .int .u64 a0_1, .int .u64 a0_2, .int .i64 a0_3], .agg #[.bool a1_0, .int .u64 a1_1, .int .u64 a1_2, .int .i64 a1_3]] ?_
           with_reducible refine (prefix_Overlap.calls kj9 a0_0 a0_1 a0_2 a0_3 a1_0 a1_1 a1_2 a1_3 t309 _ A70.out).mono ?_
           rintro e w82 ⟨rfl, hb⟩
           refine ⟨_, rfl, ?_⟩
           replace BK276 := bb_ BK276 hb
           replace BK277 := bb_ BK277 hb
           replace BK278 := bb_ BK278 hb
           replace BK285 := bb_ BK285 hb
           replace BK291 := bb_ BK291 hb
           replace BK292 := bb_ BK292 hb
           replace HB := bs_ HB hb
           (try clear hb)
           (try clear hb2)
           (try clear hk)
           (try clear hi)
           refine hK.out _ _ ⟨kc_ BK285 0, kc_ BK285 1, kc_ BK285 2, kc_ BK285 3, kc_ BK291 0, kc_ BK291 1, kc_ BK291 2, kc_ BK291 3, kc_ BK276 0, kc_ BK276 1, kc_ BK276 2, kc_ BK276 3, kc_ BK292 0, kc_ BK292 1, kc_ BK292 2, kc_ BK278 0, kc_ BK278 1, kc_ BK278 2, kc_ BK277 0, kc_ BK277 1, kc_ BK277 2, kc_ BK277 3⟩ (fun hHeld => ?_)
           clear hK K
           refine norm_ (a' := ?_) ?_ ?_
           rotate_left
           ·
            show Act.put _ (some 82) _ = _
            simp only [Act.put, List.setIfInBounds_toArray, List.set_cons_zero, List.set_cons_succ, i64_w, i32_w]
            rfl
           refine one_ (i := 52) (N := some 85) (bm_ 56 9007199254740991) rfl rfl (one_of HT_.out (by kernel_rfl)) (by decide) (fun K hK => ?_)
           refine gr_ Tryz.func44 #[.agg #[.bool a0_0, .int .u64 a0_1, .int .u64 a0_2, .int .i64 a0_3], .agg #[.bool a1_0, .int .u64 a1_1, .int .u64 a1_2, .int .i64 a1_3]] ?_
           with_reducible refine (platbookref03_Overlap.calls kj9 a0_0 a0_1 a0_2 a0_3 a1_0 a1_1 a1_2 a1_3 t310 _ A71.out).mono ?_
           rintro e w83 ⟨rfl, hb⟩
           refine ⟨_, rfl, ?_⟩
           replace BK276 := bb_ BK276 hb
           replace BK277 := bb_ BK277 hb
           replace BK278 := bb_ BK278 hb
           replace BK285 := bb_ BK285 hb
           replace BK291 := bb_ BK291 hb
           replace BK292 := bb_ BK292 hb
           replace HB := bs_ HB hb
           (try clear hb)
           (try clear hb2)
           (try clear hk)
           (try clear hi)
           refine hK.out _ _ ⟨kc_ BK285 0, kc_ BK285 1, kc_ BK285 2, kc_ BK285 3, kc_ BK291 0, kc_ BK291 1, kc_ BK291 2, kc_ BK291 3, kc_ BK276 0, kc_ BK276 1, kc_ BK276 2, kc_ BK276 3, kc_ BK292 0, kc_ BK292 1, kc_ BK292 2, kc_ BK278 0, kc_ BK278 1, kc_ BK278 2, kc_ BK277 0, kc_ BK277 1, kc_ BK277 2, kc_ BK277 3⟩ (fun hHeld => ?_)
           clear hK K
           refine norm_ (a' := ?_) ?_ ?_
           rotate_left
           ·
            show Act.put _ (some 85) _ = _
            simp only [Act.put, List.setIfInBounds_toArray, List.set_cons_zero, List.set_cons_succ, i64_w, i32_w]
            rfl
           refine pu_ 53 (some 86) (bm_ 56 18014398509481983) rfl HT_ ⟨by rfl, by intro w'; go_simp; with_reducible rfl⟩ ?_
           refine pu_ 54 (some 87) (bm_ 56 36028797018963967) rfl HT_ ⟨by rfl, by intro w'; go_simp; with_reducible rfl⟩ ?_
           refine pu_ 55 (some 8) (bm_ 56 72057594037927935) rfl HT_ ⟨by rfl, by intro w'; go_simp; with_reducible rfl⟩ ?_
           refine done_ (done_of HT_.out (by kernel_rfl)) ?_
           try go_wp2
           go_ret
           exact ⟨by first | rfl | (simp [errW_none, errW_some] <;> rfl) | (simp [*, errW_none, errW_some] <;> rfl), pb_ HB⟩
          ·
           rw [if_neg c69] at H
           have c69b0 : (t307 == t308) = false := by simpa using c69
           (try (have c69b1 : decide (t307 = t308) = false := by simpa using c69))
           (try (have c69b2 : (t307 == t308) = false := by simpa using c69))
           (try (have c69b3 : ¬ (t307 = t308) := by simpa using c69))
           clear c69
           obtain rfl := Option.some.inj H
           exact absurd HRT.out (by decide)
         ·
          rw [if_neg c66] at H
          have c66b0 : (t305 == t306) = false := by simpa using c66
          (try (have c66b1 : decide (t305 = t306) = false := by simpa using c66))
          (try (have c66b2 : (t305 == t306) = false := by simpa using c66))
          (try (have c66b3 : ¬ (t305 = t306) := by simpa using c66))
          clear c66
          obtain rfl := Option.some.inj H
          exact absurd HRT.out (by decide)
        ·
         rw [if_neg c63] at H
         have c63b0 : (t299 == t302 && ((t300 == t303 && (t301 == t304)))) = false := by simpa using c63
         (try (have c63b1 : decide (t299 = t302 && ((t300 == t303 && (t301 == t304)))) = false := by simpa using c63))
         (try (have c63b2 : (t299 == t302 && ((t300 == t303 && (t301 == t304)))) = false := by simpa using c63))
         (try (have c63b3 : ¬ (t299 = t302 && ((t300 == t303 && (t301 == t304)))) := by simpa using c63))
         clear c63
         obtain rfl := Option.some.inj H
         exact absurd HRT.out (by decide)
       ·
        rw [if_neg c60] at H
        have c60b0 : (t296 == x293000_9 && ((t297 == x293001_9 && (t298 == x293002_9)))) = false := by simpa using c60
        (try (have c60b1 : decide (t296 = x293000_9 && ((t297 == x293001_9 && (t298 == x293002_9)))) = false := by simpa using c60))
        (try (have c60b2 : (t296 == x293000_9 && ((t297 == x293001_9 && (t298 == x293002_9)))) = false := by simpa using c60))
        (try (have c60b3 : ¬ (t296 = x293000_9 && ((t297 == x293001_9 && (t298 == x293002_9)))) := by simpa using c60))
        clear c60
        obtain rfl := Option.some.inj H
        exact absurd HRT.out (by decide)
      ·
       rw [if_neg c58] at H
       have c58b0 : (t294 == t295) = false := by simpa using c58
       (try (have c58b1 : decide (t294 = t295) = false := by simpa using c58))
       (try (have c58b2 : (t294 == t295) = false := by simpa using c58))
       (try (have c58b3 : ¬ (t294 = t295) := by simpa using c58))
       clear c58
       obtain rfl := Option.some.inj H
       exact absurd HRT.out (by decide)
     ·
      rw [if_neg c55] at H
      have c55b0 : (t284 == t290) = false := beq_eq_false_iff_ne.mpr c55
      have c55b1 : (t284 != t290) = true := bne_iff_ne.mpr c55
      obtain rfl := Option.some.inj H
      exact absurd HRT.out (by decide)
    ·
     rw [if_neg c54] at H
     have c54b0 : ((t280 == t286 && ((t281 == t287 && (t282 == t288)))) && (t283 == t289)) = false := by simpa using c54
     clear c54
     obtain rfl := Option.some.inj H
     exact absurd HRT.out (by decide)
 ·
  replace c6 := Bool.eq_false_iff.mpr c6
  subst c6
  have H1 : (some false) = some r := by rw [if_neg (show ¬ (false = true) by decide)] at H; exact H
  clear H
  have H := H1
  clear H1
  obtain rfl := Option.some.inj H
  exact absurd HRT.out (by decide)

end Go.Proofs.YtgdgklibilddgaaGreatDoor.PPr

namespace Go.Proofs.YtgdgklibilddgaaGreatDoor
open Go.RowKit Go.Proofs.YtgdgklibilddgaaGreatDoorW.PrintWords Go.Proofs.YtgdgklibilddgaaGreatDoor.PPr

/-- the lowest d bits, the lowest one first -/
def rowL : Nat → Nat → List Int
  | _, 0 => []
  | x, d + 1 => ((x % 2 : Nat) : Int) :: rowL (x / 2) d
theorem rowL_succ (x d : Nat) : rowL x (d + 1) = ((x % 2 : Nat) : Int) :: rowL (x / 2) d := rfl
theorem bit_nat {b : Int} (h : b = 0 ∨ b = 1) : ∃ c : Nat, b = (c : Int) ∧ c ≤ 1 := by
  rcases h with rfl | rfl
  · exact ⟨0, rfl, by omega⟩
  · exact ⟨1, rfl, by omega⟩
theorem rowL_len : ∀ (d x : Nat), (rowL x d).length = d
  | 0, _ => rfl
  | d + 1, x => by simp [rowL, rowL_len d]
theorem rowL_add : ∀ (a b x : Nat), rowL x (a + b) = rowL x a ++ rowL (x / 2 ^ a) b
  | 0, b, x => by simp [rowL]
  | a + 1, b, x => by
    rw [show a + 1 + b = (a + b) + 1 by omega, rowL, rowL_add a b, rowL, List.cons_append, Nat.div_div_eq_div_mul, Nat.pow_succ, Nat.mul_comm 2]
theorem rowL_mod : ∀ (a h l : Nat), rowL (h * 2 ^ a + l) a = rowL l a
  | 0, _, _ => rfl
  | a + 1, h, l => by
    have e : h * 2 ^ (a + 1) = 2 * (h * 2 ^ a) := by rw [Nat.pow_succ]; rw [← Nat.mul_assoc, Nat.mul_comm 2]
    rw [rowL, rowL, show (h * 2 ^ (a + 1) + l) % 2 = l % 2 by omega, show (h * 2 ^ (a + 1) + l) / 2 = h * 2 ^ a + l / 2 by omega, rowL_mod a h]
theorem rowL_join {a b h l : Nat} (hl : l < 2 ^ a) : rowL (h * 2 ^ a + l) (a + b) = rowL l a ++ rowL h b := by
  rw [rowL_add, rowL_mod]
  congr 2
  rw [Nat.mul_comm, Nat.mul_add_div (Nat.two_pow_pos a), Nat.div_eq_of_lt hl, Nat.add_zero]
theorem rowL_bit : ∀ (d x : Nat), ∀ b ∈ rowL x d, b = 0 ∨ b = 1
  | 0, _, b, h => by cases h
  | d + 1, x, b, h => by
    rw [rowL] at h
    rcases List.mem_cons.1 h with rfl | h
    · omega
    · exact rowL_bit d (x / 2) b h
theorem tmod2 (x : Nat) : wrap64 (Int.tmod (x : Int) 2) = ((x % 2 : Nat) : Int) := by
  rw [Int.tmod_eq_emod_of_nonneg (by omega)]; unfold wrap64; omega
theorem tdiv2 (x : Nat) (h : x < 18446744073709551616) : IntKind.u64.wrap (Int.tdiv (x : Int) 2) = ((x / 2 : Nat) : Int) := by
  rw [Int.tdiv_eq_ediv_of_nonneg (by omega)]
  show ((x : Int) / 2) % 18446744073709551616 = _
  omega
theorem w64 {i : Int} (h0 : -9223372036854775808 ≤ i) (h : i < 9223372036854775808) : wrap64 i = i := by unfold wrap64; omega
theorem pbits_l1 (d : Nat) : ∀ (k : Nat) (acc : List Int) (x : Nat), d ≤ 64 → x < 18446744073709551616 → acc.length + d ≤ 1000 → platbookref01_Bits.l1 (k + d + 1) acc x (64 - (d : Int)) = some (acc ++ rowL x d) := by
  induction d with
  | zero => intro k acc x _ _ _; rw [platbookref01_Bits.l1, if_neg (by omega)]; simp [rowL]
  | succ d ih =>
    intro k acc x hd hx ha
    rw [show k + (d + 1) + 1 = (k + d + 1) + 1 by omega, platbookref01_Bits.l1, if_pos (by omega), if_pos (by omega), tmod2, tdiv2 x hx, w64 (by omega) (by omega), show (64 : Int) - ((d + 1 : Nat) : Int) + 1 = 64 - (d : Int) by omega, ih k _ (x / 2) (by omega) (by omega) (by simp; omega), rowL_succ x d]
    simp
theorem pbits_l0 (d : Nat) : ∀ (k : Nat) (acc : List Int) (x h : Nat), d ≤ 64 → x < 18446744073709551616 → h < 18446744073709551616 → acc.length + d + 64 ≤ 1000 → platbookref01_Bits.l0 (k + d + 66) acc x h (64 - (d : Int)) = some (acc ++ rowL x d ++ rowL h 64) := by
  induction d with
  | zero =>
    intro k acc x h _ _ hh ha
    rw [show k + 0 + 66 = (k + 64 + 1) + 1 by omega, platbookref01_Bits.l0, if_neg (by omega)]
    have := pbits_l1 64 k acc h (by omega) hh (by omega)
    rw [show (64 : Int) - ((64 : Nat) : Int) = 0 by omega] at this
    rw [this]; simp [rowL]
  | succ d ih =>
    intro k acc x h hd hx hh ha
    rw [show k + (d + 1) + 66 = (k + d + 66) + 1 by omega, platbookref01_Bits.l0, if_pos (by omega), if_pos (by omega), tmod2, tdiv2 x hx, w64 (by omega) (by omega), show (64 : Int) - ((d + 1 : Nat) : Int) + 1 = 64 - (d : Int) by omega, ih k _ (x / 2) h (by omega) (by omega) hh (by simp; omega), rowL_succ x d]
    simp
theorem pbits_f (k n : Nat) (hn : n < 340282366920938463463374607431768211456) : platbookref01_Bits.f (k + 130) (hi n) (lo n) = some (rowL n 128) := by
  unfold platbookref01_Bits.f hi lo
  have := pbits_l0 64 k [] (n % 18446744073709551616) (n / 18446744073709551616 % 18446744073709551616) (by omega) (by omega) (by omega) (by simp)
  rw [show (64 : Int) - ((64 : Nat) : Int) = 0 by omega] at this
  rw [show k + 130 = k + 64 + 66 by omega, this]
  have e := rowL_join (a := 64) (b := 64) (h := n / 18446744073709551616 % 18446744073709551616) (l := n % 18446744073709551616) (Nat.mod_lt _ (by decide))
  rw [show (2 : Nat) ^ 64 = 18446744073709551616 by decide, show n / 18446744073709551616 % 18446744073709551616 * 18446744073709551616 + n % 18446744073709551616 = n by omega] at e
  rw [List.nil_append, ← e]
/-- an address's bits, the highest one first -/
def rowT (n w : Nat) : List Int := (rowL n w).reverse
theorem prow_l0 (j : Nat) : ∀ (k : Nat) (xs acc : List Int), j ≤ xs.length → xs.length ≤ 1000 → acc.length + j ≤ 1000 → platbookref03_Row.l0 (k + j + 1) xs acc ((j : Int) - 1) = some (acc ++ (xs.take j).reverse) := by
  induction j with
  | zero => intro k xs acc _ _ _; rw [platbookref03_Row.l0, if_neg (by omega)]; simp
  | succ j ih =>
    intro k xs acc hj hx ha
    have e : rd xs (((j + 1 : Nat) : Int) - 1) = xs[j] := by
      unfold rd; rw [show ((((j + 1 : Nat) : Int) - 1)).toNat = j by omega]; simp [List.getD, List.getElem?_eq_getElem (show j < xs.length by omega)]
    rw [show k + (j + 1) + 1 = (k + j + 1) + 1 by omega, platbookref03_Row.l0, if_pos (by omega), if_pos (by omega), if_pos (by omega), if_pos (by omega), w64 (by omega) (by omega), e, show ((j + 1 : Nat) : Int) - 1 - 1 = (j : Int) - 1 by omega, ih k xs _ (by omega) hx (by simp; omega), List.take_succ_eq_append_getElem (show j < xs.length by omega), List.reverse_append]
    simp
theorem width_hl (v : Bool) (n : Nat) : platbookref02_Width.f v (hi n) (lo n) = some ((widthN v : Nat) : Int) := by
  unfold platbookref02_Width.f; rw [if_pos (by simpa using okW_hl n)]
theorem widthN_le (v : Bool) : widthN v ≤ 128 := by cases v <;> decide
theorem widthN_pos (v : Bool) : 32 ≤ widthN v := by cases v <;> decide
theorem prow_f (k : Nat) (v : Bool) (n : Nat) (hn : n < 340282366920938463463374607431768211456) : platbookref03_Row.f (k + 300) v (hi n) (lo n) = some (rowT n (widthN v)) := by
  unfold platbookref03_Row.f
  rw [show k + 300 = (k + 170) + 130 by omega, pbits_f _ n hn, width_hl]
  simp only [Option.bind_some]
  have hw := widthN_le v
  have hp := widthN_pos v
  rw [w64 (by omega) (by omega), show k + 170 + 130 = (k + 299 - widthN v) + widthN v + 1 by omega, prow_l0 _ _ _ _ (by rw [rowL_len]; exact hw) (by rw [rowL_len]; omega) (by simp; omega)]
  have e : rowL n 128 = rowL n (widthN v) ++ rowL (n / 2 ^ widthN v) (128 - widthN v) := by rw [← rowL_add]; congr 1; omega
  rw [e, List.take_left' (rowL_len _ _)]; rfl
/-- the number of a row of bits, the lowest one first -/
def valL : List Int → Nat
  | [] => 0
  | b :: r => b.toNat + 2 * valL r
theorem valL_append : ∀ (a b : List Int), valL (a ++ b) = valL a + 2 ^ a.length * valL b
  | [], b => by simp [valL]
  | x :: a, b => by rw [List.cons_append, valL, valL, valL_append a b, List.length_cons, Nat.pow_succ, Nat.mul_add]; rw [Nat.mul_comm (2 ^ a.length) 2, Nat.mul_assoc]; omega
theorem valL_lt : ∀ (a : List Int), (∀ b ∈ a, b = 0 ∨ b = 1) → valL a < 2 ^ a.length
  | [], _ => by simp [valL]
  | x :: a, h => by
    have h1 := valL_lt a (fun b hb => h b (by simp [hb]))
    have h2 := h x (by simp)
    rw [valL, List.length_cons, Nat.pow_succ]
    rcases h2 with rfl | rfl
    · simp; omega
    · simp; omega
theorem valL_row : ∀ (d x : Nat), valL (rowL x d) = x % 2 ^ d
  | 0, x => by simp [rowL, valL, Nat.mod_one]
  | d + 1, x => by
    rw [rowL, valL, valL_row d, Nat.pow_succ, Nat.mul_comm (2 ^ d) 2, Nat.mod_mul]
    omega
theorem valL_rep (d : Nat) : valL (List.replicate d 0) = 0 := by
  induction d with
  | zero => rfl
  | succ d ih => rw [List.replicate_succ, valL, ih]; rfl
theorem valL_ones (d : Nat) : valL (List.replicate d 1) = 2 ^ d - 1 := by
  induction d with
  | zero => rfl
  | succ d ih => rw [List.replicate_succ, valL, ih, Nat.pow_succ]; have := Nat.two_pow_pos d; simp; omega
theorem u64w {x : Nat} (h : x < 18446744073709551616) : IntKind.u64.wrap (x : Int) = (x : Int) := by show (x : Int) % 18446744073709551616 = _; omega
theorem pnum_l1 (j : Nat) : ∀ (k : Nat) (L : List Int) (H x : Nat), (∀ b ∈ L, b = 0 ∨ b = 1) → L.length ≤ 1000 → j ≤ 1000 → x * 2 ^ j + valL (L.take j) < 18446744073709551616 → platbookref01_Num.l1 (k + j + 1) L ((j : Int) - 1) H x = some ((H : Int), ((x * 2 ^ j + valL (L.take j) : Nat) : Int)) := by
  induction j with
  | zero => intro k L H x _ _ _ _; rw [platbookref01_Num.l1, if_neg (by omega)]; simp [valL]
  | succ j ih =>
    intro k L H x hb hl hj hx
    have hp : 2 ^ (j + 1) = 2 * 2 ^ j := by rw [Nat.pow_succ]; omega
    have hp0 := Nat.two_pow_pos j
    rw [show k + (j + 1) + 1 = (k + j + 1) + 1 by omega, platbookref01_Num.l1, if_pos (by omega)]
    by_cases h : j < L.length
    · have e : L.take (j + 1) = L.take j ++ [L[j]] := List.take_succ_eq_append_getElem h
      have hbj : L[j] = 0 ∨ L[j] = 1 := hb _ (List.getElem_mem h)
      obtain ⟨c, hc, hc2⟩ : ∃ c : Nat, L[j] = (c : Int) ∧ c ≤ 1 := by exact bit_nat hbj
      have er : rd L (((j + 1 : Nat) : Int) - 1) = (c : Int) := by
        unfold rd; rw [show ((((j + 1 : Nat) : Int) - 1)).toNat = j by omega]; simp [List.getD, List.getElem?_eq_getElem h, hc]
      have ev : valL (L.take (j + 1)) = valL (L.take j) + 2 ^ j * c := by
        rw [e, valL_append, List.length_take, Nat.min_eq_left (by omega), hc]; simp [valL]
      have e2 : x * 2 ^ (j + 1) + valL (L.take (j + 1)) = (2 * x + c) * 2 ^ j + valL (L.take j) := by
        rw [ev, hp, Nat.add_mul, Nat.mul_comm (2 ^ j) c, ← Nat.mul_assoc, Nat.mul_comm x 2]; omega
      rw [e2] at hx ⊢
      have hx2 : (2 * x + c) * 1 ≤ (2 * x + c) * 2 ^ j := Nat.mul_le_mul_left _ hp0
      rw [if_pos (by omega), if_pos (by omega), er, w64 (by omega) (by omega), show ((x : Int) * 2) = ((2 * x : Nat) : Int) by omega, u64w (x := 2 * x) (by omega), u64w (x := c) (by omega), show ((2 * x : Nat) : Int) + (c : Int) = ((2 * x + c : Nat) : Int) by omega, u64w (by omega), show ((j + 1 : Nat) : Int) - 1 - 1 = (j : Int) - 1 by omega]
      exact ih k L H (2 * x + c) hb hl (by omega) hx
    · have e : L.take (j + 1) = L.take j := by rw [List.take_of_length_le (by omega), List.take_of_length_le (by omega)]
      have e2 : x * 2 ^ (j + 1) + valL (L.take (j + 1)) = (2 * x) * 2 ^ j + valL (L.take j) := by
        rw [e, hp, ← Nat.mul_assoc, Nat.mul_comm x 2]
      rw [e2] at hx ⊢
      have hx2 : (2 * x) * 1 ≤ (2 * x) * 2 ^ j := Nat.mul_le_mul_left _ hp0
      rw [if_neg (by omega), w64 (by omega) (by omega), show ((x : Int) * 2) = ((2 * x : Nat) : Int) by omega, u64w (by omega), show ((j + 1 : Nat) : Int) - 1 - 1 = (j : Int) - 1 by omega]
      exact ih k L H (2 * x) hb hl (by omega) hx
theorem pnum_l0 (j : Nat) : ∀ (k : Nat) (L : List Int) (x : Nat), (∀ b ∈ L, b = 0 ∨ b = 1) → L.length ≤ 1000 → j ≤ 64 → x * 2 ^ j + valL ((L.drop 64).take j) < 18446744073709551616 → platbookref01_Num.l0 (k + j + 66) L (64 + (j : Int) - 1) x 0 = some (((x * 2 ^ j + valL ((L.drop 64).take j) : Nat) : Int), ((valL (L.take 64) : Nat) : Int)) := by
  induction j with
  | zero =>
    intro k L x hb hl _ _
    rw [show k + 0 + 66 = (k + 64 + 1) + 1 by omega, platbookref01_Num.l0, if_neg (by omega)]
    have hv : valL (L.take 64) < 2 ^ 64 := Nat.lt_of_lt_of_le (valL_lt _ (fun b h => hb b (List.mem_of_mem_take h))) (Nat.pow_le_pow_right (by omega) (by rw [List.length_take]; omega))
    have := pnum_l1 64 k L x 0 hb hl (by omega) (by rw [Nat.zero_mul, Nat.zero_add]; exact hv)
    rw [show ((64 : Nat) : Int) - 1 = 63 by omega, show k + 64 + 1 = k + 65 from rfl, show ((0 : Nat) : Int) = 0 from rfl] at this
    rw [this]; simp [valL]
  | succ j ih =>
    intro k L x hb hl hj hx
    have hp : 2 ^ (j + 1) = 2 * 2 ^ j := by rw [Nat.pow_succ]; omega
    have hp0 := Nat.two_pow_pos j
    rw [show k + (j + 1) + 66 = (k + j + 66) + 1 by omega, platbookref01_Num.l0, if_pos (by omega)]
    by_cases h : 64 + j < L.length
    · have hd : j < (L.drop 64).length := by rw [List.length_drop]; omega
      have e : (L.drop 64).take (j + 1) = (L.drop 64).take j ++ [L[64 + j]] := by rw [List.take_succ_eq_append_getElem hd, List.getElem_drop]
      have hbj : L[64 + j] = 0 ∨ L[64 + j] = 1 := hb _ (List.getElem_mem h)
      obtain ⟨c, hc, hc2⟩ : ∃ c : Nat, L[64 + j] = (c : Int) ∧ c ≤ 1 := by exact bit_nat hbj
      have er : rd L (64 + ((j + 1 : Nat) : Int) - 1) = (c : Int) := by
        unfold rd; rw [show (64 + ((j + 1 : Nat) : Int) - 1).toNat = 64 + j by omega]; simp [List.getD, List.getElem?_eq_getElem h, hc]
      have ev : valL ((L.drop 64).take (j + 1)) = valL ((L.drop 64).take j) + 2 ^ j * c := by
        rw [e, valL_append, List.length_take, Nat.min_eq_left (by omega), hc]; simp [valL]
      have e2 : x * 2 ^ (j + 1) + valL ((L.drop 64).take (j + 1)) = (2 * x + c) * 2 ^ j + valL ((L.drop 64).take j) := by
        rw [ev, hp, Nat.add_mul, Nat.mul_comm (2 ^ j) c, ← Nat.mul_assoc, Nat.mul_comm x 2]; omega
      rw [e2] at hx ⊢
      have hx2 : (2 * x + c) * 1 ≤ (2 * x + c) * 2 ^ j := Nat.mul_le_mul_left _ hp0
      rw [if_pos (by omega), if_pos (by omega), er, w64 (by omega) (by omega), show ((x : Int) * 2) = ((2 * x : Nat) : Int) by omega, u64w (x := 2 * x) (by omega), u64w (x := c) (by omega), show ((2 * x : Nat) : Int) + (c : Int) = ((2 * x + c : Nat) : Int) by omega, u64w (by omega), show 64 + ((j + 1 : Nat) : Int) - 1 - 1 = 64 + (j : Int) - 1 by omega]
      exact ih k L (2 * x + c) hb hl (by omega) hx
    · have hd : (L.drop 64).length ≤ j := by rw [List.length_drop]; omega
      have e : (L.drop 64).take (j + 1) = (L.drop 64).take j := by rw [List.take_of_length_le (by omega), List.take_of_length_le (by omega)]
      have e2 : x * 2 ^ (j + 1) + valL ((L.drop 64).take (j + 1)) = (2 * x) * 2 ^ j + valL ((L.drop 64).take j) := by
        rw [e, hp, ← Nat.mul_assoc, Nat.mul_comm x 2]
      rw [e2] at hx ⊢
      have hx2 : (2 * x) * 1 ≤ (2 * x) * 2 ^ j := Nat.mul_le_mul_left _ hp0
      rw [if_neg (by omega), w64 (by omega) (by omega), show ((x : Int) * 2) = ((2 * x : Nat) : Int) by omega, u64w (by omega), show 64 + ((j + 1 : Nat) : Int) - 1 - 1 = 64 + (j : Int) - 1 by omega]
      exact ih k L (2 * x) hb hl (by omega) hx
theorem pnum_f (k : Nat) (L : List Int) (hb : ∀ b ∈ L, b = 0 ∨ b = 1) (hl : L.length ≤ 128) : platbookref01_Num.f (k + 130) L = some (hi (valL L), lo (valL L)) := by
  unfold platbookref01_Num.f
  have hbd : ∀ b ∈ L.drop 64, b = 0 ∨ b = 1 := fun b h => hb b (List.mem_of_mem_drop h)
  have hv : valL (L.drop 64) < 2 ^ 64 := Nat.lt_of_lt_of_le (valL_lt _ hbd) (Nat.pow_le_pow_right (by omega) (by rw [List.length_drop]; omega))
  have ht : (L.drop 64).take 64 = L.drop 64 := List.take_of_length_le (by rw [List.length_drop]; omega)
  have := pnum_l0 64 k L 0 hb (by omega) (by omega) (by rw [Nat.zero_mul, Nat.zero_add, ht]; exact hv)
  rw [show (64 : Int) + ((64 : Nat) : Int) - 1 = 127 by omega, Nat.zero_mul, Nat.zero_add, ht] at this
  rw [show k + 130 = k + 64 + 66 by omega]
  rw [show ((0 : Nat) : Int) = 0 from rfl] at this
  rw [this]
  have hlo : valL (L.take 64) < 2 ^ 64 := Nat.lt_of_lt_of_le (valL_lt _ (fun b h => hb b (List.mem_of_mem_take h))) (Nat.pow_le_pow_right (by omega) (by rw [List.length_take]; omega))
  have e : valL L = valL (L.take 64) + 2 ^ (L.take 64).length * valL (L.drop 64) := by rw [← valL_append, List.take_append_drop]
  have e2 : valL L = valL (L.take 64) + 18446744073709551616 * valL (L.drop 64) := by
    by_cases h : 64 ≤ L.length
    · rw [e, List.length_take, Nat.min_eq_left h]
    · have : L.drop 64 = [] := List.drop_eq_nil_of_le (by omega)
      rw [e, this]; simp [valL]
  rw [show (2 : Nat) ^ 64 = 18446744073709551616 by decide] at hv hlo
  unfold hi lo
  rw [show valL L / 18446744073709551616 % 18446744073709551616 = valL (L.drop 64) by omega, show valL L % 18446744073709551616 = valL (L.take 64) by omega]
theorem paddr_l0 (j : Nat) : ∀ (k : Nat) (v : Bool) (xs acc : List Int), j ≤ xs.length → xs.length ≤ 128 → acc.length + j ≤ 128 → (∀ b ∈ xs, b = 0 ∨ b = 1) → (∀ b ∈ acc, b = 0 ∨ b = 1) → platbookref03_Addr.l0 (k + j + 131) v xs acc ((j : Int) - 1) = some (v, hi (valL (acc ++ (xs.take j).reverse)), lo (valL (acc ++ (xs.take j).reverse))) := by
  induction j with
  | zero =>
    intro k v xs acc _ _ ha hb1 hb2
    rw [show k + 0 + 131 = (k + 130) + 1 by omega, platbookref03_Addr.l0, if_neg (by omega), pnum_f k acc hb2 (by omega)]
    simp
  | succ j ih =>
    intro k v xs acc hj hx ha hb1 hb2
    have e : rd xs (((j + 1 : Nat) : Int) - 1) = xs[j] := by
      unfold rd; rw [show ((((j + 1 : Nat) : Int) - 1)).toNat = j by omega]; simp [List.getD, List.getElem?_eq_getElem (show j < xs.length by omega)]
    rw [show k + (j + 1) + 131 = (k + j + 131) + 1 by omega, platbookref03_Addr.l0, if_pos (by omega), if_pos (by omega), if_pos (by omega), if_pos (by omega), w64 (by omega) (by omega), e, show ((j + 1 : Nat) : Int) - 1 - 1 = (j : Int) - 1 by omega, ih k v xs _ (by omega) hx (by simp; omega) hb1 (by
      intro b h
      rcases List.mem_append.1 h with h | h
      · exact hb2 b h
      · rw [List.mem_singleton] at h; subst h; exact hb1 _ (List.getElem_mem _)), List.take_succ_eq_append_getElem (show j < xs.length by omega), List.reverse_append]
    simp
theorem paddr_f (k : Nat) (v : Bool) (xs : List Int) (hx : xs.length ≤ 128) (hb : ∀ b ∈ xs, b = 0 ∨ b = 1) : platbookref03_Addr.f (k + 300) v xs = some (v, hi (valL xs.reverse), lo (valL xs.reverse)) := by
  unfold platbookref03_Addr.f
  rw [w64 (by omega) (by omega), show k + 300 = (k + 169 - xs.length) + xs.length + 131 by omega, paddr_l0 _ _ _ _ _ (Nat.le_refl _) hx (by simpa using hx) hb (by simp)]
  simp
theorem pfilled_l0 (d : Nat) : ∀ (k i : Nat) (bit : Int) (xs : List Int) (v : Bool) (h l : Int), i + d = xs.length → xs.length ≤ 128 → (∀ b ∈ xs, b = 0 ∨ b = 1) → (bit = 0 ∨ bit = 1) → platbookref03_Filled.l0 (k + d + 301) bit xs i v h l = some (v, hi (valL (xs.take i ++ List.replicate d bit).reverse), lo (valL (xs.take i ++ List.replicate d bit).reverse)) := by
  induction d with
  | zero =>
    intro k i bit xs v h l hi hx hb _
    rw [show k + 0 + 301 = (k + 300) + 1 by omega, platbookref03_Filled.l0, if_neg (by omega), paddr_f k v xs hx hb, List.take_of_length_le (by omega)]
    simp
  | succ d ih =>
    intro k i bit xs v h l hi hx hb hbit
    rw [show k + (d + 1) + 301 = (k + d + 301) + 1 by omega, platbookref03_Filled.l0, if_pos (by omega), if_pos (by omega), w64 (by omega) (by omega), show ((i : Int)).toNat = i by omega, show (i : Int) + 1 = ((i + 1 : Nat) : Int) by omega, ih k (i + 1) bit (xs.set i bit) v h l (by rw [List.length_set]; omega) (by rw [List.length_set]; omega) (by
      intro b h
      rcases List.mem_or_eq_of_mem_set h with h | rfl
      · exact hb b h
      · exact hbit) hbit]
    have e : (xs.set i bit).take (i + 1) = xs.take i ++ [bit] := by
      rw [List.take_succ_eq_append_getElem (by rw [List.length_set]; omega), List.getElem_set_self, List.take_set_of_le (Nat.le_refl _)]
    rw [e, List.append_assoc, List.replicate_succ]; rfl
theorem rowT_len (n w : Nat) : (rowT n w).length = w := by unfold rowT; rw [List.length_reverse, rowL_len]
theorem pfilled_f (k : Nat) (v : Bool) (n : Nat) (i : Nat) (bit : Int) (hn : n < 340282366920938463463374607431768211456) (hi' : i ≤ widthN v) (hbit : bit = 0 ∨ bit = 1) : platbookref03_Filled.f (k + 500) v (hi n) (lo n) i bit = some (v, hi (n / 2 ^ (widthN v - i) % 2 ^ i * 2 ^ (widthN v - i) + bit.toNat * (2 ^ (widthN v - i) - 1)), lo (n / 2 ^ (widthN v - i) % 2 ^ i * 2 ^ (widthN v - i) + bit.toNat * (2 ^ (widthN v - i) - 1))) := by
  unfold platbookref03_Filled.f
  have hw := widthN_le v
  rw [show k + 500 = (k + 200) + 300 by omega, prow_f _ v n hn]
  simp only [Option.bind_some]
  rw [show k + 200 + 300 = (k + 199 - (widthN v - i)) + (widthN v - i) + 301 by omega, pfilled_l0 (widthN v - i) _ i bit _ v _ _ (by rw [rowT_len]; omega) (by rw [rowT_len]; omega) (by intro b h; unfold rowT at h; rw [List.mem_reverse] at h; exact rowL_bit _ _ b h) hbit]
  have e : valL ((rowT n (widthN v)).take i ++ List.replicate (widthN v - i) bit).reverse = n / 2 ^ (widthN v - i) % 2 ^ i * 2 ^ (widthN v - i) + bit.toNat * (2 ^ (widthN v - i) - 1) := by
    rw [List.reverse_append, List.reverse_replicate, valL_append, List.length_replicate]
    have e1 : ((rowT n (widthN v)).take i).reverse = rowL (n / 2 ^ (widthN v - i)) i := by
      unfold rowT
      rw [show widthN v = (widthN v - i) + i by omega, rowL_add, List.reverse_append, List.take_left' (by rw [List.length_reverse, rowL_len]), List.reverse_reverse]
      rw [show widthN v - i + i - i = widthN v - i by omega]
    have e2 : valL (List.replicate (widthN v - i) bit) = bit.toNat * (2 ^ (widthN v - i) - 1) := by
      rcases hbit with rfl | rfl
      · rw [valL_rep]; simp
      · rw [valL_ones]; simp
    rw [e1, valL_row, e2, Nat.mul_comm (2 ^ (widthN v - i))]
    omega
  rw [e]
/-- how many first ones two rows have alike -/
def alikeL : List Int → List Int → Nat
  | a :: x, b :: y => if a = b then alikeL x y + 1 else 0
  | _, _ => 0
theorem palike_l0 (d : Nat) : ∀ (k i : Nat) (x y : List Int), i + d = x.length → x.length = y.length → x.length ≤ 1000 → platbookref03_Alike.l0 (k + d + 1) x y i = some (((i + alikeL (x.drop i) (y.drop i) : Nat)) : Int) := by
  induction d with
  | zero =>
    intro k i x y hi hxy _
    rw [platbookref03_Alike.l0, if_neg (by omega), List.drop_eq_nil_of_le (by omega)]; rfl
  | succ d ih =>
    intro k i x y hi hxy hx
    have e1 : rd x (i : Int) = x[i] := by unfold rd; simp [List.getD, List.getElem?_eq_getElem (show i < x.length by omega)]
    have e2 : rd y (i : Int) = y[i] := by unfold rd; simp [List.getD, List.getElem?_eq_getElem (show i < y.length by omega)]
    rw [show k + (d + 1) + 1 = (k + d + 1) + 1 by omega, platbookref03_Alike.l0, if_pos (by omega), if_pos (by omega), if_pos (by omega), e1, e2, List.drop_eq_getElem_cons (show i < x.length by omega), List.drop_eq_getElem_cons (show i < y.length by omega), alikeL]
    by_cases h : x[i] = y[i]
    · rw [if_pos h, if_pos h, w64 (by omega) (by omega), show (i : Int) + 1 = ((i + 1 : Nat) : Int) by omega, ih k (i + 1) x y (by omega) hxy hx]
      congr 2; omega
    · rw [if_neg h, if_neg h]; simp
theorem palike_f (k : Nat) (x y : List Int) (hxy : x.length = y.length) (hx : x.length ≤ 128) : platbookref03_Alike.f (k + 200) x y = some ((alikeL x y : Nat) : Int) := by
  unfold platbookref03_Alike.f
  have := palike_l0 x.length (k + 199 - x.length) 0 x y (by omega) hxy (by omega)
  rw [show k + 199 - x.length + x.length + 1 = k + 200 by omega] at this
  rw [show ((0 : Nat) : Int) = 0 from rfl] at this
  rw [this]; simp
theorem rowT_succ (n w : Nat) : rowT n (w + 1) = ((n / 2 ^ w % 2 : Nat) : Int) :: rowT n w := by
  unfold rowT; rw [rowL_add, List.reverse_append]; rfl
theorem alike_ge (x y : Nat) : ∀ (w b : Nat), b ≤ w → (b ≤ alikeL (rowT x w) (rowT y w) ↔ x / 2 ^ (w - b) % 2 ^ b = y / 2 ^ (w - b) % 2 ^ b)
  | 0, b, h => by
    have : b = 0 := by omega
    subst this; simp [Nat.mod_one]
  | w + 1, 0, h => by simp [Nat.mod_one]
  | w + 1, b + 1, h => by
    have ih := alike_ge x y w b (by omega)
    have key : ∀ z : Nat, z / 2 ^ (w - b) % 2 ^ (b + 1) = z / 2 ^ (w - b) % 2 ^ b + 2 ^ b * (z / 2 ^ w % 2) := by
      intro z
      have e := Nat.mod_pow_succ (x := z / 2 ^ (w - b)) (b := 2) (k := b)
      rw [Nat.div_div_eq_div_mul, ← Nat.pow_add, show w - b + b = w by omega] at e
      exact e
    rw [rowT_succ, rowT_succ, alikeL, show w + 1 - (b + 1) = w - b by omega, key, key]
    have h1 : x / 2 ^ (w - b) % 2 ^ b < 2 ^ b := Nat.mod_lt _ (Nat.two_pow_pos b)
    have h2 : y / 2 ^ (w - b) % 2 ^ b < 2 ^ b := Nat.mod_lt _ (Nat.two_pow_pos b)
    generalize x / 2 ^ (w - b) % 2 ^ b = p at *
    generalize y / 2 ^ (w - b) % 2 ^ b = q at *
    have h3 : x / 2 ^ w % 2 < 2 := Nat.mod_lt _ (by omega)
    have h4 : y / 2 ^ w % 2 < 2 := Nat.mod_lt _ (by omega)
    generalize x / 2 ^ w % 2 = s at *
    generalize y / 2 ^ w % 2 = t at *
    generalize 2 ^ b = P at *
    by_cases e : s = t
    · subst e
      rw [if_pos rfl, Nat.add_le_add_iff_right, ih]
      omega
    · rw [if_neg (by omega)]
      constructor
      · intro h; omega
      · intro h
        exfalso
        have : (s = 0 ∧ t = 1) ∨ (s = 1 ∧ t = 0) := by omega
        rcases this with ⟨rfl, rfl⟩ | ⟨rfl, rfl⟩
        · simp at h; omega
        · simp at h; omega
end Go.Proofs.YtgdgklibilddgaaGreatDoor

namespace Go.Proofs.YtgdgklibilddgaaGreatDoor
open Go.RowKit Go.Proofs.YtgdgklibilddgaaGreatDoorW.PrintWords Go.Proofs.YtgdgklibilddgaaGreatDoor.PPr

/-- as a rewriting step, not by computation -/
theorem bsome {α β : Type} (x : α) (f : α → Option β) : (some x).bind f = f x := by
  have h : ∀ y : Option α, y = some x → y.bind f = f x := by intro y hy; subst hy; rfl
  exact h _ rfl
theorem aright_hl (v : Bool) {n : Nat} (hn : n < 340282366920938463463374607431768211456) : addr_Right.f v (hi n) (lo n) = some (rightB v n) := by
  unfold addr_Right.f; rw [if_pos (okW_hl n), num_hi_lo hn]
theorem rright02_hl (v : Bool) {n : Nat} (hn : n < 340282366920938463463374607431768211456) : platbookref02_Right.f v (hi n) (lo n) = some (rightB v n) := by
  unfold platbookref02_Right.f; rw [if_pos (okW_hl n), num_hi_lo hn]
theorem awidth_hl (v : Bool) (n : Nat) : addr_Width.f v (hi n) (lo n) = some ((widthN v : Nat) : Int) := by
  unfold addr_Width.f; rw [if_pos (okW_hl n)]
theorem pright_hl (v : Bool) {n : Nat} (b : Int) (hn : n < 340282366920938463463374607431768211456) : prefix_Right.f v (hi n) (lo n) b = some (rightP v n b) := by
  unfold prefix_Right.f; rw [if_pos (okW_hl n), num_hi_lo hn]
theorem free_hl (v : Bool) (n : Nat) {b : Int} (h0 : 0 ≤ b) (h1 : b ≤ (widthN v : Int)) : prefix_free.f v (hi n) (lo n) b = some (hi (2 ^ fr v b - 1), lo (2 ^ fr v b - 1)) := by
  unfold prefix_free.f; rw [okW_hl, decide_eq_true h0, decide_eq_true h1]; rfl
theorem not_hl {n : Nat} (hn : n < 340282366920938463463374607431768211456) : num_Not.f (hi n) (lo n) = some (hi (notN n), lo (notN n)) := by
  unfold num_Not.f; rw [if_pos (okW_hl n), num_hi_lo hn]
theorem and_hl {n m : Nat} (hn : n < 340282366920938463463374607431768211456) (hm : m < 340282366920938463463374607431768211456) : num_And.f (hi n) (lo n) (hi m) (lo m) = some (hi (n &&& m), lo (n &&& m)) := by
  unfold num_And.f; rw [okW_hl, okW_hl, num_hi_lo hn, num_hi_lo hm]; rfl
theorem or_hl {n m : Nat} (hn : n < 340282366920938463463374607431768211456) (hm : m < 340282366920938463463374607431768211456) : num_Or.f (hi n) (lo n) (hi m) (lo m) = some (hi (n ||| m), lo (n ||| m)) := by
  unfold num_Or.f; rw [okW_hl, okW_hl, num_hi_lo hn, num_hi_lo hm]; rfl
theorem hl_eq {a b : Nat} (ha : a < 340282366920938463463374607431768211456) (hb : b < 340282366920938463463374607431768211456) : (hi a == hi b && lo a == lo b) = (a == b) := by
  rw [Bool.eq_iff_iff]; simp only [Bool.and_eq_true, beq_iff_eq]; exact hi_lo_eq ha hb
theorem rightP_iff {v : Bool} {n : Nat} {b : Int} : rightP v n b = true ↔ n < 2 ^ widthN v ∧ 0 ≤ b ∧ b ≤ (widthN v : Int) ∧ n % 2 ^ fr v b = 0 := by
  unfold rightP rightB; simp
theorem rightB_iff {v : Bool} {n : Nat} : rightB v n = true ↔ n < 2 ^ widthN v := by unfold rightB; simp
theorem pow_w (v : Bool) : 2 ^ widthN v ≤ 340282366920938463463374607431768211456 := by cases v <;> decide
theorem top_lt {f n : Nat} (hn : n < 340282366920938463463374607431768211456) : topN f n < 340282366920938463463374607431768211456 := Nat.lt_of_le_of_lt (topN_le f n) hn
/-- without the bits behind: the reference's way -/
theorem top_ref {v : Bool} {n i : Nat} (hn : n < 2 ^ widthN v) (hi : i ≤ widthN v) : n / 2 ^ (widthN v - i) % 2 ^ i * 2 ^ (widthN v - i) = topN (widthN v - i) n := by
  unfold topN
  rw [Nat.mod_eq_of_lt]
  rw [Nat.div_lt_iff_lt_mul (Nat.two_pow_pos _), ← Nat.pow_add, show i + (widthN v - i) = widthN v by omega]; exact hn
def ofS (v : Bool) (n : Nat) (b : Int) : Bool × Nat × Int × Int := if rightB v n = true ∧ 0 ≤ b ∧ b ≤ (widthN v : Int) then (v, topN (fr v b) n, b, 0) else (false, 0, 0, 1)
def tup5 (x : Bool × Nat × Int × Int) : Bool × Int × Int × Int × Int := (x.1, hi x.2.1, lo x.2.1, x.2.2.1, x.2.2.2)
theorem hi00 : hi 0 = 0 := rfl
theorem lo00 : lo 0 = 0 := rfl
theorem fr_lt (v : Bool) (b : Int) : 2 ^ fr v b - 1 < 340282366920938463463374607431768211456 := pow_fr v b
theorem of_f (K : Nat) (hK : 1 ≤ K) (v : Bool) (n : Nat) (b : Int) (hn : n < 340282366920938463463374607431768211456) : prefix_Of.f K v (hi n) (lo n) b = some (tup5 (ofS v n b)) := by
  obtain ⟨k, rfl⟩ : ∃ k, K = k + 1 := ⟨K - 1, by omega⟩
  unfold prefix_Of.f ofS
  rw [aright_hl v hn]
  simp only [bsome]
  cases hr : rightB v n
  · rw [if_neg (by simp), if_neg (by simp), prefix_Of.j0, if_pos rfl]; rfl
  · rw [if_pos rfl]
    by_cases h0 : b < 0
    · rw [if_pos h0, if_neg (by omega), prefix_Of.j0, if_pos rfl]; rfl
    · rw [if_neg h0, awidth_hl]
      simp only [bsome]
      by_cases h1 : b ≤ (widthN v : Int)
      · rw [if_pos ⟨trivial, by omega, h1⟩, prefix_Of.j0, if_neg (by simp; omega), free_hl v n (by omega) h1]
        simp only [bsome]
        have hf := fr_lt v b
        have hnn : notN (2 ^ fr v b - 1) < 340282366920938463463374607431768211456 := by unfold notN; omega
        rw [not_hl hf]
        simp only [bsome]
        rw [and_hl hn hnn]
        have e : n &&& notN (2 ^ fr v b - 1) = topN (fr v b) n := by
          have := and_not (n := n) (f := fr v b) (k := 128) (fr_le v b) (by rw [show (2 : Nat) ^ 128 = 340282366920938463463374607431768211456 by decide]; exact hn)
          rw [← this]; unfold notN
          rw [show (340282366920938463463374607431768211455 : Nat) = 2 ^ 128 - 1 by decide]
        rw [e]
        simp only [tup5, bsome]
      · rw [if_neg (by simp only [true_and]; omega), prefix_Of.j0, if_pos (by simp; omega)]; rfl
theorem rof_f (K : Nat) (hK : 600 ≤ K) (v : Bool) (n : Nat) (b : Int) (hn : n < 340282366920938463463374607431768211456) : platbookref03_Of.f K v (hi n) (lo n) b = some (tup5 (ofS v n b)) := by
  obtain ⟨k, rfl⟩ : ∃ k, K = k + 500 := ⟨K - 500, by omega⟩
  unfold platbookref03_Of.f ofS
  rw [rright02_hl v hn]
  simp only [bsome]
  cases hr : rightB v n
  · rw [if_neg (by simp), if_neg (by simp)]; rfl
  · rw [if_pos rfl]
    by_cases h0 : b < 0
    · rw [if_pos h0, if_neg (by omega)]; rfl
    · rw [if_neg h0, width_hl]
      simp only [bsome]
      by_cases h1 : b ≤ (widthN v : Int)
      · rw [if_neg (by omega), if_pos ⟨trivial, by omega, h1⟩]
        obtain ⟨i, rfl⟩ := Int.eq_ofNat_of_zero_le (show 0 ≤ b by omega)
        rw [pfilled_f k v n i 0 hn (by omega) (.inl rfl), top_ref (rightB_iff.1 hr) (by omega)]
        simp only [bsome]
        have e : fr v (i : Int) = widthN v - i := by unfold fr; omega
        rw [e]; simp [tup5]
      · rw [if_pos (by omega), if_neg (by simp only [true_and]; omega)]; rfl
theorem rrightP_f (K : Nat) (hK : 600 ≤ K) (v : Bool) (n : Nat) (b : Int) (hn : n < 340282366920938463463374607431768211456) : platbookref03_Right.f K v (hi n) (lo n) b = some (rightP v n b) := by
  obtain ⟨k, rfl⟩ : ∃ k, K = k + 500 := ⟨K - 500, by omega⟩
  unfold platbookref03_Right.f
  rw [rright02_hl v hn]
  simp only [bsome]
  unfold rightP
  cases hr : rightB v n
  · rw [if_neg (by simp)]; rfl
  · rw [if_pos rfl]
    by_cases h0 : b < 0
    · rw [if_pos h0, decide_eq_false (by omega)]; rfl
    · rw [if_neg h0, width_hl, decide_eq_true (show 0 ≤ b by omega)]
      simp only [bsome]
      by_cases h1 : b ≤ (widthN v : Int)
      · rw [if_neg (by omega), decide_eq_true h1]
        obtain ⟨i, rfl⟩ := Int.eq_ofNat_of_zero_le (show 0 ≤ b by omega)
        rw [pfilled_f k v n i 0 hn (by omega) (.inl rfl), top_ref (rightB_iff.1 hr) (by omega)]
        have e : fr v (i : Int) = widthN v - i := by unfold fr; omega
        simp only [bsome, Int.toNat_zero, Nat.zero_mul, Nat.add_zero]
        rw [hl_eq (top_lt hn) hn, e]
        simp only [beq_self_eq_true, Bool.true_and, Option.some.injEq]
        rw [Bool.eq_iff_iff]; simp [topN_eq]
      · rw [if_pos (by omega), decide_eq_false h1]; rfl
theorem last_lt {v : Bool} {n : Nat} {b : Int} (h : rightP v n b = true) : n + (2 ^ fr v b - 1) < 2 ^ widthN v := by
  obtain ⟨h1, h2, h3, h4⟩ := rightP_iff.1 h
  have hf : fr v b ≤ widthN v := by unfold fr; omega
  have hp := Nat.two_pow_pos (fr v b)
  obtain ⟨q, hq⟩ := Nat.dvd_of_mod_eq_zero h4
  have e : 2 ^ widthN v = 2 ^ fr v b * 2 ^ (widthN v - fr v b) := by rw [← Nat.pow_add]; congr 1; omega
  rw [hq, e] at h1
  rw [hq, e]
  have h5 : q < 2 ^ (widthN v - fr v b) := Nat.lt_of_mul_lt_mul_left h1
  have h6 : 2 ^ fr v b * (q + 1) ≤ 2 ^ fr v b * 2 ^ (widthN v - fr v b) := Nat.mul_le_mul_left _ h5
  rw [Nat.mul_add, Nat.mul_one] at h6
  omega
def hasS (v : Bool) (n : Nat) (b : Int) (u : Bool) (m : Nat) : Bool := rightP v n b && (rightB u m && (u == v && topN (fr v b) m == n))
theorem has_f (K : Nat) (hK : 1 ≤ K) (v : Bool) (n : Nat) (b : Int) (u : Bool) (m : Nat) (hn : n < 340282366920938463463374607431768211456) (hm : m < 340282366920938463463374607431768211456) : prefix_Has.f K v (hi n) (lo n) b u (hi m) (lo m) = some (hasS v n b u m) := by
  unfold prefix_Has.f hasS
  rw [pright_hl v b hn, aright_hl u hm, of_f K hK u m b hm]
  simp only [bsome]
  cases h : rightP v n b
  · rfl
  · cases hu : rightB u m
    · rfl
    · rw [if_pos rfl, if_pos rfl]
      by_cases huv : u = v
      · subst huv
        obtain ⟨h1, h2, h3, h4⟩ := rightP_iff.1 h
        rw [if_neg (by simp)]
        unfold ofS
        rw [if_pos ⟨hu, h2, h3⟩]
        simp only [tup5]
        rw [hl_eq (top_lt hm) hn]
        simp
      · rw [if_pos (by simpa using huv)]
        simp [huv]
def withinS (v : Bool) (n : Nat) (b : Int) (u : Bool) (m : Nat) (c : Int) : Bool := rightP v n b && (rightP u m c && (decide (c ≤ b) && hasS u m c v n))
theorem within_f (K : Nat) (hK : 1 ≤ K) (v : Bool) (n : Nat) (b : Int) (u : Bool) (m : Nat) (c : Int) (hn : n < 340282366920938463463374607431768211456) (hm : m < 340282366920938463463374607431768211456) : prefix_Within.f K v (hi n) (lo n) b u (hi m) (lo m) c = some (withinS v n b u m c) := by
  unfold prefix_Within.f withinS
  rw [pright_hl v b hn, pright_hl u c hm, has_f K hK u m c v n hm hn]
  simp only [bsome]
  cases rightP v n b
  · rfl
  · cases rightP u m c
    · rfl
    · rw [if_pos rfl, if_pos rfl]
      by_cases h : c ≤ b
      · rw [if_pos h, decide_eq_true h]; rfl
      · rw [if_neg h, decide_eq_false h]; rfl
theorem hasS_right {v : Bool} {n : Nat} {b : Int} {u : Bool} {m : Nat} (h : hasS v n b u m = true) : rightP v n b = true ∧ rightB u m = true ∧ u = v ∧ m / 2 ^ fr v b = n / 2 ^ fr v b := by
  unfold hasS at h
  simp only [Bool.and_eq_true, beq_iff_eq] at h
  obtain ⟨h1, h2, h3, h4⟩ := h
  exact ⟨h1, h2, h3, (topN_iff (rightP_iff.1 h1).2.2.2).1 h4⟩
theorem hasS_mk {v : Bool} {n : Nat} {b : Int} {m : Nat} (h1 : rightP v n b = true) (h2 : rightB v m = true) (h : m / 2 ^ fr v b = n / 2 ^ fr v b) : hasS v n b v m = true := by
  unfold hasS
  rw [h1, h2]
  simp only [Bool.true_and, beq_self_eq_true, beq_iff_eq]
  exact (topN_iff (rightP_iff.1 h1).2.2.2).2 h
theorem rightP_B {v : Bool} {n : Nat} {b : Int} (h : rightP v n b = true) : rightB v n = true := rightB_iff.2 (rightP_iff.1 h).1
end Go.Proofs.YtgdgklibilddgaaGreatDoor

namespace Go.Proofs.YtgdgklibilddgaaGreatDoor
open Go.RowKit Go.Proofs.YtgdgklibilddgaaGreatDoorW.PrintWords Go.Proofs.YtgdgklibilddgaaGreatDoor.PPr

theorem shl_hl {n : Nat} {k : Int} (hn : n < 340282366920938463463374607431768211456) (hk : -9223372036854775808 ≤ k) : num_Shl.f (hi n) (lo n) k = some (hi (shlN n k), lo (shlN n k)) := by
  unfold num_Shl.f; rw [okW_hl, decide_eq_true hk, num_hi_lo hn]; rfl
theorem shl_one {k : Nat} (hk : k < 128) : shlN 1 (k : Int) = 2 ^ k := by
  unfold shlN
  rw [if_neg (by omega), if_neg (by omega), Int.toNat_natCast, Nat.one_mul, Nat.mod_eq_of_lt]
  have := Nat.pow_lt_pow_right (a := 2) (by omega) hk
  rw [show (2 : Nat) ^ 128 = 340282366920938463463374607431768211456 by decide] at this
  exact this
/-- the two halves -/
def halvesS (v : Bool) (n : Nat) (b : Int) : (Bool × Nat × Int) × (Bool × Nat × Int) × Int :=
  if rightP v n b = true then (if b = (widthN v : Int) then ((false, 0, 0), (false, 0, 0), 11) else ((v, n, b + 1), (v, n + 2 ^ (fr v b - 1), b + 1), 0)) else ((false, 0, 0), (false, 0, 0), 1)
def tup9 (x : (Bool × Nat × Int) × (Bool × Nat × Int) × Int) : Bool × Int × Int × Int × Bool × Int × Int × Int × Int :=
  (x.1.1, hi x.1.2.1, lo x.1.2.1, x.1.2.2, x.2.1.1, hi x.2.1.2.1, lo x.2.1.2.1, x.2.1.2.2, x.2.2)
theorem half_lt {v : Bool} {n : Nat} {b : Int} (h : rightP v n b = true) (hb : b ≠ (widthN v : Int)) : 1 ≤ fr v b ∧ fr v b - 1 < 128 ∧ fr v (b + 1) = fr v b - 1 ∧ n + 2 ^ (fr v b - 1) < 2 ^ widthN v := by
  obtain ⟨h1, h2, h3, h4⟩ := rightP_iff.1 h
  have hf : 1 ≤ fr v b := by unfold fr; omega
  have hw := widthN_le v
  refine ⟨hf, by unfold fr; omega, by unfold fr; omega, ?_⟩
  have := last_lt h
  have hp := Nat.two_pow_pos (fr v b - 1)
  have e : 2 ^ fr v b = 2 * 2 ^ (fr v b - 1) := by rw [← Nat.pow_succ']; congr 1; omega
  omega
theorem halves_f (v : Bool) (n : Nat) (b : Int) (hn : n < 340282366920938463463374607431768211456) : prefix_Halves.f v (hi n) (lo n) b = some (tup9 (halvesS v n b)) := by
  unfold prefix_Halves.f halvesS
  rw [awidth_hl, pright_hl v b hn]
  simp only [bsome]
  cases h : rightP v n b
  · simp [tup9, hi00, lo00]
  · rw [if_pos rfl, if_pos rfl]
    by_cases hb : b = (widthN v : Int)
    · rw [if_pos hb, if_pos hb]; simp [tup9, hi00, lo00]
    · rw [if_neg hb, if_neg hb]
      obtain ⟨h1, h2, h3, h4⟩ := rightP_iff.1 h
      obtain ⟨f1, f2, f3, f4⟩ := half_lt h hb
      have hw := widthN_le v
      unfold num_Of.f
      simp only [bsome]
      rw [w64 (i := b + 1) (by omega) (by omega), w64 (by omega) (by omega), show ((widthN v : Nat) : Int) - (b + 1) = ((fr v b - 1 : Nat) : Int) by unfold fr; omega]
      have e1 : num_Shl.f 0 1 ((fr v b - 1 : Nat) : Int) = some (hi (2 ^ (fr v b - 1)), lo (2 ^ (fr v b - 1))) := by
        have := shl_hl (n := 1) (k := ((fr v b - 1 : Nat) : Int)) (by decide) (by omega)
        rw [shl_one f2] at this
        exact this
      rw [e1]
      simp only [bsome]
      have hp : 2 ^ (fr v b - 1) < 2 ^ fr v b := Nat.pow_lt_pow_right (by omega) (by omega)
      have hb128 : 2 ^ (fr v b - 1) < 340282366920938463463374607431768211456 := by
        have := Nat.lt_of_lt_of_le f4 (pow_w v); omega
      rw [or_hl hn hb128, or_small h4 hp]
      simp only [bsome, tup9]
/-- an address of one half, of the other one -/
theorem half_has {v : Bool} {n : Nat} {b : Int} (h : rightP v n b = true) (hb : b ≠ (widthN v : Int)) :
    rightP v n (b + 1) = true ∧ rightP v (n + 2 ^ (fr v b - 1)) (b + 1) = true ∧
    (∀ x, n / 2 ^ (fr v b - 1) = 2 * (n / 2 ^ fr v b) ∧ (n + 2 ^ (fr v b - 1)) / 2 ^ (fr v b - 1) = 2 * (n / 2 ^ fr v b) + 1 ∧ x / 2 ^ fr v b = x / 2 ^ (fr v b - 1) / 2) := by
  obtain ⟨h1, h2, h3, h4⟩ := rightP_iff.1 h
  obtain ⟨f1, f2, f3, f4⟩ := half_lt h hb
  have e : 2 ^ fr v b = 2 ^ (fr v b - 1) * 2 := by rw [← Nat.pow_succ]; congr 1; omega
  have hpos := Nat.two_pow_pos (fr v b - 1)
  obtain ⟨q, hq⟩ := Nat.dvd_of_mod_eq_zero h4
  have hq2 : n = 2 ^ (fr v b - 1) * (2 * q) := by rw [hq, e, Nat.mul_assoc]
  refine ⟨rightP_iff.2 ⟨h1, by omega, by omega, ?_⟩, rightP_iff.2 ⟨f4, by omega, by omega, ?_⟩, fun x => ⟨?_, ?_, ?_⟩⟩
  · rw [f3, hq2]; exact Nat.mul_mod_right _ _
  · rw [f3, hq2, Nat.mul_add_mod]; exact Nat.mod_self _
  · rw [show n / 2 ^ fr v b = q by rw [hq, Nat.mul_div_cancel_left _ (Nat.two_pow_pos _)]]
    rw [hq2, Nat.mul_div_cancel_left _ hpos]
  · rw [show n / 2 ^ fr v b = q by rw [hq, Nat.mul_div_cancel_left _ (Nat.two_pow_pos _)], Nat.add_div_right _ hpos, hq2, Nat.mul_div_cancel_left _ hpos]
  · rw [e, ← Nat.div_div_eq_div_mul]
end Go.Proofs.YtgdgklibilddgaaGreatDoor

namespace Go.Proofs.YtgdgklibilddgaaGreatDoor
open Go.RowKit Go.Proofs.YtgdgklibilddgaaGreatDoorW.PrintWords Go.Proofs.YtgdgklibilddgaaGreatDoor.PPr

theorem awake03_h : platbooklaw03_awake.f = some true := by decide +kernel
end Go.Proofs.YtgdgklibilddgaaGreatDoor

namespace Go.Proofs.YtgdgklibilddgaaGreatDoor
open Go.RowKit Go.Proofs.YtgdgklibilddgaaGreatDoorW.PrintWords Go.Proofs.YtgdgklibilddgaaGreatDoorW.PrintMore Go.Proofs.YtgdgklibilddgaaGreatDoor.PPr

theorem len_hl {n : Nat} (hn : n < 340282366920938463463374607431768211456) : num_Len.f (hi n) (lo n) = some ((lenN n : Nat) : Int) := by
  unfold num_Len.f; rw [if_pos (okW_hl n), num_hi_lo hn]
/-- how many first bits are alike -/
def alikeN (v : Bool) (n m : Nat) : Nat := widthN v - lenN (n ^^^ m)
theorem alike_row {v : Bool} {n m : Nat} (hn : n < 2 ^ widthN v) (hm : m < 2 ^ widthN v) : alikeL (rowT n (widthN v)) (rowT m (widthN v)) = alikeN v n m := by
  have hlen : ∀ (a b : List Int), alikeL a b ≤ a.length := by
    intro a
    induction a with
    | nil => intro b; simp [alikeL]
    | cons x a ih =>
      intro b
      cases b with
      | nil => simp [alikeL]
      | cons y b =>
        rw [alikeL]
        split
        · have := ih b; simp; omega
        · omega
  have hle : alikeL (rowT n (widthN v)) (rowT m (widthN v)) ≤ widthN v := by have := hlen (rowT n (widthN v)) (rowT m (widthN v)); rwa [rowT_len] at this
  have hlen2 : lenN (n ^^^ m) ≤ widthN v := (lenN_iff _ _).2 (Nat.xor_lt_two_pow hn hm)
  have key : ∀ b, b ≤ widthN v → (b ≤ alikeL (rowT n (widthN v)) (rowT m (widthN v)) ↔ b ≤ alikeN v n m) := by
    intro b hb
    have hl : ∀ z : Nat, z < 2 ^ widthN v → z / 2 ^ (widthN v - b) % 2 ^ b = z / 2 ^ (widthN v - b) := by
      intro z hz
      apply Nat.mod_eq_of_lt
      rw [Nat.div_lt_iff_lt_mul (Nat.two_pow_pos _), ← Nat.pow_add, show b + (widthN v - b) = widthN v by omega]; exact hz
    rw [alike_ge n m (widthN v) b hb, hl n hn, hl m hm, ← len_xor]
    unfold alikeN
    omega
  have hle2 : alikeN v n m ≤ widthN v := by unfold alikeN; omega
  have h1 := (key _ hle).1 (Nat.le_refl _)
  have h2 := (key _ hle2).2 (Nat.le_refl _)
  omega
def commonB (v : Bool) (n : Nat) (b : Int) (m : Nat) (c : Int) : Int := mn (mn b c) (alikeN v n m : Nat)
def commonS (v : Bool) (n : Nat) (b : Int) (u : Bool) (m : Nat) (c : Int) : Bool × Nat × Int × Int :=
  if rightP v n b = true ∧ rightP u m c = true ∧ v = u then ofS v n (commonB v n b m c) else (false, 0, 0, 1)
theorem xor_lt {v : Bool} {n m : Nat} (hn : n < 2 ^ widthN v) (hm : m < 2 ^ widthN v) : n ^^^ m < 2 ^ widthN v := Nat.xor_lt_two_pow hn hm
theorem tup5_zero : tup5 (false, 0, 0, 1) = (false, 0, 0, 0, 1) := rfl
theorem common_f (K : Nat) (hK : 2 ≤ K) (v : Bool) (n : Nat) (b : Int) (u : Bool) (m : Nat) (c : Int) (hn : n < 340282366920938463463374607431768211456) (hm : m < 340282366920938463463374607431768211456) :
    prefix_Common.f K v (hi n) (lo n) b u (hi m) (lo m) c = some (tup5 (commonS v n b u m c)) := by
  obtain ⟨k, rfl⟩ : ∃ k, K = k + 1 := ⟨K - 1, by omega⟩
  unfold prefix_Common.f commonS
  rw [pright_hl v b hn, pright_hl u c hm]
  simp only [bsome]
  cases h1 : rightP v n b
  · rw [if_neg (by simp), if_neg (by simp), prefix_Common.j0, if_pos rfl, tup5_zero]
  · cases h2 : rightP u m c
    · rw [if_pos rfl, if_neg (by simp), if_neg (by simp), prefix_Common.j0, if_pos rfl, tup5_zero]
    · rw [if_pos rfl, if_pos rfl, prefix_Common.j0]
      by_cases hvu : v = u
      · subst hvu
        rw [if_neg (by simp), if_pos (show true = true ∧ true = true ∧ v = v from ⟨rfl, rfl, rfl⟩)]
        obtain ⟨p1, p2, p3, p4⟩ := rightP_iff.1 h1
        obtain ⟨q1, q2, q3, q4⟩ := rightP_iff.1 h2
        have e128 : (2 : Nat) ^ 128 = 340282366920938463463374607431768211456 := by decide
        have ho : n ||| m < 340282366920938463463374607431768211456 := by rw [← e128] at *; exact Nat.or_lt_two_pow hn hm
        have ha : n &&& m < 340282366920938463463374607431768211456 := by rw [← e128] at *; exact Nat.and_lt_two_pow n hm
        have hnn : notN (n &&& m) < 340282366920938463463374607431768211456 := by unfold notN; omega
        rw [or_hl hn hm, and_hl hn hm]
        simp only [bsome]
        rw [not_hl ha]
        simp only [bsome]
        have ex : (n ||| m) &&& notN (n &&& m) = n ^^^ m := by
          have := differ_xor (x := n) (y := m) (k := 128) (by rw [e128]; exact hn) (by rw [e128]; exact hm)
          rw [← this]; unfold notN
          rw [show (340282366920938463463374607431768211455 : Nat) = 2 ^ 128 - 1 by decide]
        rw [and_hl ho hnn, ex]
        simp only [bsome]
        have hx := xor_lt p1 q1
        have hx2 : n ^^^ m < 340282366920938463463374607431768211456 := Nat.lt_of_lt_of_le hx (pow_w v)
        rw [awidth_hl, len_hl hx2]
        simp only [bsome]
        have hlen : lenN (n ^^^ m) ≤ widthN v := (lenN_iff _ _).2 hx
        have hw := widthN_le v
        rw [w64 (by omega) (by omega), show ((widthN v : Nat) : Int) - ((lenN (n ^^^ m) : Nat) : Int) = ((alikeN v n m : Nat) : Int) by unfold alikeN; omega]
        rw [of_f k (by omega) v n _ hn]
        simp only [bsome]
        rfl
      · rw [if_pos (by simpa using hvu), if_neg (fun h => hvu h.2.2), tup5_zero]
theorem rcommon_f (K : Nat) (hK : 701 ≤ K) (v : Bool) (n : Nat) (b : Int) (u : Bool) (m : Nat) (c : Int) (hn : n < 340282366920938463463374607431768211456) (hm : m < 340282366920938463463374607431768211456) :
    platbookref03_Common.f K v (hi n) (lo n) b u (hi m) (lo m) c = some (tup5 (commonS v n b u m c)) := by
  obtain ⟨k, rfl⟩ : ∃ k, K = k + 700 + 1 := ⟨K - 701, by omega⟩
  unfold platbookref03_Common.f commonS
  rw [rrightP_f _ (by omega) v n b hn, rrightP_f _ (by omega) u m c hm]
  simp only [bsome]
  cases h1 : rightP v n b
  · rw [if_neg (by simp), if_neg (by simp), platbookref03_Common.j0, if_pos rfl, tup5_zero]
  · cases h2 : rightP u m c
    · rw [if_pos rfl, if_neg (by simp), if_neg (by simp), platbookref03_Common.j0, if_pos rfl, tup5_zero]
    · rw [if_pos rfl, if_pos rfl, platbookref03_Common.j0]
      by_cases hvu : v = u
      · subst hvu
        rw [if_neg (by simp), if_pos (show true = true ∧ true = true ∧ v = v from ⟨rfl, rfl, rfl⟩)]
        obtain ⟨p1, p2, p3, p4⟩ := rightP_iff.1 h1
        obtain ⟨q1, q2, q3, q4⟩ := rightP_iff.1 h2
        rw [show k + 700 = (k + 400) + 300 by omega, prow_f _ v n hn, prow_f _ v m hm]
        simp only [bsome]
        rw [show k + 400 + 300 = (k + 500) + 200 by omega, palike_f _ _ _ (by rw [rowT_len, rowT_len]) (by rw [rowT_len]; exact widthN_le v), alike_row p1 q1]
        simp only [bsome]
        have fin : ∀ z : Int, z = commonB v n b m c → (platbookref03_Of.f (k + 500 + 200) v (hi n) (lo n) z).bind (fun bt => some (bt.1, bt.2.1, bt.2.2.1, bt.2.2.2.1, bt.2.2.2.2)) = some (tup5 (ofS v n (commonB v n b m c))) := by
          rintro z rfl
          rw [rof_f _ (by omega) v n _ hn]
          simp only [bsome]
        split
        · split
          · exact fin c (by unfold commonB mn; (repeat' split) <;> omega)
          · exact fin b (by unfold commonB mn; (repeat' split) <;> omega)
        · split
          · exact fin c (by unfold commonB mn; (repeat' split) <;> omega)
          · exact fin ((alikeN v n m : Nat) : Int) (by unfold commonB mn; (repeat' split) <;> omega)
      · rw [if_pos (by simpa using hvu), if_neg (fun h => hvu h.2.2), tup5_zero]
theorem ofS_in {v : Bool} {n : Nat} {b : Int} (h1 : n < 2 ^ widthN v) (h2 : 0 ≤ b) (h3 : b ≤ (widthN v : Int)) : ofS v n b = (v, topN (fr v b) n, b, 0) := by
  unfold ofS; rw [if_pos ⟨rightB_iff.2 h1, h2, h3⟩]
theorem commonB_le (v : Bool) (n : Nat) (b : Int) (m : Nat) (c : Int) : commonB v n b m c ≤ b ∧ commonB v n b m c ≤ c ∧ commonB v n b m c ≤ (alikeN v n m : Nat) ∧ (commonB v n b m c = b ∨ commonB v n b m c = c ∨ commonB v n b m c = (alikeN v n m : Nat)) := by
  unfold commonB mn
  refine ⟨?_, ?_, ?_, ?_⟩ <;> (repeat' split) <;> omega
theorem within_mk {v : Bool} {n : Nat} {b : Int} {m : Nat} {c : Int} (h1 : rightP v n b = true) (h2 : rightP v m c = true) (h3 : c ≤ b) (h4 : n / 2 ^ fr v c = m / 2 ^ fr v c) : withinS v n b v m c = true := by
  unfold withinS
  rw [h1, h2, decide_eq_true h3, hasS_mk h2 (rightP_B h1) h4]; rfl
theorem prefixCommon_f (v : Bool) (n : Nat) (b : Int) (u : Bool) (m : Nat) (c : Int) (hn : n < 340282366920938463463374607431768211456) (hm : m < 340282366920938463463374607431768211456) :
    platbooklaw03_PrefixCommon.f 1000 v (hi n) (lo n) b u (hi m) (lo m) c = some true := by
  unfold platbooklaw03_PrefixCommon.f
  rw [awake03_h, common_f 1000 (by omega) v n b u m c hn hm, rcommon_f 1000 (by omega) v n b u m c hn hm]
  simp only [bsome, if_true]
  rw [if_neg (by simp), show ((tup5 (commonS v n b u m c)).2.2.2.2 != (tup5 (commonS v n b u m c)).2.2.2.2) = false by simp]
  by_cases hc : rightP v n b = true ∧ rightP u m c = true ∧ v = u
  · obtain ⟨h1, h2, rfl⟩ := hc
    obtain ⟨p1, p2, p3, p4⟩ := rightP_iff.1 h1
    obtain ⟨q1, q2, q3, q4⟩ := rightP_iff.1 h2
    obtain ⟨l1, l2, l3, l4⟩ := commonB_le v n b m c
    have hB0 : 0 ≤ commonB v n b m c := by rcases l4 with e | e | e <;> omega
    have hBw : commonB v n b m c ≤ (widthN v : Int) := by omega
    have hlen : lenN (n ^^^ m) ≤ widthN v := (lenN_iff _ _).2 (Nat.xor_lt_two_pow p1 q1)
    have hal : (alikeN v n m : Int) = (widthN v : Int) - (lenN (n ^^^ m) : Nat) := by unfold alikeN; omega
    unfold commonS
    rw [if_pos (show rightP v n b = true ∧ rightP v m c = true ∧ v = v from ⟨h1, h2, rfl⟩), ofS_in p1 hB0 hBw]
    simp only [tup5]
    generalize hBe : commonB v n b m c = B at *
    have hf : fr v B = (widthN v : Int) - B := by unfold fr; omega
    have hcom : n / 2 ^ fr v B = m / 2 ^ fr v B := (len_xor n m (fr v B)).1 (by omega)
    have ht : topN (fr v B) n < 340282366920938463463374607431768211456 := top_lt hn
    have htd : topN (fr v B) n / 2 ^ fr v B = n / 2 ^ fr v B := topN_div _ _
    have hrc : rightP v (topN (fr v B) n) B = true := rightP_iff.2 ⟨Nat.lt_of_le_of_lt (topN_le _ _) p1, hB0, hBw, topN_mod _ _⟩
    rw [show 1000 = 999 + 1 from rfl, platbooklaw03_PrefixCommon.j0, if_neg (by simp), if_pos (by rfl), within_f 999 (by omega) v n b v _ B hn ht, within_f 999 (by omega) v m c v _ B hm ht, within_mk h1 hrc l1 htd.symm, within_mk h2 hrc l2 (hcom.symm.trans htd.symm)]
    simp only [bsome, if_true, Bool.not_true]
    rw [show 999 = 998 + 1 from rfl, platbooklaw03_PrefixCommon.j1, if_neg (by simp)]
    have e1 : ((v == v && (hi (topN (fr v B) n) == hi n && lo (topN (fr v B) n) == lo n)) && B == b) = (topN (fr v B) n == n && B == b) := by rw [hl_eq ht hn]; simp
    have e2 : ((v == v && (hi (topN (fr v B) n) == hi m && lo (topN (fr v B) n) == lo m)) && B == c) = (topN (fr v B) n == m && B == c) := by rw [hl_eq ht hm]; simp
    rw [e1, e2]
    by_cases hp : (topN (fr v B) n == n && B == b) = true
    · rw [if_pos hp, show 998 = 997 + 1 from rfl, platbooklaw03_PrefixCommon.j2, if_pos rfl]
    · rw [if_neg hp]
      by_cases hq : (topN (fr v B) n == m && B == c) = true
      · rw [hq, show 998 = 997 + 1 from rfl, platbooklaw03_PrefixCommon.j2, if_pos rfl]
      · rw [Bool.eq_false_iff.2 hq, show 998 = 997 + 1 from rfl, platbooklaw03_PrefixCommon.j2, if_neg (by simp)]
        have hBb : B ≠ b := by
          rintro rfl
          apply hp
          simp [topN_eq.2 p4]
        have hBc : B ≠ c := by
          rintro rfl
          apply hq
          have : topN (fr v B) n = m := (topN_iff q4).2 hcom
          simp [this]
        have hBL : B = (alikeN v n m : Int) := by rcases l4 with e | e | e <;> omega
        have hBW : B ≠ (widthN v : Int) := by omega
        have hL : fr v B = lenN (n ^^^ m) := by omega
        obtain ⟨r1, r2, r3⟩ := half_has hrc hBW
        obtain ⟨f1, f2, f3, f4⟩ := half_lt hrc hBW
        obtain ⟨s1, s2, s3⟩ := r3 n
        obtain ⟨_, _, s4⟩ := r3 m
        have hne : n / 2 ^ (fr v B - 1) ≠ m / 2 ^ (fr v B - 1) := by
          intro e
          have := (len_xor n m (fr v B - 1)).2 e
          omega
        have ht2 : topN (fr v B) n + 2 ^ (fr v B - 1) < 340282366920938463463374607431768211456 := Nat.lt_of_lt_of_le f4 (pow_w v)
        rw [htd] at s1 s2
        rw [halves_f v _ B ht]
        have hh : halvesS v (topN (fr v B) n) B = ((v, topN (fr v B) n, B + 1), (v, topN (fr v B) n + 2 ^ (fr v B - 1), B + 1), 0) := by
          unfold halvesS; rw [if_pos hrc, if_neg hBW]
        rw [hh]
        simp only [bsome, tup9]
        rw [if_pos trivial, within_f 997 (by omega) v n b v _ (B + 1) hn ht, within_f 997 (by omega) v m c v _ (B + 1) hm ht2, within_f 997 (by omega) v m c v _ (B + 1) hm ht, within_f 997 (by omega) v n b v _ (B + 1) hn ht2]
        simp only [bsome]
        have hnd : n / 2 ^ (fr v B - 1) = 2 * (n / 2 ^ fr v B) ∨ n / 2 ^ (fr v B - 1) = 2 * (n / 2 ^ fr v B) + 1 := by omega
        have hmd : m / 2 ^ (fr v B - 1) = 2 * (n / 2 ^ fr v B) ∨ m / 2 ^ (fr v B - 1) = 2 * (n / 2 ^ fr v B) + 1 := by omega
        have wl : ∀ {x : Nat} {d : Int}, rightP v x d = true → B + 1 ≤ d → x / 2 ^ (fr v B - 1) = 2 * (n / 2 ^ fr v B) → withinS v x d v (topN (fr v B) n) (B + 1) = true := by
          intro x d hx hd e
          exact within_mk hx r1 hd (by rw [f3, e, s1])
        have wh : ∀ {x : Nat} {d : Int}, rightP v x d = true → B + 1 ≤ d → x / 2 ^ (fr v B - 1) = 2 * (n / 2 ^ fr v B) + 1 → withinS v x d v (topN (fr v B) n + 2 ^ (fr v B - 1)) (B + 1) = true := by
          intro x d hx hd e
          exact within_mk hx r2 hd (by rw [f3, e, s2])
        have wn : ∀ {x : Nat} {d : Int}, x / 2 ^ (fr v B - 1) = 2 * (n / 2 ^ fr v B) + 1 → withinS v x d v (topN (fr v B) n) (B + 1) = false := by
          intro x d e
          cases hw : withinS v x d v (topN (fr v B) n) (B + 1)
          · rfl
          · exfalso
            unfold withinS at hw
            simp only [Bool.and_eq_true] at hw
            have := (hasS_right hw.2.2.2).2.2.2
            rw [f3, e, s1] at this
            omega
        rcases hnd with en | en
        · have em : m / 2 ^ (fr v B - 1) = 2 * (n / 2 ^ fr v B) + 1 := by omega
          rw [wl h1 (by omega) en, wh h2 (by omega) em]; rfl
        · have em : m / 2 ^ (fr v B - 1) = 2 * (n / 2 ^ fr v B) := by omega
          rw [wn en, wl h2 (by omega) em, wh h1 (by omega) en]; rfl
  · unfold commonS
    rw [if_neg hc]
    simp only [tup5]
    rw [show 1000 = 999 + 1 from rfl, platbooklaw03_PrefixCommon.j0, if_neg (by simp), if_neg (by simp)]
theorem prefixCommon_walk (v : Bool) (n : Nat) (b : Int) (u : Bool) (m : Nat) (c : Int) (w : World) (hn : n < 340282366920938463463374607431768211456) (_ : (Lit.int .i64 b).wf = true) (hm : m < 340282366920938463463374607431768211456) (_ : (Lit.int .i64 c).wf = true) (hG : Glob w) :
    Calls Tryz.prog 5 #[PfxV v n b, PfxV u m c] w fun e w' => e = .returned (.bool true) ∧ Below w.heap.size w w' :=
  platbooklaw03_PrefixCommon.calls 1000 v (hi n) (lo n) b u (hi m) (lo m) c true w hG rfl (prefixCommon_f v n b u m c hn hm)
end Go.Proofs.YtgdgklibilddgaaGreatDoor

namespace Go.Proofs.YtgdgklibilddgaaGreatDoor
open Go.ChangeShapes Go.WideShapes Go.ChangeAt Go.RowKit

section
variable {H : Type} {enc : TypeId × Value → H} {P : Program}
theorem post_below {f : Func} {s : ChangeSpec} {apart fresh handsOn again : Bool} {W W' : World} {args : Array Value} {v : Value} {ds gs : List (DataW H)} {before pa pv : List MemPlace}
    (hW : DataW.Whole enc P f.params.toList s.vars apart W args.toList ds gs before)
    (hres : ∀ (b : Nat) (sp : Nat → Bool) (hd : Bool), DataW.TrodAll enc P W' b sp hd f.resultTypes.toList (v.resultList f.resultTypes.size) (s.fn H (ds ++ gs)).results [])
    (hargs : ∀ sp : Nat → Bool, (∀ p ∈ before, sp p.block = true) → DataW.TrodAll enc P W' 0 sp true f.params.toList args.toList (s.fn H (ds ++ gs)).args pa)
    (hvars : ∀ sp : Nat → Bool, (∀ p ∈ before, sp p.block = true) → DataW.TrodVars enc P W' sp s.vars (s.fn H (ds ++ gs)).vars pv)
    (hps : before = pa ++ pv) (hb : Below W.heap.size W W')
    (hok : ∀ (j : Nat) (t : TypeId) (r : Value), f.resultTypes[j]? = some t → (v.resultList f.resultTypes.size)[j]? = some r → Value.okWide P W' .any 0 t r) :
    s.post enc P f apart fresh handsOn again W args v W' := by
  have hlt : ∀ p ∈ before, p.block < W.heap.size := fun p hp => hW.lt p hp
  have hold : ∀ p ∈ before, (fun b => decide (b < W.heap.size)) p.block = true := fun p hp => by simpa using hlt p hp
  refine ⟨ds, gs, before, [], pa, pv, hW, hres _ _ _, hargs _ hold, hvars _ hold, World.keptBut_mono (fun p hp => ⟨hp, ?_⟩) (hb.frame (· ∈ before)), fun _ => ?_⟩
  · rw [hps, List.mem_append] at hp
    exact Or.inr hp
  · obtain ⟨_, _, _, _, _, hz, hn⟩ := hW
    refine ⟨hok, _, _, ([] ++ pa) ++ pv, ⟨[] ++ pa, pv, trodAll_append (hargs _ (fun _ _ => rfl)) (hres _ _ _), hvars _ (fun _ _ => rfl), rfl, ?_, ?_⟩, ?_⟩
    · intro b off hp
      have hin : MemPlace.cell b off ∈ before := by rw [hps]; simpa using hp
      rw [hb.frozen (hlt _ hin)]
      exact hz b off hin
    · intro ha
      have := hn ha
      rw [hps] at this
      simpa using this
    · intro p hp _
      rw [hps]
      simpa using hp
end

theorem Tryz.own : ownKnob Tryz.prog.godebug = none := by kernel_rfl
theorem u64_bd {n : Int} (h : (Lit.int .u64 n).wf = true) : 0 ≤ n ∧ n < 18446744073709551616 := by
  simp [Lit.wf, IntKind.min, IntKind.max, IntKind.bits, IntKind.signed] at h
  omega
end Go.Proofs.YtgdgklibilddgaaGreatDoor

namespace Go.Proofs.YtgdgklibilddgaaGreatDoor
open Go.RowKit

def listA : List (String × DataW Unit) := [("math/bits.deBruijn32tab", Rows.laid_math_bits_deBruijn32tab), ("math/bits.deBruijn64tab", Rows.laid_math_bits_deBruijn64tab), ("internal/strconv.uint64pow10", Rows.laid_internal_strconv_uint64pow10), ("unicode/utf8.acceptRanges", Rows.laid_unicode_utf8_acceptRanges), ("strconv.ErrRange", Rows.laid_strconv_ErrRange), ("strconv.ErrSyntax", Rows.laid_strconv_ErrSyntax), ("unicode/utf8.first", Rows.laid_unicode_utf8_first)]
theorem doorA_met (os : Os) (args : Array Value) : laidMetH Tryz.prog listA ((World.laidAll Tryz.prog os listA).forCall (fun _ _ => 0) ⟨#[], args, []⟩).memory := by
  rw [MakeChecks.laidMetH_plain _ _ _ (by kernel_rfl)]; exact laidMet_laidAll _ (by kernel_rfl) (by kernel_rfl)
def tabZ : List Int := Lib.deBruijn64tab.map Int.ofNat
theorem listA_tab : (Rows.laid_math_bits_deBruijn64tab : DataW Unit) = Lib.tabData .u8 tabZ := by kernel_rfl
theorem listA_pow : (Rows.laid_internal_strconv_uint64pow10 : DataW Unit) = Lib.tabData .u64 Lib.pow10Tab := by kernel_rfl
theorem err_star : "*" ++ "errors.errorString" = "*errors.errorString" := by decide
theorem err_name (u : TypeId) (h : Tryz.prog.typeName? 3 u = some "*errors.errorString") : u = 170 :=
  typeName_ptr_named (nm := "errors.errorString") (by rw [err_star]; kernel_rfl) (by kernel_rfl) (by decide) u (by rw [err_star]; exact h)
theorem glob_of {W : World} (h : laidMetH Tryz.prog listA W) (hs : W.ShapedOpen Tryz.prog) : Glob W := by
  rw [MakeChecks.laidMetH_plain _ _ _ (by kernel_rfl)] at h
  unfold listA at h
  have h2 := h.tail
  have h3 := h2.tail
  have h5 := h3.tail.tail
  have h6 := h5.tail
  rw [listA_tab] at h2
  rw [listA_pow] at h3
  refine ⟨?_, ?_, ?_, ?_, ?_⟩
  · exact cell_of_shapedOpen_int (g := 0) (t := 3) (zero := #[.int .i64 0]) hs (of_decide_eq_true (by kernel_rfl)) (by kernel_rfl) rfl (by kernel_rfl) (by kernel_rfl) Tryz.underlying3
  · obtain ⟨a, s, hv, _⟩ := laid_sentinel h6 (g := 1) (by kernel_rfl) (by kernel_rfl) Tryz.underlying83 err_name Tryz.underlying170 Tryz.underlying172 rfl rfl Tryz.underlying9 (by kernel_rfl) (by kernel_rfl)
    exact ⟨_, _, hv⟩
  · obtain ⟨a, s, hv, _⟩ := laid_sentinel h5 (g := 2) (by kernel_rfl) (by kernel_rfl) Tryz.underlying83 err_name Tryz.underlying170 Tryz.underlying172 rfl rfl Tryz.underlying9 (by kernel_rfl) (by kernel_rfl)
    exact ⟨_, _, hv⟩
  · exact Lib.tabIs_of_head (P := Tryz.prog) (g := 3) (t := 174) (e := 22) (n := 20) (by kernel_rfl) (by kernel_rfl) Tryz.underlying174 Tryz.underlying22 (by kernel_rfl) (by kernel_rfl) h3
  · have hT := Lib.tabIs_of_head (P := Tryz.prog) (g := 5) (t := 185) (e := 5) (n := 64) (by kernel_rfl) (by kernel_rfl) Tryz.underlying185 Tryz.underlying5 (by kernel_rfl) (by kernel_rfl) h2
    intro j hj
    have hc := hT.cell (g := 5) (by kernel_rfl) j (by unfold tabZ; rw [List.length_map, show Lib.deBruijn64tab.length = 64 by decide]; exact hj)
    rw [hc]
    have e : tabZ.getD j 0 = ((Lib.deBruijn64tab.getD j 0 : Nat) : Int) := by
      unfold tabZ
      simp only [List.getD_eq_getElem?_getD, List.getElem?_map]
      cases Lib.deBruijn64tab[j]? <;> rfl
    rw [e]
/-- the plain wrap with the row's condition and the start's shape -/
theorem lift_shaped {H : Type} {enc : TypeId × Value → H} {C : Checked} {os : Os} {f : FuncId} {fn : Func} {s : ChangeSpec} {X : World → Array Value → Prop}
    (hX : ∀ (w w' : World) (args : Array Value), w.heap = w'.heap → X w args → X w' args)
    (own : ownKnob C.prog.godebug = none) (started : os.Started) (noInit : C.prog.inits.idxOf? f = none) (hfn : C.prog.funcs[f]? = some fn)
    (witness : ∃ (w : World) (tape : Tape) (i : Input), w.os = os ∧ (w.forCall tape i).Shaped C.prog ∧ i.vars = [] ∧ Input.okWide C.prog (w.forCall tape i) .any w.heap.size f i ∧
      ((s.pre enc C.prog fn [] false (w.forCall tape i).memory i.args ∧ X (w.forCall tape i).memory i.args) ∧ sizedMet enc C.prog fn (OpenSpec.ofChange s) false (w.forCall tape i).memory i.args) ∧ ({} : Assume).holds C.prog (lone (Frame.enter C.prog f i.args .normal) [] (w.forCall tape i)))
    (contract : ∀ (W : World) (base : Nat) (args : Array Value) (ds gs : List (DataW H)) (before : List MemPlace),
      (∀ (j : Nat) t v, fn.params[j]? = some t → args[j]? = some v → Value.okWide C.prog W .any base t v) →
      DataW.Whole enc C.prog fn.params.toList s.vars false W args.toList ds gs before → X W args → W.ShapedOpen C.prog →
      Calls C.prog f args W fun e W' => ∃ v, e = .returned v ∧ s.post enc C.prog fn false true false false W args v W') :
    ReturnsInHanded {} C os f .any (fun w args => (s.pre enc C.prog fn [] false w args ∧ X w args) ∧ sizedMet enc C.prog fn (OpenSpec.ofChange s) false w args) (s.post enc C.prog fn false true false false) := by
  refine returnsInHanded_of_calls own started noInit witness ?_
  intro w tape i _ hshape _ hok hpre _
  obtain ⟨_, _, _, fn2, hfn2, _, _, _, _, hval⟩ := hok
  obtain rfl : fn2 = fn := Option.some.inj (hfn2.symm.trans hfn)
  obtain ⟨⟨⟨ds, gs, before, hw, _⟩, hx⟩, _⟩ := hpre
  refine (contract (w.forCall tape i) w.heap.size i.args ds gs before hval (DataW.Whole.of_heap (w' := w.forCall tape i) (by rfl) hw) (hX _ _ _ (by rfl) hx) hshape).mono fun e W' ⟨v, he, hp⟩ => ?_
  subst he
  exact ChangeSpec.post_blind hp
end Go.Proofs.YtgdgklibilddgaaGreatDoor

namespace Go.Proofs.YtgdgklibilddgaaGreatDoor
open Go.ChangeShapes Go.WideShapes Go.ChangeAt Go.RowKit Go.Joins

theorem Tryz.cellsNum : Tryz.prog.cellsOf 24 = 2 := by kernel_rfl

end Go.Proofs.YtgdgklibilddgaaGreatDoor

namespace Go.Proofs.YtgdgklibilddgaaGreatDoor
open Go.ChangeShapes Go.WideShapes Go.ChangeAt Go.RowKit Go.Joins

set_option maxRecDepth 100000 in
theorem Tryz.cellsAddr : Tryz.prog.cellsOf 26 = 3 := by kernel_rfl
def numD {H : Type} (n : Nat) : DataW H := .agg [.lit (.int .u64 (hi n)), .lit (.int .u64 (lo n))]
def addrD {H : Type} (v : Bool) (n : Nat) : DataW H := .agg [.lit (.bool v), numD n]
/-- the number's words are in their bounds -/
def numOk (n : Nat) : Prop := (Lit.int .u64 (hi n)).wf = true ∧ (Lit.int .u64 (lo n)).wf = true

set_option maxRecDepth 100000 in
theorem trod_bool_form {H : Type} {enc : TypeId × Value → H} {P : Program} {w : World} {base : Nat} {sp : Nat → Bool} {held : Bool} {fuel : Nat} {t : TypeId} {c : Value} {x : DataW H × List MemPlace} (ht : P.underlying t = some .bool)
    (h : DataW.trod enc P w base sp held fuel t [c] = some x) : ∃ b, c = .bool b ∧ x = (.lit (.bool b), []) := by
  cases fuel with
  | zero => simp [DataW.trod] at h
  | succ fuel =>
    simp only [DataW.trod, ht] at h
    split at h
    · rename_i e1 e2
      simp at e2
      subst e2
      exact ⟨_, rfl, (Option.some.inj h).symm⟩
    all_goals first | (rename_i e1 _; cases e1; done) | (cases h; done) | skip
    all_goals simp_all
set_option maxRecDepth 100000 in
theorem trod_num_form {H : Type} {enc : TypeId × Value → H} {W : World} {base : Nat} {sp : Nat → Bool} {held : Bool} {fuel : Nat} {c0 c1 : Value} {x : DataW H × List MemPlace}
    (h : DataW.trod enc Tryz.prog W base sp held fuel 24 [c0, c1] = some x) : ∃ n : Nat, n < 340282366920938463463374607431768211456 ∧ c0 = .int .u64 (hi n) ∧ c1 = .int .u64 (lo n) ∧ x = (numD n, []) ∧ numOk n := by
  obtain ⟨y0, y1, m, rfl, _, h0, h1⟩ := trod_struct2 Tryz.underlying24 h
  have h0' : DataW.trod enc Tryz.prog W base sp held m 22 [c0] = some y0 := h0
  have h1' : DataW.trod enc Tryz.prog W base sp held m 22 [c1] = some y1 := h1
  obtain ⟨a, e0, rfl, wa⟩ := DataW.trod_int Tryz.underlying22 h0'
  obtain ⟨b, e1, rfl, wb⟩ := DataW.trod_int Tryz.underlying22 h1'
  simp at e0 e1
  subst e0 e1
  obtain ⟨a0, a1⟩ := u64_bd wa
  obtain ⟨b0', b1⟩ := u64_bd wb
  refine ⟨num a b, num_lt a1 b1, ?_, ?_, ?_, ?_, ?_⟩
  · rw [hi_num a0 a1 b0' b1]
  · rw [lo_num b0' b1]
  · unfold numD; rw [hi_num a0 a1 b0' b1, lo_num b0' b1]; rfl
  · rw [hi_num a0 a1 b0' b1]; exact wa
  · rw [lo_num b0' b1]; exact wb
set_option maxRecDepth 100000 in
theorem trod_num_mk {H : Type} {enc : TypeId × Value → H} {W : World} {base : Nat} {sp : Nat → Bool} {held : Bool} {n : Nat} (h : numOk n) : DataW.trod enc Tryz.prog W base sp held 2 24 [.int .u64 (hi n), .int .u64 (lo n)] = some (numD n, []) := by
  obtain ⟨wa, wb⟩ := h
  have := trod_struct2_mk (enc := enc) (w := W) (base := base) (spare := sp) (held := held) (n := 1) (cs := [.int .u64 (hi n), .int .u64 (lo n)]) (y0 := (.lit (.int .u64 (hi n)), [])) (y1 := (.lit (.int .u64 (lo n)), [])) Tryz.underlying24 Tryz.cellsNum.symm
    (by show DataW.trod enc Tryz.prog W base sp held 1 22 [.int .u64 (hi n)] = _; simp [DataW.trod, Tryz.underlying22, wa])
    (by show DataW.trod enc Tryz.prog W base sp held 1 22 [.int .u64 (lo n)] = _; simp [DataW.trod, Tryz.underlying22, wb])
  exact this
set_option maxRecDepth 100000 in
theorem trod_addr_form {H : Type} {enc : TypeId × Value → H} {W : World} {base : Nat} {sp : Nat → Bool} {held : Bool} {fuel : Nat} {c0 c1 c2 : Value} {x : DataW H × List MemPlace}
    (h : DataW.trod enc Tryz.prog W base sp held fuel 26 [c0, c1, c2] = some x) : ∃ (v : Bool) (n : Nat), n < 340282366920938463463374607431768211456 ∧ c0 = .bool v ∧ c1 = .int .u64 (hi n) ∧ c2 = .int .u64 (lo n) ∧ x = (addrD v n, []) ∧ numOk n := by
  obtain ⟨y0, y1, m, rfl, _, h0, h1⟩ := trod_struct2 Tryz.underlying26 h
  have h0' : DataW.trod enc Tryz.prog W base sp held m 4 [c0] = some y0 := h0
  have h1' : DataW.trod enc Tryz.prog W base sp held m 24 [c1, c2] = some y1 := h1
  obtain ⟨v, rfl, rfl⟩ := trod_bool_form Tryz.underlying4 h0'
  obtain ⟨n, hn, rfl, rfl, rfl, ho⟩ := trod_num_form h1'
  exact ⟨v, n, hn, rfl, rfl, rfl, rfl, ho⟩
set_option maxRecDepth 100000 in
theorem trod_addr_mk {H : Type} {enc : TypeId × Value → H} {W : World} {base : Nat} {sp : Nat → Bool} {held : Bool} {v : Bool} {n : Nat} (h : numOk n) : DataW.trod enc Tryz.prog W base sp held 3 26 [.bool v, .int .u64 (hi n), .int .u64 (lo n)] = some (addrD v n, []) := by
  have := trod_struct2_mk (enc := enc) (w := W) (base := base) (spare := sp) (held := held) (n := 2) (cs := [.bool v, .int .u64 (hi n), .int .u64 (lo n)]) (y0 := (.lit (.bool v), [])) (y1 := (numD n, [])) Tryz.underlying26 Tryz.cellsAddr.symm
    (by show DataW.trod enc Tryz.prog W base sp held 2 4 [.bool v] = _; simp [DataW.trod, Tryz.underlying4])
    (trod_num_mk h)
  exact this
end Go.Proofs.YtgdgklibilddgaaGreatDoor

namespace Go.Proofs.YtgdgklibilddgaaGreatDoor
open Go.ChangeShapes Go.WideShapes Go.ChangeAt Go.RowKit Go.Joins

set_option maxRecDepth 100000 in
theorem Tryz.cellsPfx : Tryz.prog.cellsOf 38 = 4 := by kernel_rfl
def pfxD {H : Type} (v : Bool) (n : Nat) (b : Int) : DataW H := .agg [addrD v n, .lit (.int .i64 b)]
def pfxOk (n : Nat) (b : Int) : Prop := numOk n ∧ (Lit.int .i64 b).wf = true
set_option maxRecDepth 100000 in
theorem trod_pfx_form {H : Type} {enc : TypeId × Value → H} {W : World} {base : Nat} {sp : Nat → Bool} {held : Bool} {fuel : Nat} {c0 c1 c2 c3 : Value} {x : DataW H × List MemPlace}
    (h : DataW.trod enc Tryz.prog W base sp held fuel 38 [c0, c1, c2, c3] = some x) : ∃ (v : Bool) (n : Nat) (b : Int), n < 340282366920938463463374607431768211456 ∧ c0 = .bool v ∧ c1 = .int .u64 (hi n) ∧ c2 = .int .u64 (lo n) ∧ c3 = .int .i64 b ∧ x = (pfxD v n b, []) ∧ pfxOk n b := by
  obtain ⟨y0, y1, m, rfl, _, h0, h1⟩ := trod_struct2 Tryz.underlying38 h
  have h0' : DataW.trod enc Tryz.prog W base sp held m 26 [c0, c1, c2] = some y0 := h0
  have h1' : DataW.trod enc Tryz.prog W base sp held m 3 [c3] = some y1 := h1
  obtain ⟨v, n, hn, rfl, rfl, rfl, rfl, ho⟩ := trod_addr_form h0'
  obtain ⟨b, e1, rfl, wb⟩ := DataW.trod_int Tryz.underlying3 h1'
  simp at e1
  subst e1
  exact ⟨v, n, b, hn, rfl, rfl, rfl, rfl, rfl, ho, wb⟩
set_option maxRecDepth 100000 in
theorem trod_pfx_mk {H : Type} {enc : TypeId × Value → H} {W : World} {base : Nat} {sp : Nat → Bool} {held : Bool} {v : Bool} {n : Nat} {b : Int} (h : pfxOk n b) : DataW.trod enc Tryz.prog W base sp held 4 38 [.bool v, .int .u64 (hi n), .int .u64 (lo n), .int .i64 b] = some (pfxD v n b, []) := by
  have wb := h.2
  have := trod_struct2_mk (enc := enc) (w := W) (base := base) (spare := sp) (held := held) (n := 3) (cs := [.bool v, .int .u64 (hi n), .int .u64 (lo n), .int .i64 b]) (y0 := (addrD v n, [])) (y1 := (.lit (.int .i64 b), [])) Tryz.underlying38 Tryz.cellsPfx.symm
    (trod_addr_mk h.1)
    (by show DataW.trod enc Tryz.prog W base sp held 3 3 [.int .i64 b] = _; simp [DataW.trod, Tryz.underlying3, wb])
  exact this
theorem arr4 {α : Type} {cs : Array α} (h : cs.size = 4) : ∃ c0 c1 c2 c3, cs = #[c0, c1, c2, c3] := by
  rcases cs with ⟨l⟩
  match l, h with
  | [a, b, c, d], _ => exact ⟨a, b, c, d, rfl⟩
set_option maxRecDepth 100000 in
/-- a prefix as an argument -/
theorem open_pfx {H : Type} {enc : TypeId × Value → H} {W : World} {base b0 : Nat} {sp : Nat → Bool} {v : Value} {d : DataW H} {p : List MemPlace} {r : Reach}
    (hv : Value.okWide Tryz.prog W r b0 38 v) (h : DataW.Trod enc Tryz.prog W base sp true 38 v d p) :
    ∃ (u : Bool) (n : Nat) (b : Int), n < 340282366920938463463374607431768211456 ∧ (Lit.int .i64 b).wf = true ∧ v = PfxV u n b ∧ d = pfxD u n b ∧ p = [] ∧ pfxOk n b := by
  obtain ⟨cs, rfl, hsz⟩ := okWide_struct Tryz.underlying38 hv
  obtain ⟨c0, c1, c2, c3, rfl⟩ := arr4 (hsz.trans Tryz.cellsPfx)
  obtain ⟨fuel, hf⟩ := h
  obtain ⟨u, n, b, hn, rfl, rfl, rfl, rfl, e, ho⟩ := trod_pfx_form hf
  simp only [Prod.mk.injEq] at e
  exact ⟨u, n, b, hn, ho.2, rfl, e.1, e.2, ho⟩
set_option maxRecDepth 100000 in
theorem shut_pfx {H : Type} {enc : TypeId × Value → H} {W : World} {base : Nat} {sp : Nat → Bool} {u : Bool} {n : Nat} {b : Int} (h : pfxOk n b) :
    DataW.Trod enc Tryz.prog W base sp true 38 (PfxV u n b) (pfxD u n b) [] := ⟨4, trod_pfx_mk h⟩
end Go.Proofs.YtgdgklibilddgaaGreatDoor

namespace Go.Proofs.YtgdgklibilddgaaGreatDoor
open Go.ChangeShapes Go.WideShapes Go.ChangeAt Go.RowKit
open Go.ChangeMaps (open_string shut_string)

set_option maxRecDepth 100000 in
theorem prefixCommon_lifted (os : Os) (started : os.Started) (H : Type) (enc : TypeId × Value → H) :
    ReturnsInHanded {} Tryz.checked os 5 .any (fun w args => (Rows.prefixCommonSpec.pre enc Tryz.prog Tryz.f5 [] false w args ∧ laidMetH Tryz.prog listA w) ∧ sizedMet enc Tryz.prog Tryz.f5 (OpenSpec.ofChange Rows.prefixCommonSpec) false w args)
      (Rows.prefixCommonSpec.post enc Tryz.prog Tryz.f5 false true false false) := by
  refine lift_shaped (C := Tryz.checked) (X := fun w _ => laidMetH Tryz.prog listA w) (fun _ _ _ hh h => h.of_heap hh) Tryz.own started (by kernel_rfl) Tryz.func5
    (ChangeSpec.witness_shaped (enc := enc) (C := Tryz.checked) (os := os) (X := fun w _ => laidMetH Tryz.prog listA w) false (World.laidAll Tryz.prog os listA) #[.agg #[.bool false, .int .u64 0, .int .u64 0, .int .i64 0], .agg #[.bool false, .int .u64 0, .int .u64 0, .int .i64 0]] 8 (World.laidAll_os _ _ _) (World.shaped_of_ZipB (by kernel_rfl) (by kernel_rfl)) (by kernel_rfl) (by kernel_rfl) (by kernel_rfl) (doorA_met os _)) ?_
  intro W base args ds gs before hval0 hW hL hSh
  have hval : ∀ (j : Nat) t v, Tryz.f5.params[j]? = some t → args[j]? = some v → Value.okWide Tryz.prog W .any base t v := hval0
  have hW' := hW
  obtain ⟨p, q, hA0, hV, rfl, _, _⟩ := hW
  have hA : DataW.TrodAll enc Tryz.prog W 0 (fun _ => true) true Tryz.f5.params.toList args.toList ds p := hA0
  rw [Tryz.params5] at hA hval
  obtain ⟨v0, v1, d0, d1, p0, p1, rfl, rfl, rfl, h0, h1⟩ := trodAll_two hA
  obtain ⟨rfl, rfl⟩ := trodVars_none hV
  obtain ⟨u0, x0, b0, hx0, hb0, rfl, rfl, rfl, ho0⟩ := open_pfx (hval 0 38 v0 rfl rfl) h0
  obtain ⟨u1, x1, b1, hx1, hb1, rfl, rfl, rfl, ho1⟩ := open_pfx (hval 1 38 v1 rfl rfl) h1
  clear hA0 hval0
  simp only [List.append_nil] at hW'
  refine (prefixCommon_walk u0 x0 b0 u1 x1 b1 W hx0 hb0 hx1 hb1 (glob_of hL hSh)).mono fun e W' ⟨he, hw⟩ => ?_
  subst he
  exact ⟨_, rfl, post_below (pa := []) (pv := []) hW' (fun _ _ _ => trodAll_mk1 (shut_bool Tryz.underlying4 _)) (fun sp _ => trodAll_mk2 (shut_pfx ho0) (shut_pfx ho1)) (fun _ _ => rfl) rfl
    hw (ok_one (by kernel_rfl) rfl (okWide_bool_mk Tryz.underlying4 _))⟩

theorem prefixCommon_row : Rows.PrefixCommonSaid :=
  OpenClaim.holds_of_wide 5 Tryz.f5 rfl rfl rfl rfl rfl rfl rfl ⟨rfl, rfl, rfl, rfl, rfl⟩ rfl rfl rfl rfl rfl (by kernel_rfl) Tryz.func5 (by kernel_rfl)
    (of_decide_eq_true (by kernel_rfl)) (by unfold Func.isWrapper; first | (rw [if_pos (by decide +kernel)]; kernel_rfl) | (rw [if_neg (by decide +kernel)]; exact ⟨rfl, rfl⟩))
    (fun os started H enc _ => prefixCommon_lifted os started H enc)

theorem prefixCommon_card : Rows.PrefixCommonCardSaid :=
  Claim7.holds_tied_plain_at .later [] [.data, .data, .data, .data, .sentinel, .sentinel, .pinned] true Rows.prefixCommonCard.stood.harness true
    prefixCommon_row (fun _ h => by cases h) (by kernel_rfl) (fun _ h => by cases h) prefixCommon_row_tie rfl ⟨rfl, rfl⟩ (by kernel_rfl) rfl
    (fun f fn hf hfn => by
      obtain rfl : f = 5 := Option.some.inj ((show Tryz.prog.funcNamed "platbook/platbooklaw03.PrefixCommon" = some 5 by kernel_rfl).symm.trans hf) |>.symm
      obtain rfl : fn = Tryz.f5 := (Option.some.inj (Tryz.func5.symm.trans hfn)).symm
      exact ⟨by kernel_rfl, fun j t ht => by
        rw [Tryz.params5] at ht
        have hm : t ∈ [38, 38] := by simpa using Array.mem_of_getElem? ht
        have hall : ([38, 38].all fun u => !Tryz.prog.wantsStandIn u) = true := by kernel_rfl
        exact (show Tryz.prog.wantsStandIn t = false by simpa using List.all_eq_true.1 hall t hm)⟩)
    (by kernel_rfl)
end Go.Proofs.YtgdgklibilddgaaGreatDoor

#print axioms Go.Proofs.YtgdgklibilddgaaGreatDoor.prefixCommon_card
