/-
CarveParts: blocks of unlike numbers have no address in common and stand in the order of their numbers; each address of the prefix is in the block that its number tells: for every prefix, number of bits, two numbers and address the call returns true. No condition; the listed variables are tied to the program's text.
-/
import Derived.LaidMore
import Derived.Lay
import Derived.MakeChecks
import Derived.LaidByTextLater
import Derived.OpenShut
import Derived.Stop.Joined
import Derived.Stop.LaidErr
import Derived.Handed
import Derived.Shelf.Vars
import Derived.SevenTiedAt
import Derived.ShutString
import Derived.Test.YtgdgklibilddgaaGreatDoorPaoM3
import Derived.Test.YtgdgklibilddgaaGreatDoorRows
import Derived.Test.YtgdgklibilddgaaGreatDoorCards
import Derived.Test.YtgdgklibilddgaaGreatDoorTie
set_option linter.unusedVariables false
set_option linter.unusedSimpArgs false
namespace Go.Proofs.YtgdgklibilddgaaGreatDoor.PPr
open Go.RowKit Go.Proofs.YtgdgklibilddgaaGreatDoorW.PrintWords Go.Proofs.YtgdgklibilddgaaGreatDoorW.PrintLast Go.Proofs.YtgdgklibilddgaaGreatDoorW.PrintMore
attribute [local go_sem] max2_int min2_int max_two min_two max_three min_three max_four min_four   -- for this text's walks alone

def platbooklaw04_awake.f (k : Nat)  : Option (Bool) := (prefix_Parse.f (⟨#[49, 48, 46, 48, 46, 48, 46, 48, 47, 56]⟩ : ByteArray)).bind fun bt513 => ((num_Of.f 257).bind fun bt519 => ((carve_Block.f bt513.1 bt513.2.1 bt513.2.2.1 bt513.2.2.2.1 24 bt519.1 bt519.2).bind fun bt521 => ((addr_V4.f 167772161).bind fun bt527 => ((addr_V4.f 167772164).bind fun bt530 => ((carve_Spread.f k bt527.1 bt527.2.1 bt527.2.2 bt530.1 bt530.2.1 bt530.2.2).bind fun bt533 => (if bt521.2.2.2.2 = 0 then ((prefix_Print.f bt521.1 bt521.2.1 bt521.2.2.1 bt521.2.2.2.1).bind fun t537 => (if t537.toList = ([49, 48, 46, 49, 46, 49, 46, 48, 47, 50, 52] : List UInt8) then (if bt533.2 = 0 then (if (bt533.1.length : Int) = 3 then (if 1 < (bt533.1.length : Int) then ((prefix_Print.f ((rd_T38 bt533.1 1).f0.f0) ((rd_T38 bt533.1 1).f0.f1.f0) ((rd_T38 bt533.1 1).f0.f1.f1) ((rd_T38 bt533.1 1).f1)).bind fun t539 => (some (t539.toList == ([49, 48, 46, 48, 46, 48, 46, 50, 47, 51, 49] : List UInt8)))) else (none)) else (some false)) else (some false)) else (some false))) else (some false)))))))
def platbooklaw04_awake.T2 : Bool × List (List Nat × List Nat) := (true, [([], []), ([], []), ([0, 1, 1], [0, 1]), ([2], [2]), ([3], [3]), ([3], [3]), ([], []), ([6, 4, 2, 0, 1, 2, 3, 4, 6], [4, 6]), ([5, 7, 0, 1, 2, 3, 4, 5, 6, 7], [5])])
def platbooklaw04_awake.B2 : List Nat := [0, 0, 3, 7, 15, 15, 0, 95, 255]
theorem platbooklaw04_awake.tab2 : rtab .any (opsOf Tryz.f46 2) = platbooklaw04_awake.T2 := by kernel_rfl
theorem platbooklaw04_awake.bits2 : waitsOk platbooklaw04_awake.T2.2 platbooklaw04_awake.B2 = true := by kernel_rfl
set_option maxHeartbeats 8000000 in
set_option maxRecDepth 100000 in
theorem platbooklaw04_awake.calls (k : Nat)  (r : Bool) (w : World) (hG : Glob w) (hrt : r = true) (h : platbooklaw04_awake.f k  = some r) :
  Calls Tryz.prog 46 #[] w fun e w' => e = .returned (.bool r) ∧ Below w.heap.size w w' := by
 have hu38 := Tryz.underlying38
 have HGLB := Aside0.mk hG
 clear hG
 have HRT := Aside0.mk hrt
 clear hrt
 have HB := Aside0.mk (Below.refl w.heap.size w)
 have H : ((prefix_Parse.f (⟨#[49, 48, 46, 48, 46, 48, 46, 48, 47, 56]⟩ : ByteArray)).bind fun bt513 => ((num_Of.f 257).bind fun bt519 => ((carve_Block.f bt513.1 bt513.2.1 bt513.2.2.1 bt513.2.2.2.1 24 bt519.1 bt519.2).bind fun bt521 => ((addr_V4.f 167772161).bind fun bt527 => ((addr_V4.f 167772164).bind fun bt530 => ((carve_Spread.f k bt527.1 bt527.2.1 bt527.2.2 bt530.1 bt530.2.1 bt530.2.2).bind fun bt533 => (if bt521.2.2.2.2 = 0 then ((prefix_Print.f bt521.1 bt521.2.1 bt521.2.2.1 bt521.2.2.2.1).bind fun t537 => (if t537.toList = ([49, 48, 46, 49, 46, 49, 46, 48, 47, 50, 52] : List UInt8) then (if bt533.2 = 0 then (if (bt533.1.length : Int) = 3 then (if 1 < (bt533.1.length : Int) then ((prefix_Print.f ((rd_T38 bt533.1 1).f0.f0) ((rd_T38 bt533.1 1).f0.f1.f0) ((rd_T38 bt533.1 1).f0.f1.f1) ((rd_T38 bt533.1 1).f1)).bind fun t539 => (some (t539.toList == ([49, 48, 46, 48, 46, 48, 46, 50, 47, 51, 49] : List UInt8)))) else (none)) else (some false)) else (some false)) else (some false))) else (some false)))))))) = some r := h
 clear h
 replace H := Option.bind_eq_some_iff.mp H
 obtain ⟨⟨t513, t514, t515, t516, t517⟩, A10, H⟩ := H
 replace H : ((num_Of.f 257).bind fun bt519 => ((carve_Block.f t513 t514 t515 t516 24 bt519.1 bt519.2).bind fun bt521 => ((addr_V4.f 167772161).bind fun bt527 => ((addr_V4.f 167772164).bind fun bt530 => ((carve_Spread.f k bt527.1 bt527.2.1 bt527.2.2 bt530.1 bt530.2.1 bt530.2.2).bind fun bt533 => (if bt521.2.2.2.2 = 0 then ((prefix_Print.f bt521.1 bt521.2.1 bt521.2.2.1 bt521.2.2.2.1).bind fun t537 => (if t537.toList = ([49, 48, 46, 49, 46, 49, 46, 48, 47, 50, 52] : List UInt8) then (if bt533.2 = 0 then (if (bt533.1.length : Int) = 3 then (if 1 < (bt533.1.length : Int) then ((prefix_Print.f ((rd_T38 bt533.1 1).f0.f0) ((rd_T38 bt533.1 1).f0.f1.f0) ((rd_T38 bt533.1 1).f0.f1.f1) ((rd_T38 bt533.1 1).f1)).bind fun t539 => (some (t539.toList == ([49, 48, 46, 48, 46, 48, 46, 50, 47, 51, 49] : List UInt8)))) else (none)) else (some false)) else (some false)) else (some false))) else (some false))))))) = some r := H
 have A1 := Aside0.mk A10
 clear A10
 replace H := Option.bind_eq_some_iff.mp H
 obtain ⟨⟨t519, t520⟩, A20, H⟩ := H
 replace H : ((carve_Block.f t513 t514 t515 t516 24 t519 t520).bind fun bt521 => ((addr_V4.f 167772161).bind fun bt527 => ((addr_V4.f 167772164).bind fun bt530 => ((carve_Spread.f k bt527.1 bt527.2.1 bt527.2.2 bt530.1 bt530.2.1 bt530.2.2).bind fun bt533 => (if bt521.2.2.2.2 = 0 then ((prefix_Print.f bt521.1 bt521.2.1 bt521.2.2.1 bt521.2.2.2.1).bind fun t537 => (if t537.toList = ([49, 48, 46, 49, 46, 49, 46, 48, 47, 50, 52] : List UInt8) then (if bt533.2 = 0 then (if (bt533.1.length : Int) = 3 then (if 1 < (bt533.1.length : Int) then ((prefix_Print.f ((rd_T38 bt533.1 1).f0.f0) ((rd_T38 bt533.1 1).f0.f1.f0) ((rd_T38 bt533.1 1).f0.f1.f1) ((rd_T38 bt533.1 1).f1)).bind fun t539 => (some (t539.toList == ([49, 48, 46, 48, 46, 48, 46, 50, 47, 51, 49] : List UInt8)))) else (none)) else (some false)) else (some false)) else (some false))) else (some false)))))) = some r := H
 have A2 := Aside0.mk A20
 clear A20
 replace H := Option.bind_eq_some_iff.mp H
 obtain ⟨⟨t521, t522, t523, t524, t525⟩, A30, H⟩ := H
 replace H : ((addr_V4.f 167772161).bind fun bt527 => ((addr_V4.f 167772164).bind fun bt530 => ((carve_Spread.f k bt527.1 bt527.2.1 bt527.2.2 bt530.1 bt530.2.1 bt530.2.2).bind fun bt533 => (if t525 = 0 then ((prefix_Print.f t521 t522 t523 t524).bind fun t537 => (if t537.toList = ([49, 48, 46, 49, 46, 49, 46, 48, 47, 50, 52] : List UInt8) then (if bt533.2 = 0 then (if (bt533.1.length : Int) = 3 then (if 1 < (bt533.1.length : Int) then ((prefix_Print.f ((rd_T38 bt533.1 1).f0.f0) ((rd_T38 bt533.1 1).f0.f1.f0) ((rd_T38 bt533.1 1).f0.f1.f1) ((rd_T38 bt533.1 1).f1)).bind fun t539 => (some (t539.toList == ([49, 48, 46, 48, 46, 48, 46, 50, 47, 51, 49] : List UInt8)))) else (none)) else (some false)) else (some false)) else (some false))) else (some false))))) = some r := H
 have A3 := Aside0.mk A30
 clear A30
 replace H := Option.bind_eq_some_iff.mp H
 obtain ⟨⟨t527, t528, t529⟩, A40, H⟩ := H
 replace H : ((addr_V4.f 167772164).bind fun bt530 => ((carve_Spread.f k t527 t528 t529 bt530.1 bt530.2.1 bt530.2.2).bind fun bt533 => (if t525 = 0 then ((prefix_Print.f t521 t522 t523 t524).bind fun t537 => (if t537.toList = ([49, 48, 46, 49, 46, 49, 46, 48, 47, 50, 52] : List UInt8) then (if bt533.2 = 0 then (if (bt533.1.length : Int) = 3 then (if 1 < (bt533.1.length : Int) then ((prefix_Print.f ((rd_T38 bt533.1 1).f0.f0) ((rd_T38 bt533.1 1).f0.f1.f0) ((rd_T38 bt533.1 1).f0.f1.f1) ((rd_T38 bt533.1 1).f1)).bind fun t539 => (some (t539.toList == ([49, 48, 46, 48, 46, 48, 46, 50, 47, 51, 49] : List UInt8)))) else (none)) else (some false)) else (some false)) else (some false))) else (some false)))) = some r := H
 have A4 := Aside0.mk A40
 clear A40
 replace H := Option.bind_eq_some_iff.mp H
 obtain ⟨⟨t530, t531, t532⟩, A50, H⟩ := H
 replace H : ((carve_Spread.f k t527 t528 t529 t530 t531 t532).bind fun bt533 => (if t525 = 0 then ((prefix_Print.f t521 t522 t523 t524).bind fun t537 => (if t537.toList = ([49, 48, 46, 49, 46, 49, 46, 48, 47, 50, 52] : List UInt8) then (if bt533.2 = 0 then (if (bt533.1.length : Int) = 3 then (if 1 < (bt533.1.length : Int) then ((prefix_Print.f ((rd_T38 bt533.1 1).f0.f0) ((rd_T38 bt533.1 1).f0.f1.f0) ((rd_T38 bt533.1 1).f0.f1.f1) ((rd_T38 bt533.1 1).f1)).bind fun t539 => (some (t539.toList == ([49, 48, 46, 48, 46, 48, 46, 50, 47, 51, 49] : List UInt8)))) else (none)) else (some false)) else (some false)) else (some false))) else (some false))) = some r := H
 have A5 := Aside0.mk A50
 clear A50
 replace H := Option.bind_eq_some_iff.mp H
 obtain ⟨⟨t533, t536⟩, A60, H⟩ := H
 replace H : (if t525 = 0 then ((prefix_Print.f t521 t522 t523 t524).bind fun t537 => (if t537.toList = ([49, 48, 46, 49, 46, 49, 46, 48, 47, 50, 52] : List UInt8) then (if t536 = 0 then (if (t533.length : Int) = 3 then (if 1 < (t533.length : Int) then ((prefix_Print.f ((rd_T38 t533 1).f0.f0) ((rd_T38 t533 1).f0.f1.f0) ((rd_T38 t533 1).f0.f1.f1) ((rd_T38 t533 1).f1)).bind fun t539 => (some (t539.toList == ([49, 48, 46, 48, 46, 48, 46, 50, 47, 51, 49] : List UInt8)))) else (none)) else (some false)) else (some false)) else (some false))) else (some false)) = some r := H
 have A6 := Aside0.mk A60
 clear A60
 by_cases c7 : t525 = 0
 ·
  rw [if_pos c7] at H
  have c7b0 : (t525 == 0) = true := beq_iff_eq.mpr c7
  have c7b1 : (t525 != 0) = false := bne_eq_false_iff_eq.mpr c7
  clear c7
  replace H := Option.bind_eq_some_iff.mp H
  obtain ⟨t537, A80, H⟩ := H
  replace H : (if t537.toList = ([49, 48, 46, 49, 46, 49, 46, 48, 47, 50, 52] : List UInt8) then (if t536 = 0 then (if (t533.length : Int) = 3 then (if 1 < (t533.length : Int) then ((prefix_Print.f ((rd_T38 t533 1).f0.f0) ((rd_T38 t533 1).f0.f1.f0) ((rd_T38 t533 1).f0.f1.f1) ((rd_T38 t533 1).f1)).bind fun t539 => (some (t539.toList == ([49, 48, 46, 48, 46, 48, 46, 50, 47, 51, 49] : List UInt8)))) else (none)) else (some false)) else (some false)) else (some false)) = some r := H
  have A8 := Aside0.mk A80
  clear A80
  by_cases c9 : t537.toList = ([49, 48, 46, 49, 46, 49, 46, 48, 47, 50, 52] : List UInt8)
  ·
   rw [if_pos c9] at H
   have c9b0 : (t537.toList == ([49, 48, 46, 49, 46, 49, 46, 48, 47, 50, 52] : List UInt8)) = true := beq_iff_eq.mpr c9
   have c9b1 : (t537.toList != ([49, 48, 46, 49, 46, 49, 46, 48, 47, 50, 52] : List UInt8)) = false := bne_eq_false_iff_eq.mpr c9
   clear c9
   by_cases c10 : t536 = 0
   ·
    rw [if_pos c10] at H
    have c10b0 : (t536 == 0) = true := beq_iff_eq.mpr c10
    have c10b1 : (t536 != 0) = false := bne_eq_false_iff_eq.mpr c10
    clear c10
    by_cases c11 : (t533.length : Int) = 3
    ·
     rw [if_pos c11] at H
     have c11b0 : ((t533.length : Int) == 3) = true := beq_iff_eq.mpr c11
     have c11b1 : ((t533.length : Int) != 3) = false := bne_eq_false_iff_eq.mpr c11
     clear c11
     by_cases c12 : 1 < (t533.length : Int)
     ·
      rw [if_pos c12] at H
      have c12b0 : decide (1 < (t533.length : Int)) = true := decide_eq_true c12
      have c12b1 : decide (1 < t533.length) = true := decide_eq_true (by omega)
      clear c12
      replace H := Option.bind_eq_some_iff.mp H
      obtain ⟨t539, A130, H⟩ := H
      replace H : (some (t539.toList == ([49, 48, 46, 48, 46, 48, 46, 50, 47, 51, 49] : List UInt8))) = some r := H
      have A13 := Aside0.mk A130
      clear A130
      obtain rfl := Option.some.inj H
      go_enter Tryz.func46, Tryz.ntmps46
      try go_wp2_with (first | ((with_reducible refine gate_callee (f := 25) rfl ?_); refine gl_ (some 8) Tryz.func25 #[.string (⟨#[49, 48, 46, 48, 46, 48, 46, 48, 47, 56]⟩ : ByteArray)] ?_; (with_reducible refine (prefix_Parse.calls (⟨#[49, 48, 46, 48, 46, 48, 46, 48, 47, 56]⟩ : ByteArray) t513 t514 t515 t516 t517 _ ?side1 A1.out).mono ?_); (case side1 => exact glob_keep HGLB.out (pb_ HB)); rintro e w14 ⟨rfl, hb⟩; refine ⟨_, rfl, ?_⟩; replace HB := bs_ HB hb; (try clear hb); (try clear hb2); (try clear hk); (try clear hi)) | ((with_reducible refine gate_dst (N := 1) rfl ?_); (try (refine gate_guard (by rfl) ?_; dsimp only)); refine bx_ 1 #[.bool false, .int .u64 0, .int .u64 0, .int .i64 0] 38 ?_; intro gb518 hg w15 hbox hb; have BK518 := Aside0.mk (hbox); have GW518 := gw_ HB hg; have GE518 := gw_ HB hg; replace HB := bs_ HB hb; clear hb hbox hg; obtain ⟨hcz16_0, hcz16_1, hcz16_2, hcz16_3, hfz16_0, hfz16_1, hfz16_2, hfz16_3⟩ := c4_ BK518))
      have n0_ : Aside0 (((((w15.setCell ⟨gb518, 0, none⟩ (.bool t513)).setCell ⟨gb518, 1, none⟩ (.int .u64 t514)).setCell ⟨gb518, 2, none⟩ (.int .u64 t515)).setCell ⟨gb518, 3, none⟩ (.int .i64 t516)).heap[gb518]? = some (.cells #[.bool t513, .int .u64 t514, .int .u64 t515, .int .i64 t516] 38 (0, 0))) := ⟨by refine pw_ ?_; refine blk_put (cs := #[.bool t513, .int .u64 t514, .int .u64 t515, .int .i64 0]) ?_ 3 _ rfl; refine pw_ ?_; refine blk_put (cs := #[.bool t513, .int .u64 t514, .int .u64 0, .int .i64 0]) ?_ 2 _ rfl; refine pw_ ?_; refine blk_put (cs := #[.bool t513, .int .u64 0, .int .u64 0, .int .i64 0]) ?_ 1 _ rfl; refine pw_ ?_; refine blk_put (cs := #[.bool false, .int .u64 0, .int .u64 0, .int .i64 0]) ?_ 0 _ rfl; refine pw_ ?_; exact BK518.out⟩
      have n1_ : Aside0 (Below w.heap.size w ((((w15.setCell ⟨gb518, 0, none⟩ (.bool t513)).setCell ⟨gb518, 1, none⟩ (.int .u64 t514)).setCell ⟨gb518, 2, none⟩ (.int .u64 t515)).setCell ⟨gb518, 3, none⟩ (.int .i64 t516))) := ⟨pb_ HB⟩
      (try clear BK518)
      (try clear HB)
      generalize ((((w15.setCell ⟨gb518, 0, none⟩ (.bool t513)).setCell ⟨gb518, 1, none⟩ (.int .u64 t514)).setCell ⟨gb518, 2, none⟩ (.int .u64 t515)).setCell ⟨gb518, 3, none⟩ (.int .i64 t516)) = w17 at n0_ n1_ ⊢
      have BK518 := n0_
      have HB := n1_
      clear n0_ n1_
      replace BK518 := Aside0.mk (blk_drew BK518.out)
      replace HB := Aside0.mk (below_drew1 HB.out)
      refine start_ (n := 9) (S := fun w' => w'.cell? ⟨gb518, 0, none⟩ = some (.bool t513) ∧ w'.cell? ⟨gb518, 1, none⟩ = some (.int .u64 t514) ∧ w'.cell? ⟨gb518, 2, none⟩ = some (.int .u64 t515) ∧ w'.cell? ⟨gb518, 3, none⟩ = some (.int .i64 t516)) (ds := []) (bm_ 9 0) (by kernel_rfl) rfl rfl ⟨kc_ BK518 0, kc_ BK518 1, kc_ BK518 2, kc_ BK518 3⟩ (fun hHeld => ?_); refine with_tabW platbooklaw04_awake.tab2 platbooklaw04_awake.bits2 (fun HT_ HW_ => ?_)
      generalize w17.drew = w18 at BK518 HB hHeld ⊢
      refine ta_ 0 (some 12) (bm_ 9 1) rfl HT_ HW_ ⟨by rfl, by rintro w' ⟨s0, s1, s2, s3⟩; go_simp; with_reducible rfl⟩ hHeld ?_
      refine join_ (σ := Nat) 2 (bm_ 9 127) (fun s_ => [(13, .agg #[.int .u64 t519, .int .u64 t520]), (14, .tuple #[.agg #[.bool t521, .int .u64 t522, .int .u64 t523, .int .i64 t524], .int .i64 t525]), (3, .pointer (some ⟨s_, 0, none⟩)), (11, .tuple #[.agg #[.bool t521, .int .u64 t522, .int .u64 t523, .int .i64 t524], .int .i64 t525]), (15, .agg #[.bool t521, .int .u64 t522, .int .u64 t523, .int .i64 t524]), (16, .int .i64 t525)]) (fun s_ w' => (w'.cell? ⟨gb518, 0, none⟩ = some (.bool t513) ∧ w'.cell? ⟨gb518, 1, none⟩ = some (.int .u64 t514) ∧ w'.cell? ⟨gb518, 2, none⟩ = some (.int .u64 t515) ∧ w'.cell? ⟨gb518, 3, none⟩ = some (.int .i64 t516)) ∧ (w'.heap[gb518]? = some (.cells #[.bool t513, .int .u64 t514, .int .u64 t515, .int .i64 t516] 38 (0, 0))) ∧ (w'.heap[s_]? = some (.cells #[.bool false, .int .u64 0, .int .u64 0, .int .i64 0] 38 (0, 0))) ∧ (w.heap.size ≤ s_) ∧ (w.heap.size ≤ s_) ∧ (gb518 ≠ s_) ∧ (s_ ≠ gb518) ∧ (Below w.heap.size w w')) ?_ ?_
      rotate_left
      ·
       intro hCont
       refine two_ (i := 1) (j := 6) (Ni := some 13) (Nj := some 3) (bm_ 9 3) (bm_ 9 65) rfl rfl rfl rfl (two_of HT_.out (by kernel_rfl)) (by decide) (by decide) (fun K hK => ?_) (fun K hK => ?_)
       ·
        skip
        refine gr_ Tryz.func59 #[.int .u64 257] ?_
        with_reducible refine (num_Of.calls 257 t519 t520 _ A2.out).mono ?_
        rintro e w19 ⟨rfl, hb⟩
        refine ⟨_, rfl, ?_⟩
        replace BK518 := bb_ BK518 hb
        replace HB := bs_ HB hb
        (try clear hb)
        (try clear hb2)
        (try clear hk)
        (try clear hi)
        refine hK.out _ _ ⟨kc_ BK518 0, kc_ BK518 1, kc_ BK518 2, kc_ BK518 3⟩ (fun hHeld => ?_)
        clear hK K
        refine norm_ (a' := ?_) ?_ ?_
        rotate_left
        ·
         show Act.put _ (some 13) _ = _
         simp only [Act.put, List.setIfInBounds_toArray, List.set_cons_zero, List.set_cons_succ, i64_w, i32_w]
         rfl
        refine two_ (i := 2) (j := 6) (Ni := some 14) (Nj := some 3) (bm_ 9 7) (bm_ 9 67) rfl rfl rfl rfl (two_of HT_.out (by kernel_rfl)) (by decide) (by decide) (fun K hK => ?_) (fun K hK => ?_)
        ·
         skip
         refine gr_ Tryz.func49 #[.agg #[.bool t513, .int .u64 t514, .int .u64 t515, .int .i64 t516], .int .i64 24, .agg #[.int .u64 t519, .int .u64 t520]] ?_
         with_reducible refine (carve_Block.calls t513 t514 t515 t516 24 t519 t520 t521 t522 t523 t524 t525 _ A3.out).mono ?_
         rintro e w20 ⟨rfl, hb⟩
         refine ⟨_, rfl, ?_⟩
         replace BK518 := bb_ BK518 hb
         replace HB := bs_ HB hb
         (try clear hb)
         (try clear hb2)
         (try clear hk)
         (try clear hi)
         refine hK.out _ _ ⟨kc_ BK518 0, kc_ BK518 1, kc_ BK518 2, kc_ BK518 3⟩ (fun hHeld => ?_)
         clear hK K
         refine norm_ (a' := ?_) ?_ ?_
         rotate_left
         ·
          show Act.put _ (some 14) _ = _
          simp only [Act.put, List.setIfInBounds_toArray, List.set_cons_zero, List.set_cons_succ, i64_w, i32_w]
          rfl
         refine pu_ 3 (some 11) (bm_ 9 15) rfl HT_ ⟨by rfl, by intro w'; go_simp; with_reducible rfl⟩ ?_
         refine pu_ 4 (some 15) (bm_ 9 31) rfl HT_ ⟨by rfl, by intro w'; go_simp; with_reducible rfl⟩ ?_
         refine pu_ 5 (some 16) (bm_ 9 63) rfl HT_ ⟨by rfl, by intro w'; go_simp; with_reducible rfl⟩ ?_
         refine one_ (i := 6) (N := some 3) (bm_ 9 127) rfl rfl (one_of HT_.out (by kernel_rfl)) (by decide) (fun K hK => ?_)
         refine box_step ?hg (N := 3) ?hd (cs := #[.bool false, .int .u64 0, .int .u64 0, .int .i64 0]) (t := 38) ?hr ?_; (case hd => rfl); (case hg => rfl); (case hr => first | (go_simp; done) | (go_simp; rfl))
         intro gb526 hg w21 hbox hb
         have BK526 := Aside0.mk (hbox)
         have GW526 := gw_ HB hg
         have GE526 := gw_ HB hg
         have NB518_526 := nl_ BK518 hg
         have NB526_518 := ng_ BK518 hg
         replace BK518 := bb_ BK518 hb
         replace HB := bs_ HB hb
         clear hb hbox hg
         refine hK.out _ _ ⟨kc_ BK518 0, kc_ BK518 1, kc_ BK518 2, kc_ BK518 3⟩ (fun hHeld => ?_)
         clear hK K
         refine norm_ (a' := ?_) ?_ ?_
         rotate_left
         ·
          show Act.put _ (some 3) _ = _
          simp only [Act.put, List.setIfInBounds_toArray, List.set_cons_zero, List.set_cons_succ, i64_w, i32_w]
          rfl
         exact norm_ (by simp only [putAll, Act.put, List.setIfInBounds_toArray, List.set_cons_zero, List.set_cons_succ]) (hCont (gb526) _ ⟨hHeld, (pk_ BK518), (pk_ BK526), GW526.out, GE526.out, NB518_526.out, NB526_518.out, (pb_ HB)⟩)
        ·
         skip
         refine box_step ?hg (N := 3) ?hd (cs := #[.bool false, .int .u64 0, .int .u64 0, .int .i64 0]) (t := 38) ?hr ?_; (case hd => rfl); (case hg => rfl); (case hr => first | (go_simp; done) | (go_simp; rfl))
         intro gb526 hg w20 hbox hb
         have BK526 := Aside0.mk (hbox)
         have GW526 := gw_ HB hg
         have GE526 := gw_ HB hg
         have NB518_526 := nl_ BK518 hg
         have NB526_518 := ng_ BK518 hg
         replace BK518 := bb_ BK518 hb
         replace HB := bs_ HB hb
         clear hb hbox hg
         refine hK.out _ _ ⟨kc_ BK518 0, kc_ BK518 1, kc_ BK518 2, kc_ BK518 3⟩ (fun hHeld => ?_)
         clear hK K
         refine norm_ (a' := ?_) ?_ ?_
         rotate_left
         ·
          show Act.put _ (some 3) _ = _
          simp only [Act.put, List.setIfInBounds_toArray, List.set_cons_zero, List.set_cons_succ, i64_w, i32_w]
          rfl
         refine one_ (i := 2) (N := some 14) (bm_ 9 71) rfl rfl (one_of HT_.out (by kernel_rfl)) (by decide) (fun K hK => ?_)
         refine gr_ Tryz.func49 #[.agg #[.bool t513, .int .u64 t514, .int .u64 t515, .int .i64 t516], .int .i64 24, .agg #[.int .u64 t519, .int .u64 t520]] ?_
         with_reducible refine (carve_Block.calls t513 t514 t515 t516 24 t519 t520 t521 t522 t523 t524 t525 _ A3.out).mono ?_
         rintro e w21 ⟨rfl, hb⟩
         refine ⟨_, rfl, ?_⟩
         replace BK518 := bb_ BK518 hb
         replace BK526 := bb_ BK526 hb
         replace HB := bs_ HB hb
         (try clear hb)
         (try clear hb2)
         (try clear hk)
         (try clear hi)
         refine hK.out _ _ ⟨kc_ BK518 0, kc_ BK518 1, kc_ BK518 2, kc_ BK518 3⟩ (fun hHeld => ?_)
         clear hK K
         refine norm_ (a' := ?_) ?_ ?_
         rotate_left
         ·
          show Act.put _ (some 14) _ = _
          simp only [Act.put, List.setIfInBounds_toArray, List.set_cons_zero, List.set_cons_succ, i64_w, i32_w]
          rfl
         refine pu_ 3 (some 11) (bm_ 9 79) rfl HT_ ⟨by rfl, by intro w'; go_simp; with_reducible rfl⟩ ?_
         refine pu_ 4 (some 15) (bm_ 9 95) rfl HT_ ⟨by rfl, by intro w'; go_simp; with_reducible rfl⟩ ?_
         refine pu_ 5 (some 16) (bm_ 9 127) rfl HT_ ⟨by rfl, by intro w'; go_simp; with_reducible rfl⟩ ?_
         exact norm_ (by simp only [putAll, Act.put, List.setIfInBounds_toArray, List.set_cons_zero, List.set_cons_succ]) (hCont (gb526) _ ⟨hHeld, (pk_ BK518), (pk_ BK526), GW526.out, GE526.out, NB518_526.out, NB526_518.out, (pb_ HB)⟩)
       ·
        skip
        refine box_step ?hg (N := 3) ?hd (cs := #[.bool false, .int .u64 0, .int .u64 0, .int .i64 0]) (t := 38) ?hr ?_; (case hd => rfl); (case hg => rfl); (case hr => first | (go_simp; done) | (go_simp; rfl))
        intro gb526 hg w19 hbox hb
        have BK526 := Aside0.mk (hbox)
        have GW526 := gw_ HB hg
        have GE526 := gw_ HB hg
        have NB518_526 := nl_ BK518 hg
        have NB526_518 := ng_ BK518 hg
        replace BK518 := bb_ BK518 hb
        replace HB := bs_ HB hb
        clear hb hbox hg
        refine hK.out _ _ ⟨kc_ BK518 0, kc_ BK518 1, kc_ BK518 2, kc_ BK518 3⟩ (fun hHeld => ?_)
        clear hK K
        refine norm_ (a' := ?_) ?_ ?_
        rotate_left
        ·
         show Act.put _ (some 3) _ = _
         simp only [Act.put, List.setIfInBounds_toArray, List.set_cons_zero, List.set_cons_succ, i64_w, i32_w]
         rfl
        refine one_ (i := 1) (N := some 13) (bm_ 9 67) rfl rfl (one_of HT_.out (by kernel_rfl)) (by decide) (fun K hK => ?_)
        refine gr_ Tryz.func59 #[.int .u64 257] ?_
        with_reducible refine (num_Of.calls 257 t519 t520 _ A2.out).mono ?_
        rintro e w20 ⟨rfl, hb⟩
        refine ⟨_, rfl, ?_⟩
        replace BK518 := bb_ BK518 hb
        replace BK526 := bb_ BK526 hb
        replace HB := bs_ HB hb
        (try clear hb)
        (try clear hb2)
        (try clear hk)
        (try clear hi)
        refine hK.out _ _ ⟨kc_ BK518 0, kc_ BK518 1, kc_ BK518 2, kc_ BK518 3⟩ (fun hHeld => ?_)
        clear hK K
        refine norm_ (a' := ?_) ?_ ?_
        rotate_left
        ·
         show Act.put _ (some 13) _ = _
         simp only [Act.put, List.setIfInBounds_toArray, List.set_cons_zero, List.set_cons_succ, i64_w, i32_w]
         rfl
        refine one_ (i := 2) (N := some 14) (bm_ 9 71) rfl rfl (one_of HT_.out (by kernel_rfl)) (by decide) (fun K hK => ?_)
        refine gr_ Tryz.func49 #[.agg #[.bool t513, .int .u64 t514, .int .u64 t515, .int .i64 t516], .int .i64 24, .agg #[.int .u64 t519, .int .u64 t520]] ?_
        with_reducible refine (carve_Block.calls t513 t514 t515 t516 24 t519 t520 t521 t522 t523 t524 t525 _ A3.out).mono ?_
        rintro e w21 ⟨rfl, hb⟩
        refine ⟨_, rfl, ?_⟩
        replace BK518 := bb_ BK518 hb
        replace BK526 := bb_ BK526 hb
        replace HB := bs_ HB hb
        (try clear hb)
        (try clear hb2)
        (try clear hk)
        (try clear hi)
        refine hK.out _ _ ⟨kc_ BK518 0, kc_ BK518 1, kc_ BK518 2, kc_ BK518 3⟩ (fun hHeld => ?_)
        clear hK K
        refine norm_ (a' := ?_) ?_ ?_
        rotate_left
        ·
         show Act.put _ (some 14) _ = _
         simp only [Act.put, List.setIfInBounds_toArray, List.set_cons_zero, List.set_cons_succ, i64_w, i32_w]
         rfl
        refine pu_ 3 (some 11) (bm_ 9 79) rfl HT_ ⟨by rfl, by intro w'; go_simp; with_reducible rfl⟩ ?_
        refine pu_ 4 (some 15) (bm_ 9 95) rfl HT_ ⟨by rfl, by intro w'; go_simp; with_reducible rfl⟩ ?_
        refine pu_ 5 (some 16) (bm_ 9 127) rfl HT_ ⟨by rfl, by intro w'; go_simp; with_reducible rfl⟩ ?_
        exact norm_ (by simp only [putAll, Act.put, List.setIfInBounds_toArray, List.set_cons_zero, List.set_cons_succ]) (hCont (gb526) _ ⟨hHeld, (pk_ BK518), (pk_ BK526), GW526.out, GE526.out, NB518_526.out, NB526_518.out, (pb_ HB)⟩)
      rintro gb526 w22 ⟨hS_, h0_, h1_, h2_, h3_, h4_, h5_, h6_⟩
      have n0_ : Aside0 (w22.heap[gb518]? = some (.cells #[.bool t513, .int .u64 t514, .int .u64 t515, .int .i64 t516] 38 (0, 0))) := ⟨h0_⟩
      have n1_ : Aside0 (w22.heap[gb526]? = some (.cells #[.bool false, .int .u64 0, .int .u64 0, .int .i64 0] 38 (0, 0))) := ⟨h1_⟩
      have n2_ : Aside0 (w.heap.size ≤ gb526) := ⟨h2_⟩
      have n3_ : Aside0 (w.heap.size ≤ gb526) := ⟨h3_⟩
      have n4_ : Aside0 (gb518 ≠ gb526) := ⟨h4_⟩
      have n5_ : Aside0 (gb526 ≠ gb518) := ⟨h5_⟩
      have n6_ : Aside0 (Below w.heap.size w w22) := ⟨h6_⟩
      clear BK518
      clear HB
      clear h0_ h1_ h2_ h3_ h4_ h5_ h6_
      have BK518 := n0_
      have BK526 := n1_
      have GW526 := n2_
      have GE526 := n3_
      have NB518_526 := n4_
      have NB526_518 := n5_
      have HB := n6_
      clear n0_ n1_ n2_ n3_ n4_ n5_ n6_
      have hHeld : w22.cell? ⟨gb518, 0, none⟩ = some (.bool t513) ∧ w22.cell? ⟨gb518, 1, none⟩ = some (.int .u64 t514) ∧ w22.cell? ⟨gb518, 2, none⟩ = some (.int .u64 t515) ∧ w22.cell? ⟨gb518, 3, none⟩ = some (.int .i64 t516) := hS_
      refine norm_ (a' := ?_) ?_ ?_
      rotate_left
      ·
       simp only [putAll, Act.put, List.setIfInBounds_toArray, List.set_cons_zero, List.set_cons_succ]
       rfl
      refine one_ (i := 7) (N := none) (bm_ 9 255) rfl rfl (one_of HT_.out (by kernel_rfl)) (by decide) (fun K hK => ?_)
      have hs23 : w22.cell? ⟨gb526, 0, none⟩ = some (.bool false) := kc_ BK526 0
      have hfs23 := blk_frozen BK526.out 0
      have hns23_0 := NB518_526.out
      have hms23_0 := NB526_518.out
      have hs24 : w22.cell? ⟨gb526, 1, none⟩ = some (.int .u64 0) := kc_ BK526 1
      have hfs24 := blk_frozen BK526.out 1
      have hns24_0 := NB518_526.out
      have hms24_0 := NB526_518.out
      have hs25 : w22.cell? ⟨gb526, 2, none⟩ = some (.int .u64 0) := kc_ BK526 2
      have hfs25 := blk_frozen BK526.out 2
      have hns25_0 := NB518_526.out
      have hms25_0 := NB526_518.out
      have hs26 : w22.cell? ⟨gb526, 3, none⟩ = some (.int .i64 0) := kc_ BK526 3
      have hfs26 := blk_frozen BK526.out 3
      have hns26_0 := NB518_526.out
      have hms26_0 := NB526_518.out
      refine skip_ (w1 := ?_) (by rfl) rfl ?_ ?_
      rotate_left
      ·
       go_simp
       rfl
      refine hK.out _ _ ⟨((cell_far (p := ⟨gb526, _, none⟩) NB518_526.out _).trans (((cell_far (p := ⟨gb526, _, none⟩) NB518_526.out _).trans (((cell_far (p := ⟨gb526, _, none⟩) NB518_526.out _).trans (((cell_far (p := ⟨gb526, _, none⟩) NB518_526.out _).trans (hHeld.1)))))))), ((cell_far (p := ⟨gb526, _, none⟩) NB518_526.out _).trans (((cell_far (p := ⟨gb526, _, none⟩) NB518_526.out _).trans (((cell_far (p := ⟨gb526, _, none⟩) NB518_526.out _).trans (((cell_far (p := ⟨gb526, _, none⟩) NB518_526.out _).trans (hHeld.2.1)))))))), ((cell_far (p := ⟨gb526, _, none⟩) NB518_526.out _).trans (((cell_far (p := ⟨gb526, _, none⟩) NB518_526.out _).trans (((cell_far (p := ⟨gb526, _, none⟩) NB518_526.out _).trans (((cell_far (p := ⟨gb526, _, none⟩) NB518_526.out _).trans (hHeld.2.2.1)))))))), ((cell_far (p := ⟨gb526, _, none⟩) NB518_526.out _).trans (((cell_far (p := ⟨gb526, _, none⟩) NB518_526.out _).trans (((cell_far (p := ⟨gb526, _, none⟩) NB518_526.out _).trans (((cell_far (p := ⟨gb526, _, none⟩) NB518_526.out _).trans (hHeld.2.2.2))))))))⟩ (fun hHeld => ?_)
      clear hK K
      refine pu_ 8 (some 4) (bm_ 9 511) rfl HT_ ⟨by rfl, by intro w'; go_simp; with_reducible rfl⟩ ?_
      refine done_ (done_of HT_.out (by kernel_rfl)) ?_
      try go_wp2_with (first | ((with_reducible refine gate_callee (f := 88) rfl ?_); refine gl_ (some 18) Tryz.func88 #[.int .u32 167772161] ?_; (with_reducible refine (addr_V4.calls 167772161 t527 t528 t529 _ A4.out).mono ?_); rintro e w27 ⟨rfl, hb⟩; refine ⟨_, rfl, ?_⟩; replace BK518 := Aside0.mk (blk_below (g := gb518) (o := .cells #[.bool t513, .int .u64 t514, .int .u64 t515, .int .i64 t516] 38 (0, 0)) (by refine pw_ ?_; refine blk_far ?_ NB518_526.out _; refine pw_ ?_; refine blk_far ?_ NB518_526.out _; refine pw_ ?_; refine blk_far ?_ NB518_526.out _; refine pw_ ?_; refine blk_far ?_ NB518_526.out _; refine pw_ ?_; exact BK518.out) hb); replace BK526 := Aside0.mk (blk_below (g := gb526) (o := .cells #[.bool t521, .int .u64 t522, .int .u64 t523, .int .i64 t524] 38 (0, 0)) (by refine pw_ ?_; refine blk_put (cs := #[.bool t521, .int .u64 t522, .int .u64 t523, .int .i64 0]) ?_ 3 _ rfl; refine pw_ ?_; refine blk_put (cs := #[.bool t521, .int .u64 t522, .int .u64 0, .int .i64 0]) ?_ 2 _ rfl; refine pw_ ?_; refine blk_put (cs := #[.bool t521, .int .u64 0, .int .u64 0, .int .i64 0]) ?_ 1 _ rfl; refine pw_ ?_; refine blk_put (cs := #[.bool false, .int .u64 0, .int .u64 0, .int .i64 0]) ?_ 0 _ rfl; refine pw_ ?_; exact BK526.out) hb); replace HB := bs_ HB hb; (try clear hb); (try clear hb2); (try clear hk); (try clear hi)) | ((with_reducible refine gate_callee (f := 88) rfl ?_); refine gl_ (some 19) Tryz.func88 #[.int .u32 167772164] ?_; (with_reducible refine (addr_V4.calls 167772164 t530 t531 t532 _ A5.out).mono ?_); rintro e w28 ⟨rfl, hb⟩; refine ⟨_, rfl, ?_⟩; replace BK518 := bb_ BK518 hb; replace BK526 := bb_ BK526 hb; replace HB := bs_ HB hb; (try clear hb); (try clear hb2); (try clear hk); (try clear hi)) | ((with_reducible refine gate_callee (f := 58) rfl ?_); refine gl_ (some 20) Tryz.func58 #[.agg #[.bool t527, .int .u64 t528, .int .u64 t529], .agg #[.bool t530, .int .u64 t531, .int .u64 t532]] ?_; (with_reducible refine (carve_Spread.calls k t527 t528 t529 t530 t531 t532 t533 t536 _ A6.out).mono ?_); rintro e w29 ⟨v534, rfl, ho0, hb⟩; refine ⟨_, rfl, ?_⟩; have HO535 := Aside0.mk (Kd.R_lower (Kd.R_newB (Kd.R_newB ho0 (g := gb518) (o := .cells #[.bool t513, .int .u64 t514, .int .u64 t515, .int .i64 t516] 38 (0, 0)) (pk_ BK518)) (g := gb526) (o := .cells #[.bool t521, .int .u64 t522, .int .u64 t523, .int .i64 t524] 38 (0, 0)) (pk_ BK526)) (below_size (pb_ HB))); replace BK518 := bb_ BK518 hb; replace BK526 := bb_ BK526 hb; replace HB := bs_ HB hb; (try clear hb); (try clear hb2); (try clear hk); (try clear hi); (try clear ho0); have hnb30 := NB526_518.out; have hnc30 := NB518_526.out; obtain ⟨hcz31_0, hcz31_1, hcz31_2, hcz31_3, hfz31_0, hfz31_1, hfz31_2, hfz31_3⟩ := c4_ BK526) | (go_at_call 27; (with_reducible refine (prefix_Print.calls t521 t522 t523 t524 t537 _ ?side1 A8.out).mono ?_); (case side1 => exact glob_keep HGLB.out (pb_ HB)); rintro e w32 ⟨rfl, hb⟩; replace HO535 := Aside0.mk (Kd.R_below (by (with_reducible repeat (first | apply Kd.R_alloc | apply Kd.R_drewN | apply Kd.R_drew)); exact HO535.out) hb); replace BK518 := bb_ BK518 hb; replace BK526 := bb_ BK526 hb; replace HB := bs_ HB hb; (try clear hb); (try clear hb2); (try clear hk); (try clear hi); obtain ⟨Ao33, co33, eo33⟩ := Kd.R_slice HO535.out; subst eo33; have p538 : 0 ≤ (1 : Int) := (by omega); have q538 : 1 < (t533.length : Int) := of_decide_eq_true (by first | (with_reducible assumption) | assumption); obtain ⟨ad538, e538, hx538_0, hx538_1, hx538_2, hx538_3⟩ := at_T38 (Kd.R_reads' HO535.out).2.2 1 p538 q538; cases e538; (try simp only [show (1 : Int).toNat = 1 from rfl, Nat.reduceMul, Nat.reduceEqDiff, Go.Addr.add, ↓reduceIte] at hx538_0); (try simp only [show (1 : Int).toNat = 1 from rfl, Nat.reduceMul, Nat.reduceEqDiff, Go.Addr.add, ↓reduceIte] at hx538_1); (try simp only [show (1 : Int).toNat = 1 from rfl, Nat.reduceMul, Nat.reduceEqDiff, Go.Addr.add, ↓reduceIte] at hx538_2); (try simp only [show (1 : Int).toNat = 1 from rfl, Nat.reduceMul, Nat.reduceEqDiff, Go.Addr.add, ↓reduceIte] at hx538_3); have qi538 : (1 < t533.length) = True := eq_true (by omega); (try rw [show ((1 : Int)).toNat = 1 from rfl] at hx538_0); (try rw [show 1 * 4 = 4 from rfl] at hx538_0); (try rw [show ((1 : Int)).toNat = 1 from rfl] at hx538_1); (try rw [show 1 * 4 = 4 from rfl] at hx538_1); (try rw [show ((1 : Int)).toNat = 1 from rfl] at hx538_2); (try rw [show 1 * 4 = 4 from rfl] at hx538_2); (try rw [show ((1 : Int)).toNat = 1 from rfl] at hx538_3); (try rw [show 1 * 4 = 4 from rfl] at hx538_3); replace p538 := eq_true p538; replace q538 := eq_true q538) | (go_at_call 27; (with_reducible refine (prefix_Print.calls ((rd_T38 t533 1).f0.f0) ((rd_T38 t533 1).f0.f1.f0) ((rd_T38 t533 1).f0.f1.f1) ((rd_T38 t533 1).f1) t539 _ ?side1 A13.out).mono ?_); (case side1 => exact glob_keep HGLB.out (pb_ HB)); rintro e w34 ⟨rfl, hb⟩; replace HO535 := Aside0.mk (Kd.R_below (by (with_reducible repeat (first | apply Kd.R_alloc | apply Kd.R_drewN | apply Kd.R_drew)); exact HO535.out) hb); replace BK518 := bb_ BK518 hb; replace BK526 := bb_ BK526 hb; replace HB := bs_ HB hb; (try clear hb); (try clear hb2); (try clear hk); (try clear hi)))
      go_ret
      exact ⟨by first | rfl | (simp [errW_none, errW_some] <;> rfl) | (simp [*, errW_none, errW_some] <;> rfl), pb_ HB⟩
     ·
      rw [if_neg c12] at H
      exact absurd H (by simp)
    ·
     rw [if_neg c11] at H
     have c11b0 : ((t533.length : Int) == 3) = false := beq_eq_false_iff_ne.mpr c11
     have c11b1 : ((t533.length : Int) != 3) = true := bne_iff_ne.mpr c11
     obtain rfl := Option.some.inj H
     exact absurd HRT.out (by decide)
   ·
    rw [if_neg c10] at H
    have c10b0 : (t536 == 0) = false := beq_eq_false_iff_ne.mpr c10
    have c10b1 : (t536 != 0) = true := bne_iff_ne.mpr c10
    obtain rfl := Option.some.inj H
    exact absurd HRT.out (by decide)
  ·
   rw [if_neg c9] at H
   have c9b0 : (t537.toList == ([49, 48, 46, 49, 46, 49, 46, 48, 47, 50, 52] : List UInt8)) = false := beq_eq_false_iff_ne.mpr c9
   have c9b1 : (t537.toList != ([49, 48, 46, 49, 46, 49, 46, 48, 47, 50, 52] : List UInt8)) = true := bne_iff_ne.mpr c9
   obtain rfl := Option.some.inj H
   exact absurd HRT.out (by decide)
 ·
  rw [if_neg c7] at H
  have c7b0 : (t525 == 0) = false := beq_eq_false_iff_ne.mpr c7
  have c7b1 : (t525 != 0) = true := bne_iff_ne.mpr c7
  obtain rfl := Option.some.inj H
  exact absurd HRT.out (by decide)

def platbookref04_Cuts.f (k : Nat) (a0_0 : Bool) (a0_1 : Int) (a0_2 : Int) (a0_3 : Int) (a1 : Int) : Option (Bool) := (platbookref03_Right.f k a0_0 a0_1 a0_2 a0_3).bind fun t553 => (if t553 = true then (if a1 ≥ a0_3 then ((platbookref02_Width.f a0_0 a0_1 a0_2).bind fun t554 => (some (decide (a1 ≤ t554)))) else (some false)) else (some false))
set_option maxHeartbeats 8000000 in
set_option maxRecDepth 100000 in
theorem platbookref04_Cuts.calls (k : Nat) (a0_0 : Bool) (a0_1 : Int) (a0_2 : Int) (a0_3 : Int) (a1 : Int) (r : Bool) (w : World) (h : platbookref04_Cuts.f k a0_0 a0_1 a0_2 a0_3 a1 = some r) :
  Calls Tryz.prog 55 #[.agg #[.bool a0_0, .int .u64 a0_1, .int .u64 a0_2, .int .i64 a0_3], .int .i64 a1] w fun e w' => e = .returned (.bool r) ∧ Below w.heap.size w w' := by
 have hu38 := Tryz.underlying38
 have hu26 := Tryz.underlying26
 have HB := Aside0.mk (Below.refl w.heap.size w)
 have H : ((platbookref03_Right.f k a0_0 a0_1 a0_2 a0_3).bind fun t553 => (if t553 = true then (if a1 ≥ a0_3 then ((platbookref02_Width.f a0_0 a0_1 a0_2).bind fun t554 => (some (decide (a1 ≤ t554)))) else (some false)) else (some false))) = some r := h
 clear h
 replace H := Option.bind_eq_some_iff.mp H
 obtain ⟨t553, A30, H⟩ := H
 replace H : (if t553 = true then (if a1 ≥ a0_3 then ((platbookref02_Width.f a0_0 a0_1 a0_2).bind fun t554 => (some (decide (a1 ≤ t554)))) else (some false)) else (some false)) = some r := H
 have A3 := Aside0.mk A30
 clear A30
 by_cases c4 : t553 = true
 ·
  subst c4
  rw [if_pos rfl] at H
  by_cases c5 : a1 ≥ a0_3
  ·
   rw [if_pos c5] at H
   have c5b0 : decide (a0_3 ≤ a1) = true := decide_eq_true c5
   clear c5
   replace H := Option.bind_eq_some_iff.mp H
   obtain ⟨t554, A60, H⟩ := H
   replace H : (some (decide (a1 ≤ t554))) = some r := H
   have A6 := Aside0.mk A60
   clear A60
   obtain rfl := Option.some.inj H
   go_enter Tryz.func55, Tryz.ntmps55
   go_wp2_with (first | ((with_reducible refine gate_dst (N := 2) rfl ?_); refine bx_ 2 #[.bool a0_0, .int .u64 a0_1, .int .u64 a0_2, .int .i64 a0_3] 38 ?_; intro gb552 hg w7 hbox hb; have BK552 := Aside0.mk (hbox); have GW552 := gw_ HB hg; have GE552 := gw_ HB hg; replace HB := bs_ HB hb; clear hb hbox hg; obtain ⟨hcz8_0, hcz8_1, hcz8_2, hcz8_3, hfz8_0, hfz8_1, hfz8_2, hfz8_3⟩ := c4_ BK552) | ((with_reducible refine gate_callee (f := 29) rfl ?_); refine gl_ (some 6) Tryz.func29 #[.agg #[.bool a0_0, .int .u64 a0_1, .int .u64 a0_2, .int .i64 a0_3]] ?_; (with_reducible refine (platbookref03_Right.calls k a0_0 a0_1 a0_2 a0_3 true _ A3.out).mono ?_); rintro e w9 ⟨rfl, hb⟩; refine ⟨_, rfl, ?_⟩; replace BK552 := bb_ BK552 hb; replace HB := bs_ HB hb; (try clear hb); (try clear hb2); (try clear hk); (try clear hi); obtain ⟨hcz10_0, hcz10_1, hcz10_2, hcz10_3, hfz10_0, hfz10_1, hfz10_2, hfz10_3⟩ := c4_ BK552) | (go_at_call 23; (with_reducible refine (platbookref02_Width.calls a0_0 a0_1 a0_2 t554 _ A6.out).mono ?_); rintro e w11 ⟨rfl, hb⟩; replace BK552 := bb_ BK552 hb; replace HB := bs_ HB hb; (try clear hb); (try clear hb2); (try clear hk); (try clear hi)))
   go_ret
   exact ⟨by first | rfl | (simp [errW_none, errW_some] <;> rfl) | (simp [*, errW_none, errW_some] <;> rfl), pb_ HB⟩
  ·
   rw [if_neg c5] at H
   have c5b0 : decide (a0_3 ≤ a1) = false := decide_eq_false c5
   clear c5
   obtain rfl := Option.some.inj H
   go_enter Tryz.func55, Tryz.ntmps55
   go_wp2_with (first | ((with_reducible refine gate_dst (N := 2) rfl ?_); refine bx_ 2 #[.bool a0_0, .int .u64 a0_1, .int .u64 a0_2, .int .i64 a0_3] 38 ?_; intro gb552 hg w12 hbox hb; have BK552 := Aside0.mk (hbox); have GW552 := gw_ HB hg; have GE552 := gw_ HB hg; replace HB := bs_ HB hb; clear hb hbox hg; obtain ⟨hcz13_0, hcz13_1, hcz13_2, hcz13_3, hfz13_0, hfz13_1, hfz13_2, hfz13_3⟩ := c4_ BK552) | ((with_reducible refine gate_callee (f := 29) rfl ?_); refine gl_ (some 6) Tryz.func29 #[.agg #[.bool a0_0, .int .u64 a0_1, .int .u64 a0_2, .int .i64 a0_3]] ?_; (with_reducible refine (platbookref03_Right.calls k a0_0 a0_1 a0_2 a0_3 true _ A3.out).mono ?_); rintro e w14 ⟨rfl, hb⟩; refine ⟨_, rfl, ?_⟩; replace BK552 := bb_ BK552 hb; replace HB := bs_ HB hb; (try clear hb); (try clear hb2); (try clear hk); (try clear hi); obtain ⟨hcz15_0, hcz15_1, hcz15_2, hcz15_3, hfz15_0, hfz15_1, hfz15_2, hfz15_3⟩ := c4_ BK552))
   go_ret
   exact ⟨by first | rfl | (simp [errW_none, errW_some] <;> rfl) | (simp [*, errW_none, errW_some] <;> rfl), pb_ HB⟩
 ·
  replace c4 := Bool.eq_false_iff.mpr c4
  subst c4
  have H1 : (some false) = some r := by rw [if_neg (show ¬ (false = true) by decide)] at H; exact H
  clear H
  have H := H1
  clear H1
  obtain rfl := Option.some.inj H
  go_enter Tryz.func55, Tryz.ntmps55
  go_wp2_with (first | ((with_reducible refine gate_dst (N := 2) rfl ?_); refine bx_ 2 #[.bool a0_0, .int .u64 a0_1, .int .u64 a0_2, .int .i64 a0_3] 38 ?_; intro gb552 hg w16 hbox hb; have BK552 := Aside0.mk (hbox); have GW552 := gw_ HB hg; have GE552 := gw_ HB hg; replace HB := bs_ HB hb; clear hb hbox hg; obtain ⟨hcz17_0, hcz17_1, hcz17_2, hcz17_3, hfz17_0, hfz17_1, hfz17_2, hfz17_3⟩ := c4_ BK552) | ((with_reducible refine gate_callee (f := 29) rfl ?_); refine gl_ (some 6) Tryz.func29 #[.agg #[.bool a0_0, .int .u64 a0_1, .int .u64 a0_2, .int .i64 a0_3]] ?_; (with_reducible refine (platbookref03_Right.calls k a0_0 a0_1 a0_2 a0_3 false _ A3.out).mono ?_); rintro e w18 ⟨rfl, hb⟩; refine ⟨_, rfl, ?_⟩; replace BK552 := bb_ BK552 hb; replace HB := bs_ HB hb; (try clear hb); (try clear hb2); (try clear hk); (try clear hi)))
  go_ret
  exact ⟨by first | rfl | (simp [errW_none, errW_some] <;> rfl) | (simp [*, errW_none, errW_some] <;> rfl), pb_ HB⟩

end Go.Proofs.YtgdgklibilddgaaGreatDoor.PPr

namespace Go.Proofs.YtgdgklibilddgaaGreatDoor.PPr
open Go.RowKit Go.Proofs.YtgdgklibilddgaaGreatDoorW.PrintWords Go.Proofs.YtgdgklibilddgaaGreatDoorW.PrintLast Go.Proofs.YtgdgklibilddgaaGreatDoorW.PrintMore
attribute [local go_sem] max2_int min2_int max_two min_two max_three min_three max_four min_four   -- for this text's walks alone

end Go.Proofs.YtgdgklibilddgaaGreatDoor.PPr

namespace Go.Proofs.YtgdgklibilddgaaGreatDoor.PPr
open Go.RowKit Go.Proofs.YtgdgklibilddgaaGreatDoorW.PrintWords Go.Proofs.YtgdgklibilddgaaGreatDoorW.PrintLast Go.Proofs.YtgdgklibilddgaaGreatDoorW.PrintMore
attribute [local go_sem] max2_int min2_int max_two min_two max_three min_three max_four min_four   -- for this text's walks alone

end Go.Proofs.YtgdgklibilddgaaGreatDoor.PPr

namespace Go.Proofs.YtgdgklibilddgaaGreatDoor.PPr
open Go.RowKit Go.Proofs.YtgdgklibilddgaaGreatDoorW.PrintWords Go.Proofs.YtgdgklibilddgaaGreatDoorW.PrintLast Go.Proofs.YtgdgklibilddgaaGreatDoorW.PrintMore
attribute [local go_sem] max2_int min2_int max_two min_two max_three min_three max_four min_four   -- for this text's walks alone

attribute [local go_sem high] eqA24 eqA26 eqA38
def carve_below.f (a0_0 : Bool) (a0_1 : Int) (a0_2 : Int) (a0_3 : Int) (a1_0 : Bool) (a1_1 : Int) (a1_2 : Int) (a2 : Int) : Option (Int × Int) := (addr_Width.f a1_0 a1_1 a1_2).bind fun t654 => ((num_Ones.f (wrap64 (t654 - a0_3))).bind fun bt655 => ((num_And.f a1_1 a1_2 bt655.1 bt655.2).bind fun bt657 => ((num_Shr.f bt657.1 bt657.2 a2).bind fun bt659 => (some (bt659.1, bt659.2)))))
def carve_below.T1 : Bool × List (List Nat × List Nat) := (true, [([], []), ([0], [0]), ([], []), ([2], [2]), ([], []), ([4], [4]), ([3, 5], [3, 5]), ([6, 3], [6]), ([1, 7, 7], [1, 7]), ([], []), ([8, 9, 8], [8, 9]), ([10, 10, 0, 1, 2, 3, 4, 5, 6, 7, 8, 9, 10], [10])])
def carve_below.B1 : List Nat := [0, 1, 0, 4, 0, 16, 60, 124, 255, 0, 1023, 2047]
theorem carve_below.tab1 : rtab .any (opsOf Tryz.f95 1) = carve_below.T1 := by kernel_rfl
theorem carve_below.bits1 : waitsOk carve_below.T1.2 carve_below.B1 = true := by kernel_rfl
set_option maxHeartbeats 8000000 in
set_option maxRecDepth 100000 in
theorem carve_below.calls (a0_0 : Bool) (a0_1 : Int) (a0_2 : Int) (a0_3 : Int) (a1_0 : Bool) (a1_1 : Int) (a1_2 : Int) (a2 : Int) (r1 : Int) (r2 : Int) (w : World) (h : carve_below.f a0_0 a0_1 a0_2 a0_3 a1_0 a1_1 a1_2 a2 = some (r1, r2)) :
  Calls Tryz.prog 95 #[.agg #[.bool a0_0, .int .u64 a0_1, .int .u64 a0_2, .int .i64 a0_3], .agg #[.bool a1_0, .int .u64 a1_1, .int .u64 a1_2], .int .i64 a2] w fun e w' => e = .returned (.agg #[.int .u64 r1, .int .u64 r2]) ∧ Below w.heap.size w w' := by
 have hu38 := Tryz.underlying38
 have hu26 := Tryz.underlying26
 have hu24 := Tryz.underlying24
 have HB := Aside0.mk (Below.refl w.heap.size w)
 have H : ((addr_Width.f a1_0 a1_1 a1_2).bind fun t654 => ((num_Ones.f (wrap64 (t654 - a0_3))).bind fun bt655 => ((num_And.f a1_1 a1_2 bt655.1 bt655.2).bind fun bt657 => ((num_Shr.f bt657.1 bt657.2 a2).bind fun bt659 => (some (bt659.1, bt659.2)))))) = some (r1, r2) := h
 clear h
 replace H := Option.bind_eq_some_iff.mp H
 obtain ⟨t654, A40, H⟩ := H
 replace H : ((num_Ones.f (wrap64 (t654 - a0_3))).bind fun bt655 => ((num_And.f a1_1 a1_2 bt655.1 bt655.2).bind fun bt657 => ((num_Shr.f bt657.1 bt657.2 a2).bind fun bt659 => (some (bt659.1, bt659.2))))) = some (r1, r2) := H
 have A4 := Aside0.mk A40
 clear A40
 replace H := Option.bind_eq_some_iff.mp H
 obtain ⟨⟨t655, t656⟩, A50, H⟩ := H
 replace H : ((num_And.f a1_1 a1_2 t655 t656).bind fun bt657 => ((num_Shr.f bt657.1 bt657.2 a2).bind fun bt659 => (some (bt659.1, bt659.2)))) = some (r1, r2) := H
 have A5 := Aside0.mk A50
 clear A50
 replace H := Option.bind_eq_some_iff.mp H
 obtain ⟨⟨t657, t658⟩, A60, H⟩ := H
 replace H : ((num_Shr.f t657 t658 a2).bind fun bt659 => (some (bt659.1, bt659.2))) = some (r1, r2) := H
 have A6 := Aside0.mk A60
 clear A60
 replace H := Option.bind_eq_some_iff.mp H
 obtain ⟨⟨t659, t660⟩, A70, H⟩ := H
 replace H : (some (t659, t660)) = some (r1, r2) := H
 have A7 := Aside0.mk A70
 clear A70
 simp only [Option.some.injEq, Prod.mk.injEq] at H
 obtain ⟨rfl, rfl⟩ := H
 go_enter Tryz.func95, Tryz.ntmps95
 try go_wp2_with (first | ((with_reducible refine gate_dst (N := 3) rfl ?_); refine bx_ 3 #[.bool a0_0, .int .u64 a0_1, .int .u64 a0_2, .int .i64 a0_3] 38 ?_; intro gb651 hg w8 hbox hb; have BK651 := Aside0.mk (hbox); have GW651 := gw_ HB hg; have GE651 := gw_ HB hg; replace HB := bs_ HB hb; clear hb hbox hg) | ((with_reducible refine gate_dst (N := 4) rfl ?_); refine bx_ 4 #[.bool a1_0, .int .u64 a1_1, .int .u64 a1_2] 26 ?_; intro gb652 hg w9 hbox hb; have BK652 := Aside0.mk (hbox); have GW652 := gw_ HB hg; have GE652 := gw_ HB hg; have NB651_652 := nl_ BK651 hg; have NB652_651 := ng_ BK651 hg; replace BK651 := bb_ BK651 hb; replace HB := bs_ HB hb; clear hb hbox hg) | ((with_reducible refine gate_dst (N := 6) rfl ?_); refine bx_ 6 #[.int .u64 0, .int .u64 0] 24 ?_; intro gb653 hg w10 hbox hb; have BK653 := Aside0.mk (hbox); have GW653 := gw_ HB hg; have GE653 := gw_ HB hg; have NB651_653 := nl_ BK651 hg; have NB653_651 := ng_ BK651 hg; have NB652_653 := nl_ BK652 hg; have NB653_652 := ng_ BK652 hg; replace BK651 := bb_ BK651 hb; replace BK652 := bb_ BK652 hb; replace HB := bs_ HB hb; clear hb hbox hg))
 replace BK651 := Aside0.mk (blk_drew BK651.out)
 replace BK652 := Aside0.mk (blk_drew BK652.out)
 replace BK653 := Aside0.mk (blk_drew BK653.out)
 replace HB := Aside0.mk (below_drew1 HB.out)
 refine start_ (n := 12) (S := fun w' => w'.cell? ⟨gb652, 0, none⟩ = some (.bool a1_0) ∧ w'.cell? ⟨gb652, 1, none⟩ = some (.int .u64 a1_1) ∧ w'.cell? ⟨gb652, 2, none⟩ = some (.int .u64 a1_2) ∧ w'.cell? ⟨gb651, 0, none⟩ = some (.bool a0_0) ∧ w'.cell? ⟨gb651, 1, none⟩ = some (.int .u64 a0_1) ∧ w'.cell? ⟨gb651, 2, none⟩ = some (.int .u64 a0_2) ∧ w'.cell? ⟨gb651, 3, none⟩ = some (.int .i64 a0_3)) (ds := []) (bm_ 12 0) (by kernel_rfl) rfl rfl ⟨kc_ BK652 0, kc_ BK652 1, kc_ BK652 2, kc_ BK651 0, kc_ BK651 1, kc_ BK651 2, kc_ BK651 3⟩ (fun hHeld => ?_); refine with_tabW carve_below.tab1 carve_below.bits1 (fun HT_ HW_ => ?_)
 generalize w10.drew = w11 at BK651 BK652 BK653 HB hHeld ⊢
 refine pu_ 0 (some 7) (bm_ 12 1) rfl HT_ ⟨by rfl, by intro w'; go_simp; with_reducible rfl⟩ ?_
 refine pu_ 4 (some 11) (bm_ 12 17) rfl HT_ ⟨by rfl, by intro w'; go_simp; with_reducible rfl⟩ ?_
 refine pu_ 9 (some 16) (bm_ 12 529) rfl HT_ ⟨by rfl, by intro w'; go_simp; with_reducible rfl⟩ ?_
 refine ta_ 1 (some 8) (bm_ 12 531) rfl HT_ HW_ ⟨by rfl, by rintro w' ⟨s0, s1, s2, s3, s4, s5, s6⟩; go_simp; with_reducible rfl⟩ hHeld ?_
 refine ta_ 2 (some 9) (bm_ 12 535) rfl HT_ HW_ ⟨by rfl, by rintro w' ⟨s0, s1, s2, s3, s4, s5, s6⟩; go_simp; with_reducible rfl⟩ hHeld ?_
 refine ta_ 5 (some 12) (bm_ 12 567) rfl HT_ HW_ ⟨by rfl, by rintro w' ⟨s0, s1, s2, s3, s4, s5, s6⟩; go_simp; with_reducible rfl⟩ hHeld ?_
 refine one_ (i := 3) (N := some 10) (bm_ 12 575) rfl rfl (one_of HT_.out (by kernel_rfl)) (by decide) (fun K hK => ?_)
 refine gr_ Tryz.func22 #[.agg #[.bool a1_0, .int .u64 a1_1, .int .u64 a1_2]] ?_
 with_reducible refine (addr_Width.calls a1_0 a1_1 a1_2 t654 _ A4.out).mono ?_
 rintro e w12 ⟨rfl, hb⟩
 refine ⟨_, rfl, ?_⟩
 replace BK651 := bb_ BK651 hb
 replace BK652 := bb_ BK652 hb
 replace BK653 := bb_ BK653 hb
 replace HB := bs_ HB hb
 (try clear hb)
 (try clear hb2)
 (try clear hk)
 (try clear hi)
 refine hK.out _ _ ⟨kc_ BK652 0, kc_ BK652 1, kc_ BK652 2, kc_ BK651 0, kc_ BK651 1, kc_ BK651 2, kc_ BK651 3⟩ (fun hHeld => ?_)
 clear hK K
 refine norm_ (a' := ?_) ?_ ?_
 rotate_left
 ·
  show Act.put _ (some 10) _ = _
  simp only [Act.put, List.setIfInBounds_toArray, List.set_cons_zero, List.set_cons_succ, i64_w, i32_w]
  rfl
 refine pu_ 6 (some 13) (bm_ 12 639) rfl HT_ ⟨by rfl, by intro w'; go_simp; with_reducible rfl⟩ ?_
 refine one_ (i := 7) (N := some 14) (bm_ 12 767) rfl rfl (one_of HT_.out (by kernel_rfl)) (by decide) (fun K hK => ?_)
 refine gr_ Tryz.func119 #[.int .i64 (wrap64 (t654 - a0_3))] ?_
 with_reducible refine (num_Ones.calls (wrap64 (t654 - a0_3)) t655 t656 _ A5.out).mono ?_
 rintro e w13 ⟨rfl, hb⟩
 refine ⟨_, rfl, ?_⟩
 replace BK651 := bb_ BK651 hb
 replace BK652 := bb_ BK652 hb
 replace BK653 := bb_ BK653 hb
 replace HB := bs_ HB hb
 (try clear hb)
 (try clear hb2)
 (try clear hk)
 (try clear hi)
 refine hK.out _ _ ⟨kc_ BK652 0, kc_ BK652 1, kc_ BK652 2, kc_ BK651 0, kc_ BK651 1, kc_ BK651 2, kc_ BK651 3⟩ (fun hHeld => ?_)
 clear hK K
 refine norm_ (a' := ?_) ?_ ?_
 rotate_left
 ·
  show Act.put _ (some 14) _ = _
  simp only [Act.put, List.setIfInBounds_toArray, List.set_cons_zero, List.set_cons_succ, i64_w, i32_w]
  rfl
 refine one_ (i := 8) (N := some 15) (bm_ 12 1023) rfl rfl (one_of HT_.out (by kernel_rfl)) (by decide) (fun K hK => ?_)
 refine gr_ Tryz.func79 #[.agg #[.int .u64 a1_1, .int .u64 a1_2], .agg #[.int .u64 t655, .int .u64 t656]] ?_
 with_reducible refine (num_And.calls a1_1 a1_2 t655 t656 t657 t658 _ A6.out).mono ?_
 rintro e w14 ⟨rfl, hb⟩
 refine ⟨_, rfl, ?_⟩
 replace BK651 := bb_ BK651 hb
 replace BK652 := bb_ BK652 hb
 replace BK653 := bb_ BK653 hb
 replace HB := bs_ HB hb
 (try clear hb)
 (try clear hb2)
 (try clear hk)
 (try clear hi)
 refine hK.out _ _ ⟨kc_ BK652 0, kc_ BK652 1, kc_ BK652 2, kc_ BK651 0, kc_ BK651 1, kc_ BK651 2, kc_ BK651 3⟩ (fun hHeld => ?_)
 clear hK K
 refine norm_ (a' := ?_) ?_ ?_
 rotate_left
 ·
  show Act.put _ (some 15) _ = _
  simp only [Act.put, List.setIfInBounds_toArray, List.set_cons_zero, List.set_cons_succ, i64_w, i32_w]
  rfl
 refine one_ (i := 10) (N := some 17) (bm_ 12 2047) rfl rfl (one_of HT_.out (by kernel_rfl)) (by decide) (fun K hK => ?_)
 refine gr_ Tryz.func56 #[.agg #[.int .u64 t657, .int .u64 t658], .int .i64 a2] ?_
 with_reducible refine (num_Shr.calls t657 t658 a2 t659 t660 _ A7.out).mono ?_
 rintro e w15 ⟨rfl, hb⟩
 refine ⟨_, rfl, ?_⟩
 replace BK651 := bb_ BK651 hb
 replace BK652 := bb_ BK652 hb
 replace BK653 := bb_ BK653 hb
 replace HB := bs_ HB hb
 (try clear hb)
 (try clear hb2)
 (try clear hk)
 (try clear hi)
 refine hK.out _ _ ⟨kc_ BK652 0, kc_ BK652 1, kc_ BK652 2, kc_ BK651 0, kc_ BK651 1, kc_ BK651 2, kc_ BK651 3⟩ (fun hHeld => ?_)
 clear hK K
 refine norm_ (a' := ?_) ?_ ?_
 rotate_left
 ·
  show Act.put _ (some 17) _ = _
  simp only [Act.put, List.setIfInBounds_toArray, List.set_cons_zero, List.set_cons_succ, i64_w, i32_w]
  rfl
 refine one_ (i := 11) (N := none) (bm_ 12 4095) rfl rfl (one_of HT_.out (by kernel_rfl)) (by decide) (fun K hK => ?_)
 have hs16 : w15.cell? ⟨gb653, 0, none⟩ = some (.int .u64 0) := kc_ BK653 0
 have hfs16 := blk_frozen BK653.out 0
 have hns16_0 := NB651_653.out
 have hns16_1 := NB652_653.out
 have hms16_0 := NB653_651.out
 have hms16_1 := NB653_652.out
 have hs17 : w15.cell? ⟨gb653, 1, none⟩ = some (.int .u64 0) := kc_ BK653 1
 have hfs17 := blk_frozen BK653.out 1
 have hns17_0 := NB651_653.out
 have hns17_1 := NB652_653.out
 have hms17_0 := NB653_651.out
 have hms17_1 := NB653_652.out
 refine skip_ (w1 := ?_) (by rfl) rfl ?_ ?_
 rotate_left
 ·
  go_simp
  rfl
 refine hK.out _ _ ⟨((cell_far (p := ⟨gb653, _, none⟩) NB652_653.out _).trans (((cell_far (p := ⟨gb653, _, none⟩) NB652_653.out _).trans (hHeld.1)))), ((cell_far (p := ⟨gb653, _, none⟩) NB652_653.out _).trans (((cell_far (p := ⟨gb653, _, none⟩) NB652_653.out _).trans (hHeld.2.1)))), ((cell_far (p := ⟨gb653, _, none⟩) NB652_653.out _).trans (((cell_far (p := ⟨gb653, _, none⟩) NB652_653.out _).trans (hHeld.2.2.1)))), ((cell_far (p := ⟨gb653, _, none⟩) NB651_653.out _).trans (((cell_far (p := ⟨gb653, _, none⟩) NB651_653.out _).trans (hHeld.2.2.2.1)))), ((cell_far (p := ⟨gb653, _, none⟩) NB651_653.out _).trans (((cell_far (p := ⟨gb653, _, none⟩) NB651_653.out _).trans (hHeld.2.2.2.2.1)))), ((cell_far (p := ⟨gb653, _, none⟩) NB651_653.out _).trans (((cell_far (p := ⟨gb653, _, none⟩) NB651_653.out _).trans (hHeld.2.2.2.2.2.1)))), ((cell_far (p := ⟨gb653, _, none⟩) NB651_653.out _).trans (((cell_far (p := ⟨gb653, _, none⟩) NB651_653.out _).trans (hHeld.2.2.2.2.2.2))))⟩ (fun hHeld => ?_)
 clear hK K
 refine done_ (done_of HT_.out (by kernel_rfl)) ?_
 try go_wp2
 refine bodyPost_ret (results_cell_row rfl _ _ gb653 24 #[.int .u64 t659, .int .u64 t660] (0, 0) _ rfl (by refine pw_ ?_; refine blk_put (cs := #[.int .u64 t659, .int .u64 0]) ?_ 1 _ rfl; refine pw_ ?_; refine blk_put (cs := #[.int .u64 0, .int .u64 0]) ?_ 0 _ rfl; refine pw_ ?_; exact BK653.out) Tryz.underlying24 rfl (by kernel_rfl)) rfl ?_
 exact ⟨by first | rfl | (simp [errW_none, errW_some] <;> rfl) | (simp [*, errW_none, errW_some] <;> rfl), pb_ HB⟩

def carve_Number.f (k : Nat) (a0_0 : Bool) (a0_1 : Int) (a0_2 : Int) (a0_3 : Int) (a1_0 : Bool) (a1_1 : Int) (a1_2 : Int) : Option (Int × Int × Int) := (prefix_Right.f a0_0 a0_1 a0_2 a0_3).bind fun t664 => (if t664 = true then ((prefix_Has.f k a0_0 a0_1 a0_2 a0_3 a1_0 a1_1 a1_2).bind fun t665 => (if t665 = true then ((carve_below.f a0_0 a0_1 a0_2 a0_3 a1_0 a1_1 a1_2 0).bind fun bt666 => (some (bt666.1, bt666.2, 0))) else (some (0, 0, 12)))) else (some (0, 0, 1)))
set_option maxHeartbeats 8000000 in
set_option maxRecDepth 100000 in
theorem carve_Number.calls (k : Nat) (a0_0 : Bool) (a0_1 : Int) (a0_2 : Int) (a0_3 : Int) (a1_0 : Bool) (a1_1 : Int) (a1_2 : Int) (r1 : Int) (r2 : Int) (r3 : Int) (w : World) (h : carve_Number.f k a0_0 a0_1 a0_2 a0_3 a1_0 a1_1 a1_2 = some (r1, r2, r3)) :
  Calls Tryz.prog 54 #[.agg #[.bool a0_0, .int .u64 a0_1, .int .u64 a0_2, .int .i64 a0_3], .agg #[.bool a1_0, .int .u64 a1_1, .int .u64 a1_2]] w fun e w' => e = .returned (.tuple #[.agg #[.int .u64 r1, .int .u64 r2], .int .i64 r3]) ∧ Below w.heap.size w w' := by
 have hu38 := Tryz.underlying38
 have hu26 := Tryz.underlying26
 have hu24 := Tryz.underlying24
 have HB := Aside0.mk (Below.refl w.heap.size w)
 have H : ((prefix_Right.f a0_0 a0_1 a0_2 a0_3).bind fun t664 => (if t664 = true then ((prefix_Has.f k a0_0 a0_1 a0_2 a0_3 a1_0 a1_1 a1_2).bind fun t665 => (if t665 = true then ((carve_below.f a0_0 a0_1 a0_2 a0_3 a1_0 a1_1 a1_2 0).bind fun bt666 => (some (bt666.1, bt666.2, 0))) else (some (0, 0, 12)))) else (some (0, 0, 1)))) = some (r1, r2, r3) := h
 clear h
 replace H := Option.bind_eq_some_iff.mp H
 obtain ⟨t664, A30, H⟩ := H
 replace H : (if t664 = true then ((prefix_Has.f k a0_0 a0_1 a0_2 a0_3 a1_0 a1_1 a1_2).bind fun t665 => (if t665 = true then ((carve_below.f a0_0 a0_1 a0_2 a0_3 a1_0 a1_1 a1_2 0).bind fun bt666 => (some (bt666.1, bt666.2, 0))) else (some (0, 0, 12)))) else (some (0, 0, 1))) = some (r1, r2, r3) := H
 have A3 := Aside0.mk A30
 clear A30
 by_cases c4 : t664 = true
 ·
  subst c4
  rw [if_pos rfl] at H
  replace H := Option.bind_eq_some_iff.mp H
  obtain ⟨t665, A50, H⟩ := H
  replace H : (if t665 = true then ((carve_below.f a0_0 a0_1 a0_2 a0_3 a1_0 a1_1 a1_2 0).bind fun bt666 => (some (bt666.1, bt666.2, 0))) else (some (0, 0, 12))) = some (r1, r2, r3) := H
  have A5 := Aside0.mk A50
  clear A50
  by_cases c6 : t665 = true
  ·
   subst c6
   rw [if_pos rfl] at H
   replace H := Option.bind_eq_some_iff.mp H
   obtain ⟨⟨t666, t667⟩, A70, H⟩ := H
   replace H : (some (t666, t667, 0)) = some (r1, r2, r3) := H
   have A7 := Aside0.mk A70
   clear A70
   simp only [Option.some.injEq, Prod.mk.injEq] at H
   obtain ⟨rfl, rfl, rfl⟩ := H
   go_enter Tryz.func54, Tryz.ntmps54
   go_wp2_with (first | ((with_reducible refine gate_dst (N := 2) rfl ?_); refine bx_ 2 #[.bool a0_0, .int .u64 a0_1, .int .u64 a0_2, .int .i64 a0_3] 38 ?_; intro gb661 hg w8 hbox hb; have BK661 := Aside0.mk (hbox); have GW661 := gw_ HB hg; have GE661 := gw_ HB hg; replace HB := bs_ HB hb; clear hb hbox hg) | ((with_reducible refine gate_dst (N := 3) rfl ?_); refine bx_ 3 #[.bool a1_0, .int .u64 a1_1, .int .u64 a1_2] 26 ?_; intro gb662 hg w9 hbox hb; have BK662 := Aside0.mk (hbox); have GW662 := gw_ HB hg; have GE662 := gw_ HB hg; have NB661_662 := nl_ BK661 hg; have NB662_661 := ng_ BK661 hg; replace BK661 := bb_ BK661 hb; replace HB := bs_ HB hb; clear hb hbox hg) | ((with_reducible refine gate_dst (N := 4) rfl ?_); refine bx_ 4 #[.int .u64 0, .int .u64 0] 24 ?_; intro gb663 hg w10 hbox hb; have BK663 := Aside0.mk (hbox); have GW663 := gw_ HB hg; have GE663 := gw_ HB hg; have NB661_663 := nl_ BK661 hg; have NB663_661 := ng_ BK661 hg; have NB662_663 := nl_ BK662 hg; have NB663_662 := ng_ BK662 hg; replace BK661 := bb_ BK661 hb; replace BK662 := bb_ BK662 hb; replace HB := bs_ HB hb; clear hb hbox hg; have hnb11 := NB661_662.out; have hnc11 := NB662_661.out; have hnb12 := NB661_663.out; have hnc12 := NB663_661.out; obtain ⟨hcz13_0, hcz13_1, hcz13_2, hcz13_3, hfz13_0, hfz13_1, hfz13_2, hfz13_3⟩ := c4_ BK661) | ((with_reducible refine gate_callee (f := 36) rfl ?_); refine gl_ (some 8) Tryz.func36 #[.agg #[.bool a0_0, .int .u64 a0_1, .int .u64 a0_2, .int .i64 a0_3]] ?_; (with_reducible refine (prefix_Right.calls a0_0 a0_1 a0_2 a0_3 true _ A3.out).mono ?_); rintro e w14 ⟨rfl, hb⟩; refine ⟨_, rfl, ?_⟩; replace BK661 := bb_ BK661 hb; replace BK662 := bb_ BK662 hb; replace BK663 := bb_ BK663 hb; replace HB := bs_ HB hb; (try clear hb); (try clear hb2); (try clear hk); (try clear hi); obtain ⟨hcz15_0, hcz15_1, hcz15_2, hcz15_3, hfz15_0, hfz15_1, hfz15_2, hfz15_3⟩ := c4_ BK661; have hnb16 := NB662_663.out; have hnc16 := NB663_662.out; obtain ⟨hcz17_0, hcz17_1, hcz17_2, hfz17_0, hfz17_1, hfz17_2⟩ := c3_ BK662) | ((with_reducible refine gate_callee (f := 40) rfl ?_); refine gl_ (some 14) Tryz.func40 #[.agg #[.bool a0_0, .int .u64 a0_1, .int .u64 a0_2, .int .i64 a0_3], .agg #[.bool a1_0, .int .u64 a1_1, .int .u64 a1_2]] ?_; (with_reducible refine (prefix_Has.calls k a0_0 a0_1 a0_2 a0_3 a1_0 a1_1 a1_2 true _ A5.out).mono ?_); rintro e w18 ⟨rfl, hb⟩; refine ⟨_, rfl, ?_⟩; replace BK661 := bb_ BK661 hb; replace BK662 := bb_ BK662 hb; replace BK663 := bb_ BK663 hb; replace HB := bs_ HB hb; (try clear hb); (try clear hb2); (try clear hk); (try clear hi); obtain ⟨hcz19_0, hcz19_1, hcz19_2, hcz19_3, hfz19_0, hfz19_1, hfz19_2, hfz19_3⟩ := c4_ BK661; obtain ⟨hcz20_0, hcz20_1, hcz20_2, hfz20_0, hfz20_1, hfz20_2⟩ := c3_ BK662) | ((with_reducible refine gate_callee (f := 95) rfl ?_); refine gl_ (some 19) Tryz.func95 #[.agg #[.bool a0_0, .int .u64 a0_1, .int .u64 a0_2, .int .i64 a0_3], .agg #[.bool a1_0, .int .u64 a1_1, .int .u64 a1_2], .int .i64 0] ?_; (with_reducible refine (carve_below.calls a0_0 a0_1 a0_2 a0_3 a1_0 a1_1 a1_2 0 t666 t667 _ A7.out).mono ?_); rintro e w21 ⟨rfl, hb⟩; refine ⟨_, rfl, ?_⟩; replace BK661 := bb_ BK661 hb; replace BK662 := bb_ BK662 hb; replace BK663 := bb_ BK663 hb; replace HB := bs_ HB hb; (try clear hb); (try clear hb2); (try clear hk); (try clear hi); obtain ⟨hcz22_0, hcz22_1, hfz22_0, hfz22_1⟩ := c2_ BK663))
   refine bodyPost_ret (results_ct rfl _ _ gb663 24 #[.int .u64 t666, .int .u64 t667] (0, 0) _ rfl (by refine pw_ ?_; refine blk_put (cs := #[.int .u64 t666, .int .u64 0]) ?_ 1 _ rfl; refine pw_ ?_; refine blk_put (cs := #[.int .u64 0, .int .u64 0]) ?_ 0 _ rfl; refine pw_ ?_; exact BK663.out) Tryz.underlying24 rfl (by kernel_rfl)) rfl ?_
   exact ⟨by first | rfl | (simp [errW_none, errW_some] <;> rfl) | (simp [*, errW_none, errW_some] <;> rfl), pb_ HB⟩
  ·
   replace c6 := Bool.eq_false_iff.mpr c6
   subst c6
   have H1 : (some (0, 0, 12)) = some (r1, r2, r3) := by rw [if_neg (show ¬ (false = true) by decide)] at H; exact H
   clear H
   have H := H1
   clear H1
   simp only [Option.some.injEq, Prod.mk.injEq] at H
   obtain ⟨rfl, rfl, rfl⟩ := H
   go_enter Tryz.func54, Tryz.ntmps54
   go_wp2_with (first | ((with_reducible refine gate_dst (N := 2) rfl ?_); refine bx_ 2 #[.bool a0_0, .int .u64 a0_1, .int .u64 a0_2, .int .i64 a0_3] 38 ?_; intro gb661 hg w23 hbox hb; have BK661 := Aside0.mk (hbox); have GW661 := gw_ HB hg; have GE661 := gw_ HB hg; replace HB := bs_ HB hb; clear hb hbox hg) | ((with_reducible refine gate_dst (N := 3) rfl ?_); refine bx_ 3 #[.bool a1_0, .int .u64 a1_1, .int .u64 a1_2] 26 ?_; intro gb662 hg w24 hbox hb; have BK662 := Aside0.mk (hbox); have GW662 := gw_ HB hg; have GE662 := gw_ HB hg; have NB661_662 := nl_ BK661 hg; have NB662_661 := ng_ BK661 hg; replace BK661 := bb_ BK661 hb; replace HB := bs_ HB hb; clear hb hbox hg) | ((with_reducible refine gate_dst (N := 4) rfl ?_); refine bx_ 4 #[.int .u64 0, .int .u64 0] 24 ?_; intro gb663 hg w25 hbox hb; have BK663 := Aside0.mk (hbox); have GW663 := gw_ HB hg; have GE663 := gw_ HB hg; have NB661_663 := nl_ BK661 hg; have NB663_661 := ng_ BK661 hg; have NB662_663 := nl_ BK662 hg; have NB663_662 := ng_ BK662 hg; replace BK661 := bb_ BK661 hb; replace BK662 := bb_ BK662 hb; replace HB := bs_ HB hb; clear hb hbox hg; have hnb26 := NB661_662.out; have hnc26 := NB662_661.out; have hnb27 := NB661_663.out; have hnc27 := NB663_661.out; obtain ⟨hcz28_0, hcz28_1, hcz28_2, hcz28_3, hfz28_0, hfz28_1, hfz28_2, hfz28_3⟩ := c4_ BK661) | ((with_reducible refine gate_callee (f := 36) rfl ?_); refine gl_ (some 8) Tryz.func36 #[.agg #[.bool a0_0, .int .u64 a0_1, .int .u64 a0_2, .int .i64 a0_3]] ?_; (with_reducible refine (prefix_Right.calls a0_0 a0_1 a0_2 a0_3 true _ A3.out).mono ?_); rintro e w29 ⟨rfl, hb⟩; refine ⟨_, rfl, ?_⟩; replace BK661 := bb_ BK661 hb; replace BK662 := bb_ BK662 hb; replace BK663 := bb_ BK663 hb; replace HB := bs_ HB hb; (try clear hb); (try clear hb2); (try clear hk); (try clear hi); obtain ⟨hcz30_0, hcz30_1, hcz30_2, hcz30_3, hfz30_0, hfz30_1, hfz30_2, hfz30_3⟩ := c4_ BK661; have hnb31 := NB662_663.out; have hnc31 := NB663_662.out; obtain ⟨hcz32_0, hcz32_1, hcz32_2, hfz32_0, hfz32_1, hfz32_2⟩ := c3_ BK662) | ((with_reducible refine gate_callee (f := 40) rfl ?_); refine gl_ (some 14) Tryz.func40 #[.agg #[.bool a0_0, .int .u64 a0_1, .int .u64 a0_2, .int .i64 a0_3], .agg #[.bool a1_0, .int .u64 a1_1, .int .u64 a1_2]] ?_; (with_reducible refine (prefix_Has.calls k a0_0 a0_1 a0_2 a0_3 a1_0 a1_1 a1_2 false _ A5.out).mono ?_); rintro e w33 ⟨rfl, hb⟩; refine ⟨_, rfl, ?_⟩; replace BK661 := bb_ BK661 hb; replace BK662 := bb_ BK662 hb; replace BK663 := bb_ BK663 hb; replace HB := bs_ HB hb; (try clear hb); (try clear hb2); (try clear hk); (try clear hi); obtain ⟨hcz34_0, hcz34_1, hfz34_0, hfz34_1⟩ := c2_ BK663))
   refine bodyPost_ret (results_ct rfl _ _ gb663 24 #[.int .u64 0, .int .u64 0] (0, 0) _ rfl (by refine pw_ ?_; refine blk_put (cs := #[.int .u64 0, .int .u64 0]) ?_ 1 _ rfl; refine pw_ ?_; refine blk_put (cs := #[.int .u64 0, .int .u64 0]) ?_ 0 _ rfl; refine pw_ ?_; exact BK663.out) Tryz.underlying24 rfl (by kernel_rfl)) rfl ?_
   exact ⟨by first | rfl | (simp [errW_none, errW_some] <;> rfl) | (simp [*, errW_none, errW_some] <;> rfl), pb_ HB⟩
 ·
  replace c4 := Bool.eq_false_iff.mpr c4
  subst c4
  have H1 : (some (0, 0, 1)) = some (r1, r2, r3) := by rw [if_neg (show ¬ (false = true) by decide)] at H; exact H
  clear H
  have H := H1
  clear H1
  simp only [Option.some.injEq, Prod.mk.injEq] at H
  obtain ⟨rfl, rfl, rfl⟩ := H
  go_enter Tryz.func54, Tryz.ntmps54
  go_wp2_with (first | ((with_reducible refine gate_dst (N := 2) rfl ?_); refine bx_ 2 #[.bool a0_0, .int .u64 a0_1, .int .u64 a0_2, .int .i64 a0_3] 38 ?_; intro gb661 hg w35 hbox hb; have BK661 := Aside0.mk (hbox); have GW661 := gw_ HB hg; have GE661 := gw_ HB hg; replace HB := bs_ HB hb; clear hb hbox hg) | ((with_reducible refine gate_dst (N := 3) rfl ?_); refine bx_ 3 #[.bool a1_0, .int .u64 a1_1, .int .u64 a1_2] 26 ?_; intro gb662 hg w36 hbox hb; have BK662 := Aside0.mk (hbox); have GW662 := gw_ HB hg; have GE662 := gw_ HB hg; have NB661_662 := nl_ BK661 hg; have NB662_661 := ng_ BK661 hg; replace BK661 := bb_ BK661 hb; replace HB := bs_ HB hb; clear hb hbox hg) | ((with_reducible refine gate_dst (N := 4) rfl ?_); refine bx_ 4 #[.int .u64 0, .int .u64 0] 24 ?_; intro gb663 hg w37 hbox hb; have BK663 := Aside0.mk (hbox); have GW663 := gw_ HB hg; have GE663 := gw_ HB hg; have NB661_663 := nl_ BK661 hg; have NB663_661 := ng_ BK661 hg; have NB662_663 := nl_ BK662 hg; have NB663_662 := ng_ BK662 hg; replace BK661 := bb_ BK661 hb; replace BK662 := bb_ BK662 hb; replace HB := bs_ HB hb; clear hb hbox hg; have hnb38 := NB661_662.out; have hnc38 := NB662_661.out; have hnb39 := NB661_663.out; have hnc39 := NB663_661.out; obtain ⟨hcz40_0, hcz40_1, hcz40_2, hcz40_3, hfz40_0, hfz40_1, hfz40_2, hfz40_3⟩ := c4_ BK661) | ((with_reducible refine gate_callee (f := 36) rfl ?_); refine gl_ (some 8) Tryz.func36 #[.agg #[.bool a0_0, .int .u64 a0_1, .int .u64 a0_2, .int .i64 a0_3]] ?_; (with_reducible refine (prefix_Right.calls a0_0 a0_1 a0_2 a0_3 false _ A3.out).mono ?_); rintro e w41 ⟨rfl, hb⟩; refine ⟨_, rfl, ?_⟩; replace BK661 := bb_ BK661 hb; replace BK662 := bb_ BK662 hb; replace BK663 := bb_ BK663 hb; replace HB := bs_ HB hb; (try clear hb); (try clear hb2); (try clear hk); (try clear hi); have hnb42 := NB663_662.out; have hnc42 := NB662_663.out; obtain ⟨hcz43_0, hcz43_1, hfz43_0, hfz43_1⟩ := c2_ BK663))
  refine bodyPost_ret (results_ct rfl _ _ gb663 24 #[.int .u64 0, .int .u64 0] (0, 0) _ rfl (by refine pw_ ?_; refine blk_put (cs := #[.int .u64 0, .int .u64 0]) ?_ 1 _ rfl; refine pw_ ?_; refine blk_put (cs := #[.int .u64 0, .int .u64 0]) ?_ 0 _ rfl; refine pw_ ?_; exact BK663.out) Tryz.underlying24 rfl (by kernel_rfl)) rfl ?_
  exact ⟨by first | rfl | (simp [errW_none, errW_some] <;> rfl) | (simp [*, errW_none, errW_some] <;> rfl), pb_ HB⟩

end Go.Proofs.YtgdgklibilddgaaGreatDoor.PPr

namespace Go.Proofs.YtgdgklibilddgaaGreatDoor.PPr
open Go.RowKit Go.Proofs.YtgdgklibilddgaaGreatDoorW.PrintWords Go.Proofs.YtgdgklibilddgaaGreatDoorW.PrintLast Go.Proofs.YtgdgklibilddgaaGreatDoorW.PrintMore
attribute [local go_sem] max2_int min2_int max_two min_two max_three min_three max_four min_four   -- for this text's walks alone

attribute [local go_sem high] eqA24
mutual
def platbooklaw04_CarveParts.j0 : Nat → Int → Bool → Bool → Int → Int → Int → Int → Int → Int → Int → Bool → Int → Int → Bool → Int → Int → Int → Bool → Int → Int → Int → Option (Bool)
 | 0, _, _, _, _, _, _, _, _, _, _, _, _, _, _, _, _, _, _, _, _, _ => none
 | k + 1, x1, x40, x669000, x669001, x669002, x669003, x670000, x670001, x671000, x671001, x672000, x672001, x672002, x679000, x679001, x679002, x679003, x685000, x685001, x685002, x685003 => if x40 = true then ((prefix_Overlap.f k x679000 x679001 x679002 x679003 x685000 x685001 x685002 x685003).bind fun t685 => (if (t685 != (x670000 == x671000 && (x670001 == x671001))) = true then (some false) else ((prefix_Cmp.f k x679000 x679001 x679002 x679003 x685000 x685001 x685002 x685003).bind fun t686 => ((num_Cmp.f x670000 x670001 x671000 x671001).bind fun t687 => (if t686 = t687 then ((prefix_Within.f k x679000 x679001 x679002 x679003 x669000 x669001 x669002 x669003).bind fun t688 => (if t688 = true then (platbooklaw04_CarveParts.j1 k x1 x669000 x669001 x669002 x669003 x672000 x672001 x672002) else (some false))) else (some false)))))) else (platbooklaw04_CarveParts.j1 k x1 x669000 x669001 x669002 x669003 x672000 x672001 x672002)
def platbooklaw04_CarveParts.j1 : Nat → Int → Bool → Int → Int → Int → Bool → Int → Int → Option (Bool)
 | 0, _, _, _, _, _, _, _, _ => none
 | k + 1, x1, x669000, x669001, x669002, x669003, x672000, x672001, x672002 => (carve_Number.f k x669000 x669001 x669002 x669003 x672000 x672001 x672002).bind fun bt689 => (if bt689.2.2 = 0 then ((platbookref04_Cuts.f k x669000 x669001 x669002 x669003 x1).bind fun t693 => (platbooklaw04_CarveParts.j2 k x1 (!t693) x669000 x669001 x669002 x669003 x672000 x672001 x672002 bt689.1 bt689.2.1)) else (platbooklaw04_CarveParts.j2 k x1 true x669000 x669001 x669002 x669003 x672000 x672001 x672002 bt689.1 bt689.2.1))
def platbooklaw04_CarveParts.j2 : Nat → Int → Bool → Bool → Int → Int → Int → Bool → Int → Int → Int → Int → Option (Bool)
 | 0, _, _, _, _, _, _, _, _, _, _, _ => none
 | k + 1, x1, x76, x669000, x669001, x669002, x669003, x672000, x672001, x672002, x693000, x693001 => if x76 = true then (some true) else ((addr_Width.f x672000 x672001 x672002).bind fun t694 => ((num_Shr.f x693000 x693001 (wrap64 (t694 - x1))).bind fun bt695 => ((carve_Block.f x669000 x669001 x669002 x669003 x1 bt695.1 bt695.2).bind fun bt697 => (if bt697.2.2.2.2 = 0 then ((prefix_Has.f k bt697.1 bt697.2.1 bt697.2.2.1 bt697.2.2.2.1 x672000 x672001 x672002).bind fun t703 => (some t703)) else (some false)))))
end
def platbooklaw04_CarveParts.f (k : Nat) (a0_0 : Bool) (a0_1 : Int) (a0_2 : Int) (a0_3 : Int) (a1 : Int) (a2_0 : Int) (a2_1 : Int) (a3_0 : Int) (a3_1 : Int) (a4_0 : Bool) (a4_1 : Int) (a4_2 : Int) : Option (Bool) := (platbooklaw04_awake.f k).bind fun t672 => (if t672 = true then ((carve_Block.f a0_0 a0_1 a0_2 a0_3 a1 a2_0 a2_1).bind fun bt673 => ((carve_Block.f a0_0 a0_1 a0_2 a0_3 a1 a3_0 a3_1).bind fun bt679 => (if bt673.2.2.2.2 = 0 then (platbooklaw04_CarveParts.j0 k a1 (bt679.2.2.2.2 == 0) a0_0 a0_1 a0_2 a0_3 a2_0 a2_1 a3_0 a3_1 a4_0 a4_1 a4_2 bt673.1 bt673.2.1 bt673.2.2.1 bt673.2.2.2.1 bt679.1 bt679.2.1 bt679.2.2.1 bt679.2.2.2.1) else (platbooklaw04_CarveParts.j0 k a1 false a0_0 a0_1 a0_2 a0_3 a2_0 a2_1 a3_0 a3_1 a4_0 a4_1 a4_2 bt673.1 bt673.2.1 bt673.2.2.1 bt673.2.2.2.1 bt679.1 bt679.2.1 bt679.2.2.1 bt679.2.2.2.1)))) else (some false))
def platbooklaw04_CarveParts.T6 : Bool × List (List Nat × List Nat) := (true, [([], []), ([], []), ([0, 1], [0, 1]), ([], []), ([], []), ([3, 4], [3, 4]), ([2, 5], [2, 5]), ([6, 2], [6]), ([7], [7]), ([7], [7]), ([8, 9, 7, 7], [7, 8, 9]), ([7], [7]), ([7], [7]), ([11, 12, 10, 7], [7, 11, 12]), ([10, 13, 7], [7, 10, 13]), ([7, 14], [7, 14]), ([15, 13], [15]), ([16], [16]), ([16], [16]), ([17, 18, 16, 16], [16, 17, 18]), ([19, 16], [16, 19]), ([16, 20], [16, 20])])
def platbooklaw04_CarveParts.B6 : List Nat := [0, 0, 3, 0, 0, 24, 63, 127, 255, 255, 1023, 255, 255, 8191, 16383, 32767, 65535, 131071, 131071, 524287, 1048575, 2097151]
theorem platbooklaw04_CarveParts.tab6 : rtab .any (opsOf Tryz.f9 6) = platbooklaw04_CarveParts.T6 := by kernel_rfl
theorem platbooklaw04_CarveParts.bits6 : waitsOk platbooklaw04_CarveParts.T6.2 platbooklaw04_CarveParts.B6 = true := by kernel_rfl
def platbooklaw04_CarveParts.T11 : Bool × List (List Nat × List Nat) := (true, [([], []), ([], []), ([], []), ([], []), ([3], [3]), ([], []), ([4, 5], [4, 5]), ([2, 6, 4], [2, 6]), ([0, 1, 7, 7], [0, 1, 7]), ([8], [8]), ([9], [9]), ([9], [9]), ([], []), ([12, 10, 8, 0, 1, 2, 3, 4, 5, 6, 7, 8, 9, 10, 12], [10, 12]), ([11, 13, 0, 1, 2, 3, 4, 5, 6, 7, 8, 9, 10, 11, 12, 13], [11])])
def platbooklaw04_CarveParts.B11 : List Nat := [0, 0, 0, 0, 8, 0, 56, 124, 255, 511, 1023, 1023, 0, 6143, 16383]
theorem platbooklaw04_CarveParts.tab11 : rtab .any (opsOf Tryz.f9 11) = platbooklaw04_CarveParts.T11 := by kernel_rfl
theorem platbooklaw04_CarveParts.bits11 : waitsOk platbooklaw04_CarveParts.T11.2 platbooklaw04_CarveParts.B11 = true := by kernel_rfl
set_option maxHeartbeats 8000000 in
set_option maxRecDepth 100000 in
theorem platbooklaw04_CarveParts.calls (k : Nat) (a0_0 : Bool) (a0_1 : Int) (a0_2 : Int) (a0_3 : Int) (a1 : Int) (a2_0 : Int) (a2_1 : Int) (a3_0 : Int) (a3_1 : Int) (a4_0 : Bool) (a4_1 : Int) (a4_2 : Int) (r : Bool) (w : World) (hG : Glob w) (hrt : r = true) (h : platbooklaw04_CarveParts.f k a0_0 a0_1 a0_2 a0_3 a1 a2_0 a2_1 a3_0 a3_1 a4_0 a4_1 a4_2 = some r) :
  Calls Tryz.prog 9 #[.agg #[.bool a0_0, .int .u64 a0_1, .int .u64 a0_2, .int .i64 a0_3], .int .i64 a1, .agg #[.int .u64 a2_0, .int .u64 a2_1], .agg #[.int .u64 a3_0, .int .u64 a3_1], .agg #[.bool a4_0, .int .u64 a4_1, .int .u64 a4_2]] w fun e w' => e = .returned (.bool r) ∧ Below w.heap.size w w' := by
 have hu38 := Tryz.underlying38
 have hu24 := Tryz.underlying24
 have hu26 := Tryz.underlying26
 have HGLB := Aside0.mk hG
 clear hG
 have HRT := Aside0.mk hrt
 clear hrt
 have HB := Aside0.mk (Below.refl w.heap.size w)
 have H : ((platbooklaw04_awake.f k).bind fun t672 => (if t672 = true then ((carve_Block.f a0_0 a0_1 a0_2 a0_3 a1 a2_0 a2_1).bind fun bt673 => ((carve_Block.f a0_0 a0_1 a0_2 a0_3 a1 a3_0 a3_1).bind fun bt679 => (if bt673.2.2.2.2 = 0 then (platbooklaw04_CarveParts.j0 k a1 (bt679.2.2.2.2 == 0) a0_0 a0_1 a0_2 a0_3 a2_0 a2_1 a3_0 a3_1 a4_0 a4_1 a4_2 bt673.1 bt673.2.1 bt673.2.2.1 bt673.2.2.2.1 bt679.1 bt679.2.1 bt679.2.2.1 bt679.2.2.2.1) else (platbooklaw04_CarveParts.j0 k a1 false a0_0 a0_1 a0_2 a0_3 a2_0 a2_1 a3_0 a3_1 a4_0 a4_1 a4_2 bt673.1 bt673.2.1 bt673.2.2.1 bt673.2.2.2.1 bt679.1 bt679.2.1 bt679.2.2.1 bt679.2.2.2.1)))) else (some false))) = some r := h
 clear h
 replace H := Option.bind_eq_some_iff.mp H
 obtain ⟨t672, A60, H⟩ := H
 replace H : (if t672 = true then ((carve_Block.f a0_0 a0_1 a0_2 a0_3 a1 a2_0 a2_1).bind fun bt673 => ((carve_Block.f a0_0 a0_1 a0_2 a0_3 a1 a3_0 a3_1).bind fun bt679 => (if bt673.2.2.2.2 = 0 then (platbooklaw04_CarveParts.j0 k a1 (bt679.2.2.2.2 == 0) a0_0 a0_1 a0_2 a0_3 a2_0 a2_1 a3_0 a3_1 a4_0 a4_1 a4_2 bt673.1 bt673.2.1 bt673.2.2.1 bt673.2.2.2.1 bt679.1 bt679.2.1 bt679.2.2.1 bt679.2.2.2.1) else (platbooklaw04_CarveParts.j0 k a1 false a0_0 a0_1 a0_2 a0_3 a2_0 a2_1 a3_0 a3_1 a4_0 a4_1 a4_2 bt673.1 bt673.2.1 bt673.2.2.1 bt673.2.2.2.1 bt679.1 bt679.2.1 bt679.2.2.1 bt679.2.2.2.1)))) else (some false)) = some r := H
 have A6 := Aside0.mk A60
 clear A60
 by_cases c7 : t672 = true
 ·
  subst c7
  rw [if_pos rfl] at H
  replace H := Option.bind_eq_some_iff.mp H
  obtain ⟨⟨t673, t674, t675, t676, t677⟩, A80, H⟩ := H
  replace H : ((carve_Block.f a0_0 a0_1 a0_2 a0_3 a1 a3_0 a3_1).bind fun bt679 => (if t677 = 0 then (platbooklaw04_CarveParts.j0 k a1 (bt679.2.2.2.2 == 0) a0_0 a0_1 a0_2 a0_3 a2_0 a2_1 a3_0 a3_1 a4_0 a4_1 a4_2 t673 t674 t675 t676 bt679.1 bt679.2.1 bt679.2.2.1 bt679.2.2.2.1) else (platbooklaw04_CarveParts.j0 k a1 false a0_0 a0_1 a0_2 a0_3 a2_0 a2_1 a3_0 a3_1 a4_0 a4_1 a4_2 t673 t674 t675 t676 bt679.1 bt679.2.1 bt679.2.2.1 bt679.2.2.2.1))) = some r := H
  have A8 := Aside0.mk A80
  clear A80
  replace H := Option.bind_eq_some_iff.mp H
  obtain ⟨⟨t679, t680, t681, t682, t683⟩, A90, H⟩ := H
  replace H : (if t677 = 0 then (platbooklaw04_CarveParts.j0 k a1 (t683 == 0) a0_0 a0_1 a0_2 a0_3 a2_0 a2_1 a3_0 a3_1 a4_0 a4_1 a4_2 t673 t674 t675 t676 t679 t680 t681 t682) else (platbooklaw04_CarveParts.j0 k a1 false a0_0 a0_1 a0_2 a0_3 a2_0 a2_1 a3_0 a3_1 a4_0 a4_1 a4_2 t673 t674 t675 t676 t679 t680 t681 t682)) = some r := H
  have A9 := Aside0.mk A90
  clear A90
  have HC10 := Aside0.mk H
  clear H
  go_enter Tryz.func9, Tryz.ntmps9
  go_upto_region 5 with (first | ((with_reducible refine gate_dst (N := 5) rfl ?_); refine bx_ 5 #[.bool a0_0, .int .u64 a0_1, .int .u64 a0_2, .int .i64 a0_3] 38 ?_; intro gb668 hg w11 hbox hb; have BK668 := Aside0.mk (hbox); have GW668 := gw_ HB hg; have GE668 := gw_ HB hg; replace HB := bs_ HB hb; clear hb hbox hg) | ((with_reducible refine gate_dst (N := 7) rfl ?_); refine bx_ 7 #[.int .u64 a2_0, .int .u64 a2_1] 24 ?_; intro gb669 hg w12 hbox hb; have BK669 := Aside0.mk (hbox); have GW669 := gw_ HB hg; have GE669 := gw_ HB hg; have NB668_669 := nl_ BK668 hg; have NB669_668 := ng_ BK668 hg; replace BK668 := bb_ BK668 hb; replace HB := bs_ HB hb; clear hb hbox hg) | ((with_reducible refine gate_dst (N := 8) rfl ?_); refine bx_ 8 #[.int .u64 a3_0, .int .u64 a3_1] 24 ?_; intro gb670 hg w13 hbox hb; have BK670 := Aside0.mk (hbox); have GW670 := gw_ HB hg; have GE670 := gw_ HB hg; have NB668_670 := nl_ BK668 hg; have NB670_668 := ng_ BK668 hg; have NB669_670 := nl_ BK669 hg; have NB670_669 := ng_ BK669 hg; replace BK668 := bb_ BK668 hb; replace BK669 := bb_ BK669 hb; replace HB := bs_ HB hb; clear hb hbox hg) | ((with_reducible refine gate_dst (N := 9) rfl ?_); refine bx_ 9 #[.bool a4_0, .int .u64 a4_1, .int .u64 a4_2] 26 ?_; intro gb671 hg w14 hbox hb; have BK671 := Aside0.mk (hbox); have GW671 := gw_ HB hg; have GE671 := gw_ HB hg; have NB668_671 := nl_ BK668 hg; have NB671_668 := ng_ BK668 hg; have NB669_671 := nl_ BK669 hg; have NB671_669 := ng_ BK669 hg; have NB670_671 := nl_ BK670 hg; have NB671_670 := ng_ BK670 hg; replace BK668 := bb_ BK668 hb; replace BK669 := bb_ BK669 hb; replace BK670 := bb_ BK670 hb; replace HB := bs_ HB hb; clear hb hbox hg) | ((with_reducible refine gate_callee (f := 46) rfl ?_); refine gl_ (some 19) Tryz.func46 #[] ?_; (with_reducible refine (platbooklaw04_awake.calls k  true _ ?side1 rfl A6.out).mono ?_); (case side1 => exact glob_keep HGLB.out (pb_ HB)); rintro e w15 ⟨rfl, hb⟩; refine ⟨_, rfl, ?_⟩; replace BK668 := bb_ BK668 hb; replace BK669 := bb_ BK669 hb; replace BK670 := bb_ BK670 hb; replace BK671 := bb_ BK671 hb; replace HB := bs_ HB hb; (try clear hb); (try clear hb2); (try clear hk); (try clear hi); have hnb16 := NB668_669.out; have hnc16 := NB669_668.out; have hnb17 := NB668_670.out; have hnc17 := NB670_668.out; have hnb18 := NB668_671.out; have hnc18 := NB671_668.out; obtain ⟨hcz19_0, hcz19_1, hcz19_2, hcz19_3, hfz19_0, hfz19_1, hfz19_2, hfz19_3⟩ := c4_ BK668; have hnb20 := NB669_670.out; have hnc20 := NB670_669.out; have hnb21 := NB669_671.out; have hnc21 := NB671_669.out; obtain ⟨hcz22_0, hcz22_1, hfz22_0, hfz22_1⟩ := c2_ BK669) | ((with_reducible refine gate_callee (f := 49) rfl ?_); refine gl_ (some 25) Tryz.func49 #[.agg #[.bool a0_0, .int .u64 a0_1, .int .u64 a0_2, .int .i64 a0_3], .int .i64 a1, .agg #[.int .u64 a2_0, .int .u64 a2_1]] ?_; (with_reducible refine (carve_Block.calls a0_0 a0_1 a0_2 a0_3 a1 a2_0 a2_1 t673 t674 t675 t676 t677 _ A8.out).mono ?_); rintro e w23 ⟨rfl, hb⟩; refine ⟨_, rfl, ?_⟩; replace BK668 := bb_ BK668 hb; replace BK669 := bb_ BK669 hb; replace BK670 := bb_ BK670 hb; replace BK671 := bb_ BK671 hb; replace HB := bs_ HB hb; (try clear hb); (try clear hb2); (try clear hk); (try clear hi)) | ((with_reducible refine gate_dst (N := 11) rfl ?_); refine bx_ 11 #[.bool false, .int .u64 0, .int .u64 0, .int .i64 0] 38 ?_; intro gb678 hg w24 hbox hb; have BK678 := Aside0.mk (hbox); have GW678 := gw_ HB hg; have GE678 := gw_ HB hg; have NB668_678 := nl_ BK668 hg; have NB678_668 := ng_ BK668 hg; have NB669_678 := nl_ BK669 hg; have NB678_669 := ng_ BK669 hg; have NB670_678 := nl_ BK670 hg; have NB678_670 := ng_ BK670 hg; have NB671_678 := nl_ BK671 hg; have NB678_671 := ng_ BK671 hg; replace BK668 := bb_ BK668 hb; replace BK669 := bb_ BK669 hb; replace BK670 := bb_ BK670 hb; replace BK671 := bb_ BK671 hb; replace HB := bs_ HB hb; clear hb hbox hg; have hnb25 := NB678_668.out; have hnc25 := NB668_678.out; have hnb26 := NB678_669.out; have hnc26 := NB669_678.out; have hnb27 := NB678_670.out; have hnc27 := NB670_678.out; have hnb28 := NB678_671.out; have hnc28 := NB671_678.out; obtain ⟨hcz29_0, hcz29_1, hcz29_2, hcz29_3, hfz29_0, hfz29_1, hfz29_2, hfz29_3⟩ := c4_ BK678; obtain ⟨hcz30_0, hcz30_1, hcz30_2, hcz30_3, hfz30_0, hfz30_1, hfz30_2, hfz30_3⟩ := c4_ BK668; have hnb31 := NB670_671.out; have hnc31 := NB671_670.out; obtain ⟨hcz32_0, hcz32_1, hfz32_0, hfz32_1⟩ := c2_ BK670) | ((with_reducible refine gate_callee (f := 49) rfl ?_); refine gl_ (some 32) Tryz.func49 #[.agg #[.bool a0_0, .int .u64 a0_1, .int .u64 a0_2, .int .i64 a0_3], .int .i64 a1, .agg #[.int .u64 a3_0, .int .u64 a3_1]] ?_; (with_reducible refine (carve_Block.calls a0_0 a0_1 a0_2 a0_3 a1 a3_0 a3_1 t679 t680 t681 t682 t683 _ A9.out).mono ?_); rintro e w33 ⟨rfl, hb⟩; refine ⟨_, rfl, ?_⟩; replace BK668 := Aside0.mk (blk_below (g := gb668) (o := .cells #[.bool a0_0, .int .u64 a0_1, .int .u64 a0_2, .int .i64 a0_3] 38 (0, 0)) (by refine pw_ ?_; refine blk_far ?_ NB668_678.out _; refine pw_ ?_; refine blk_far ?_ NB668_678.out _; refine pw_ ?_; refine blk_far ?_ NB668_678.out _; refine pw_ ?_; refine blk_far ?_ NB668_678.out _; refine pw_ ?_; exact BK668.out) hb); replace BK669 := Aside0.mk (blk_below (g := gb669) (o := .cells #[.int .u64 a2_0, .int .u64 a2_1] 24 (0, 0)) (by refine pw_ ?_; refine blk_far ?_ NB669_678.out _; refine pw_ ?_; refine blk_far ?_ NB669_678.out _; refine pw_ ?_; refine blk_far ?_ NB669_678.out _; refine pw_ ?_; refine blk_far ?_ NB669_678.out _; refine pw_ ?_; exact BK669.out) hb); replace BK670 := Aside0.mk (blk_below (g := gb670) (o := .cells #[.int .u64 a3_0, .int .u64 a3_1] 24 (0, 0)) (by refine pw_ ?_; refine blk_far ?_ NB670_678.out _; refine pw_ ?_; refine blk_far ?_ NB670_678.out _; refine pw_ ?_; refine blk_far ?_ NB670_678.out _; refine pw_ ?_; refine blk_far ?_ NB670_678.out _; refine pw_ ?_; exact BK670.out) hb); replace BK671 := Aside0.mk (blk_below (g := gb671) (o := .cells #[.bool a4_0, .int .u64 a4_1, .int .u64 a4_2] 26 (0, 0)) (by refine pw_ ?_; refine blk_far ?_ NB671_678.out _; refine pw_ ?_; refine blk_far ?_ NB671_678.out _; refine pw_ ?_; refine blk_far ?_ NB671_678.out _; refine pw_ ?_; refine blk_far ?_ NB671_678.out _; refine pw_ ?_; exact BK671.out) hb); replace BK678 := Aside0.mk (blk_below (g := gb678) (o := .cells #[.bool t673, .int .u64 t674, .int .u64 t675, .int .i64 t676] 38 (0, 0)) (by refine pw_ ?_; refine blk_put (cs := #[.bool t673, .int .u64 t674, .int .u64 t675, .int .i64 0]) ?_ 3 _ rfl; refine pw_ ?_; refine blk_put (cs := #[.bool t673, .int .u64 t674, .int .u64 0, .int .i64 0]) ?_ 2 _ rfl; refine pw_ ?_; refine blk_put (cs := #[.bool t673, .int .u64 0, .int .u64 0, .int .i64 0]) ?_ 1 _ rfl; refine pw_ ?_; refine blk_put (cs := #[.bool false, .int .u64 0, .int .u64 0, .int .i64 0]) ?_ 0 _ rfl; refine pw_ ?_; exact BK678.out) hb); replace HB := bs_ HB hb; (try clear hb); (try clear hb2); (try clear hk); (try clear hi)) | ((with_reducible refine gate_dst (N := 13) rfl ?_); refine bx_ 13 #[.bool false, .int .u64 0, .int .u64 0, .int .i64 0] 38 ?_; intro gb684 hg w34 hbox hb; have BK684 := Aside0.mk (hbox); have GW684 := gw_ HB hg; have GE684 := gw_ HB hg; have NB668_684 := nl_ BK668 hg; have NB684_668 := ng_ BK668 hg; have NB669_684 := nl_ BK669 hg; have NB684_669 := ng_ BK669 hg; have NB670_684 := nl_ BK670 hg; have NB684_670 := ng_ BK670 hg; have NB671_684 := nl_ BK671 hg; have NB684_671 := ng_ BK671 hg; have NB678_684 := nl_ BK678 hg; have NB684_678 := ng_ BK678 hg; replace BK668 := bb_ BK668 hb; replace BK669 := bb_ BK669 hb; replace BK670 := bb_ BK670 hb; replace BK671 := bb_ BK671 hb; replace BK678 := bb_ BK678 hb; replace HB := bs_ HB hb; clear hb hbox hg; have hnb35 := NB684_668.out; have hnc35 := NB668_684.out; have hnb36 := NB684_669.out; have hnc36 := NB669_684.out; have hnb37 := NB684_670.out; have hnc37 := NB670_684.out; have hnb38 := NB684_671.out; have hnc38 := NB671_684.out; have hnb39 := NB684_678.out; have hnc39 := NB678_684.out; obtain ⟨hcz40_0, hcz40_1, hcz40_2, hcz40_3, hfz40_0, hfz40_1, hfz40_2, hfz40_3⟩ := c4_ BK684))
  (try simp only [Act.put, List.setIfInBounds_toArray, List.set_cons_zero, List.set_cons_succ])
  go_cut [40] (fun v40 wc => ∃ (kq : Nat) (x40_9 : Bool), v40 = .bool x40_9 ∧ Aside0 (platbooklaw04_CarveParts.j0 kq a1 x40_9 a0_0 a0_1 a0_2 a0_3 a2_0 a2_1 a3_0 a3_1 a4_0 a4_1 a4_2 t673 t674 t675 t676 t679 t680 t681 t682 = some r) ∧ Aside0 (kq ≤ k) ∧ Aside0 (wc.heap[gb668]? = some (.cells #[.bool a0_0, .int .u64 a0_1, .int .u64 a0_2, .int .i64 a0_3] 38 (0, 0))) ∧ Aside0 (wc.heap[gb669]? = some (.cells #[.int .u64 a2_0, .int .u64 a2_1] 24 (0, 0))) ∧ Aside0 (wc.heap[gb670]? = some (.cells #[.int .u64 a3_0, .int .u64 a3_1] 24 (0, 0))) ∧ Aside0 (wc.heap[gb671]? = some (.cells #[.bool a4_0, .int .u64 a4_1, .int .u64 a4_2] 26 (0, 0))) ∧ Aside0 (wc.heap[gb678]? = some (.cells #[.bool t673, .int .u64 t674, .int .u64 t675, .int .i64 t676] 38 (0, 0))) ∧ Aside0 (wc.heap[gb684]? = some (.cells #[.bool t679, .int .u64 t680, .int .u64 t681, .int .i64 t682] 38 (0, 0))) ∧ Aside0 (Below w.heap.size w wc))
  case first =>
   have H := HC10.out
   clear HC10
   by_cases c41 : t677 = 0
   ·
    rw [if_pos c41] at H
    have c41b0 : (t677 == 0) = true := beq_iff_eq.mpr c41
    have c41b1 : (t677 != 0) = false := bne_eq_false_iff_eq.mpr c41
    clear c41
    (first | rw [c41b0] | (simp only [i64_w, i32_w]; rw [c41b0]) | skip)
    have H' := Aside0.mk H
    clear H
    go_wp2
    go_meet
    case rel => exact ⟨_, ((t683 == 0)), (by first | rfl | (simp; done) | (simp [*]; done)), H', ⟨by first | omega | exact Nat.le_refl _⟩, ⟨by refine pw_ ?_; refine blk_far ?_ NB668_684.out _; refine pw_ ?_; refine blk_far ?_ NB668_684.out _; refine pw_ ?_; refine blk_far ?_ NB668_684.out _; refine pw_ ?_; refine blk_far ?_ NB668_684.out _; refine pw_ ?_; exact BK668.out⟩, ⟨by refine pw_ ?_; refine blk_far ?_ NB669_684.out _; refine pw_ ?_; refine blk_far ?_ NB669_684.out _; refine pw_ ?_; refine blk_far ?_ NB669_684.out _; refine pw_ ?_; refine blk_far ?_ NB669_684.out _; refine pw_ ?_; exact BK669.out⟩, ⟨by refine pw_ ?_; refine blk_far ?_ NB670_684.out _; refine pw_ ?_; refine blk_far ?_ NB670_684.out _; refine pw_ ?_; refine blk_far ?_ NB670_684.out _; refine pw_ ?_; refine blk_far ?_ NB670_684.out _; refine pw_ ?_; exact BK670.out⟩, ⟨by refine pw_ ?_; refine blk_far ?_ NB671_684.out _; refine pw_ ?_; refine blk_far ?_ NB671_684.out _; refine pw_ ?_; refine blk_far ?_ NB671_684.out _; refine pw_ ?_; refine blk_far ?_ NB671_684.out _; refine pw_ ?_; exact BK671.out⟩, ⟨by refine pw_ ?_; refine blk_far ?_ NB678_684.out _; refine pw_ ?_; refine blk_far ?_ NB678_684.out _; refine pw_ ?_; refine blk_far ?_ NB678_684.out _; refine pw_ ?_; refine blk_far ?_ NB678_684.out _; refine pw_ ?_; exact BK678.out⟩, ⟨by refine pw_ ?_; refine blk_put (cs := #[.bool t679, .int .u64 t680, .int .u64 t681, .int .i64 0]) ?_ 3 _ rfl; refine pw_ ?_; refine blk_put (cs := #[.bool t679, .int .u64 t680, .int .u64 0, .int .i64 0]) ?_ 2 _ rfl; refine pw_ ?_; refine blk_put (cs := #[.bool t679, .int .u64 0, .int .u64 0, .int .i64 0]) ?_ 1 _ rfl; refine pw_ ?_; refine blk_put (cs := #[.bool false, .int .u64 0, .int .u64 0, .int .i64 0]) ?_ 0 _ rfl; refine pw_ ?_; exact BK684.out⟩, ⟨pb_ HB⟩⟩
   ·
    rw [if_neg c41] at H
    have c41b0 : (t677 == 0) = false := beq_eq_false_iff_ne.mpr c41
    have c41b1 : (t677 != 0) = true := bne_iff_ne.mpr c41
    (first | rw [c41b0] | (simp only [i64_w, i32_w]; rw [c41b0]) | skip)
    have H' := Aside0.mk H
    clear H
    go_wp2
    go_meet
    case rel => exact ⟨_, (false), (by first | rfl | (simp; done) | (simp [*]; done)), H', ⟨by first | omega | exact Nat.le_refl _⟩, ⟨by refine pw_ ?_; refine blk_far ?_ NB668_684.out _; refine pw_ ?_; refine blk_far ?_ NB668_684.out _; refine pw_ ?_; refine blk_far ?_ NB668_684.out _; refine pw_ ?_; refine blk_far ?_ NB668_684.out _; refine pw_ ?_; exact BK668.out⟩, ⟨by refine pw_ ?_; refine blk_far ?_ NB669_684.out _; refine pw_ ?_; refine blk_far ?_ NB669_684.out _; refine pw_ ?_; refine blk_far ?_ NB669_684.out _; refine pw_ ?_; refine blk_far ?_ NB669_684.out _; refine pw_ ?_; exact BK669.out⟩, ⟨by refine pw_ ?_; refine blk_far ?_ NB670_684.out _; refine pw_ ?_; refine blk_far ?_ NB670_684.out _; refine pw_ ?_; refine blk_far ?_ NB670_684.out _; refine pw_ ?_; refine blk_far ?_ NB670_684.out _; refine pw_ ?_; exact BK670.out⟩, ⟨by refine pw_ ?_; refine blk_far ?_ NB671_684.out _; refine pw_ ?_; refine blk_far ?_ NB671_684.out _; refine pw_ ?_; refine blk_far ?_ NB671_684.out _; refine pw_ ?_; refine blk_far ?_ NB671_684.out _; refine pw_ ?_; exact BK671.out⟩, ⟨by refine pw_ ?_; refine blk_far ?_ NB678_684.out _; refine pw_ ?_; refine blk_far ?_ NB678_684.out _; refine pw_ ?_; refine blk_far ?_ NB678_684.out _; refine pw_ ?_; refine blk_far ?_ NB678_684.out _; refine pw_ ?_; exact BK678.out⟩, ⟨by refine pw_ ?_; refine blk_put (cs := #[.bool t679, .int .u64 t680, .int .u64 t681, .int .i64 0]) ?_ 3 _ rfl; refine pw_ ?_; refine blk_put (cs := #[.bool t679, .int .u64 t680, .int .u64 0, .int .i64 0]) ?_ 2 _ rfl; refine pw_ ?_; refine blk_put (cs := #[.bool t679, .int .u64 0, .int .u64 0, .int .i64 0]) ?_ 1 _ rfl; refine pw_ ?_; refine blk_put (cs := #[.bool false, .int .u64 0, .int .u64 0, .int .i64 0]) ?_ 0 _ rfl; refine pw_ ?_; exact BK684.out⟩, ⟨pb_ HB⟩⟩
  case rest =>
   clear HC10
   try clear c1
   try clear c2
   try clear p2
   try clear c3
   try clear c4
   try clear c7
   try clear c9
   try clear c16
   try clear c17
   try clear c18
   try clear c20
   try clear c21
   try clear c25
   try clear c26
   try clear c27
   try clear c28
   try clear c31
   try clear c35
   try clear c36
   try clear c37
   try clear c38
   try clear c39
   try clear c41
   try clear c41b0
   try clear c41b1
   try clear hcz19_0
   try clear hcz19_1
   try clear hcz19_2
   try clear hcz19_3
   try clear hcz22_0
   try clear hcz22_1
   try clear hcz29_0
   try clear hcz29_1
   try clear hcz29_2
   try clear hcz29_3
   try clear hcz30_0
   try clear hcz30_1
   try clear hcz30_2
   try clear hcz30_3
   try clear hcz32_0
   try clear hcz32_1
   try clear hcz40_0
   try clear hcz40_1
   try clear hcz40_2
   try clear hcz40_3
   try clear hfz19_0
   try clear hfz19_1
   try clear hfz19_2
   try clear hfz19_3
   try clear hfz22_0
   try clear hfz22_1
   try clear hfz29_0
   try clear hfz29_1
   try clear hfz29_2
   try clear hfz29_3
   try clear hfz30_0
   try clear hfz30_1
   try clear hfz30_2
   try clear hfz30_3
   try clear hfz32_0
   try clear hfz32_1
   try clear hfz40_0
   try clear hfz40_1
   try clear hfz40_2
   try clear hfz40_3
   obtain ⟨kq, x40_9, rfl, HA, HJ9, BK668, BK669, BK670, BK671, BK678, BK684, HB⟩ := hcut
   cases kq with
   | zero => exact absurd HA.out (by simp [platbooklaw04_CarveParts.j0])
   | succ kj9 =>
    have H := HA.out
    clear HA
    simp only [platbooklaw04_CarveParts.j0] at H
    have HC42 := Aside0.mk H
    clear H
    go_upto_if 40 with (fail)
    go_cut [] (fun wc => ∃ (kq : Nat), Aside0 (platbooklaw04_CarveParts.j1 kq a1 a0_0 a0_1 a0_2 a0_3 a4_0 a4_1 a4_2 = some r) ∧ Aside0 (kq ≤ kj9) ∧ Aside0 (wc.heap[gb668]? = some (.cells #[.bool a0_0, .int .u64 a0_1, .int .u64 a0_2, .int .i64 a0_3] 38 (0, 0))) ∧ Aside0 (wc.heap[gb669]? = some (.cells #[.int .u64 a2_0, .int .u64 a2_1] 24 (0, 0))) ∧ Aside0 (wc.heap[gb670]? = some (.cells #[.int .u64 a3_0, .int .u64 a3_1] 24 (0, 0))) ∧ Aside0 (wc.heap[gb671]? = some (.cells #[.bool a4_0, .int .u64 a4_1, .int .u64 a4_2] 26 (0, 0))) ∧ Aside0 (wc.heap[gb678]? = some (.cells #[.bool t673, .int .u64 t674, .int .u64 t675, .int .i64 t676] 38 (0, 0))) ∧ Aside0 (wc.heap[gb684]? = some (.cells #[.bool t679, .int .u64 t680, .int .u64 t681, .int .i64 t682] 38 (0, 0))) ∧ Aside0 (Below w.heap.size w wc))
    case first =>
     have H := HC42.out
     clear HC42
     by_cases c43 : x40_9 = true
     ·
      subst c43
      rw [if_pos rfl] at H
      replace H := Option.bind_eq_some_iff.mp H
      obtain ⟨t685, A440, H⟩ := H
      replace H : (if (t685 != (a2_0 == a3_0 && (a2_1 == a3_1))) = true then (some false) else ((prefix_Cmp.f kj9 t673 t674 t675 t676 t679 t680 t681 t682).bind fun t686 => ((num_Cmp.f a2_0 a2_1 a3_0 a3_1).bind fun t687 => (if t686 = t687 then ((prefix_Within.f kj9 t673 t674 t675 t676 a0_0 a0_1 a0_2 a0_3).bind fun t688 => (if t688 = true then (platbooklaw04_CarveParts.j1 kj9 a1 a0_0 a0_1 a0_2 a0_3 a4_0 a4_1 a4_2) else (some false))) else (some false))))) = some r := H
      have A44 := Aside0.mk A440
      clear A440
      by_cases c45 : (t685 != (a2_0 == a3_0 && (a2_1 == a3_1))) = true
      ·
       rw [if_pos c45] at H
       have c45b0 : (t685 != (a2_0 == a3_0 && (a2_1 == a3_1))) = true := c45
       (try (have c45b1 : decide (t685 = (a2_0 == a3_0 && (a2_1 == a3_1))) = false := by simpa using c45))
       (try (have c45b2 : (t685 == (a2_0 == a3_0 && (a2_1 == a3_1))) = false := by simpa using c45))
       (try (have c45b3 : ¬ (t685 = (a2_0 == a3_0 && (a2_1 == a3_1))) := by simpa using c45))
       clear c45
       (first | rw [c45b0] | (simp only [i64_w, i32_w]; rw [c45b0]) | skip)
       obtain rfl := Option.some.inj H
       exact absurd HRT.out (by decide)
      ·
       rw [if_neg c45] at H
       have c45b0 : (t685 != (a2_0 == a3_0 && (a2_1 == a3_1))) = false := by simpa using c45
       (try (have c45b1 : decide (t685 = (a2_0 == a3_0 && (a2_1 == a3_1))) = true := by simpa using c45))
       (try (have c45b2 : (t685 == (a2_0 == a3_0 && (a2_1 == a3_1))) = true := by simpa using c45))
       clear c45
       (first | rw [c45b0] | (simp only [i64_w, i32_w]; rw [c45b0]) | skip)
       replace H := Option.bind_eq_some_iff.mp H
       obtain ⟨t686, A460, H⟩ := H
       replace H : ((num_Cmp.f a2_0 a2_1 a3_0 a3_1).bind fun t687 => (if t686 = t687 then ((prefix_Within.f kj9 t673 t674 t675 t676 a0_0 a0_1 a0_2 a0_3).bind fun t688 => (if t688 = true then (platbooklaw04_CarveParts.j1 kj9 a1 a0_0 a0_1 a0_2 a0_3 a4_0 a4_1 a4_2) else (some false))) else (some false))) = some r := H
       have A46 := Aside0.mk A460
       clear A460
       replace H := Option.bind_eq_some_iff.mp H
       obtain ⟨t687, A470, H⟩ := H
       replace H : (if t686 = t687 then ((prefix_Within.f kj9 t673 t674 t675 t676 a0_0 a0_1 a0_2 a0_3).bind fun t688 => (if t688 = true then (platbooklaw04_CarveParts.j1 kj9 a1 a0_0 a0_1 a0_2 a0_3 a4_0 a4_1 a4_2) else (some false))) else (some false)) = some r := H
       have A47 := Aside0.mk A470
       clear A470
       by_cases c48 : t686 = t687
       ·
        rw [if_pos c48] at H
        have c48b0 : (t686 == t687) = true := beq_iff_eq.mpr c48
        have c48b1 : (t686 != t687) = false := bne_eq_false_iff_eq.mpr c48
        clear c48
        replace H := Option.bind_eq_some_iff.mp H
        obtain ⟨t688, A490, H⟩ := H
        replace H : (if t688 = true then (platbooklaw04_CarveParts.j1 kj9 a1 a0_0 a0_1 a0_2 a0_3 a4_0 a4_1 a4_2) else (some false)) = some r := H
        have A49 := Aside0.mk A490
        clear A490
        by_cases c50 : t688 = true
        ·
         subst c50
         rw [if_pos rfl] at H
         have H' := Aside0.mk H
         clear H
         try go_wp2
         replace BK668 := Aside0.mk (blk_drew BK668.out)
         replace BK669 := Aside0.mk (blk_drew BK669.out)
         replace BK670 := Aside0.mk (blk_drew BK670.out)
         replace BK671 := Aside0.mk (blk_drew BK671.out)
         replace BK678 := Aside0.mk (blk_drew BK678.out)
         replace BK684 := Aside0.mk (blk_drew BK684.out)
         replace HB := Aside0.mk (below_drew1 HB.out)
         refine start_ (n := 22) (S := fun w' => w'.cell? ⟨gb678, 0, none⟩ = some (.bool t673) ∧ w'.cell? ⟨gb678, 1, none⟩ = some (.int .u64 t674) ∧ w'.cell? ⟨gb678, 2, none⟩ = some (.int .u64 t675) ∧ w'.cell? ⟨gb678, 3, none⟩ = some (.int .i64 t676) ∧ w'.cell? ⟨gb684, 0, none⟩ = some (.bool t679) ∧ w'.cell? ⟨gb684, 1, none⟩ = some (.int .u64 t680) ∧ w'.cell? ⟨gb684, 2, none⟩ = some (.int .u64 t681) ∧ w'.cell? ⟨gb684, 3, none⟩ = some (.int .i64 t682) ∧ w'.cell? ⟨gb669, 0, none⟩ = some (.int .u64 a2_0) ∧ w'.cell? ⟨gb669, 1, none⟩ = some (.int .u64 a2_1) ∧ w'.cell? ⟨gb670, 0, none⟩ = some (.int .u64 a3_0) ∧ w'.cell? ⟨gb670, 1, none⟩ = some (.int .u64 a3_1) ∧ w'.cell? ⟨gb668, 0, none⟩ = some (.bool a0_0) ∧ w'.cell? ⟨gb668, 1, none⟩ = some (.int .u64 a0_1) ∧ w'.cell? ⟨gb668, 2, none⟩ = some (.int .u64 a0_2) ∧ w'.cell? ⟨gb668, 3, none⟩ = some (.int .i64 a0_3)) (ds := []) (bm_ 22 0) (by kernel_rfl) rfl rfl ⟨kc_ BK678 0, kc_ BK678 1, kc_ BK678 2, kc_ BK678 3, kc_ BK684 0, kc_ BK684 1, kc_ BK684 2, kc_ BK684 3, kc_ BK669 0, kc_ BK669 1, kc_ BK670 0, kc_ BK670 1, kc_ BK668 0, kc_ BK668 1, kc_ BK668 2, kc_ BK668 3⟩ (fun hHeld => ?_); refine with_tabW platbooklaw04_CarveParts.tab6 platbooklaw04_CarveParts.bits6 (fun HT_ HW_ => ?_)
         generalize wc.drew = w51 at BK668 BK669 BK670 BK671 BK678 BK684 HB hHeld ⊢
         refine ta_ 0 (some 41) (bm_ 22 1) rfl HT_ HW_ ⟨by rfl, by rintro w' ⟨s0, s1, s2, s3, s4, s5, s6, s7, s8, s9, s10, s11, s12, s13, s14, s15⟩; go_simp; with_reducible rfl⟩ hHeld ?_
         refine ta_ 1 (some 42) (bm_ 22 3) rfl HT_ HW_ ⟨by rfl, by rintro w' ⟨s0, s1, s2, s3, s4, s5, s6, s7, s8, s9, s10, s11, s12, s13, s14, s15⟩; go_simp; with_reducible rfl⟩ hHeld ?_
         refine ta_ 3 (some 44) (bm_ 22 11) rfl HT_ HW_ ⟨by rfl, by rintro w' ⟨s0, s1, s2, s3, s4, s5, s6, s7, s8, s9, s10, s11, s12, s13, s14, s15⟩; go_simp; with_reducible rfl⟩ hHeld ?_
         refine ta_ 4 (some 45) (bm_ 22 27) rfl HT_ HW_ ⟨by rfl, by rintro w' ⟨s0, s1, s2, s3, s4, s5, s6, s7, s8, s9, s10, s11, s12, s13, s14, s15⟩; go_simp; with_reducible rfl⟩ hHeld ?_
         refine pu_ 5 (some 46) (bm_ 22 59) rfl HT_ ⟨by rfl, by intro w'; go_simp; with_reducible rfl⟩ ?_
         refine one_ (i := 2) (N := some 43) (bm_ 22 63) rfl rfl (one_of HT_.out (by kernel_rfl)) (by decide) (fun K hK => ?_)
         refine gr_ Tryz.func43 #[.agg #[.bool t673, .int .u64 t674, .int .u64 t675, .int .i64 t676], .agg #[.bool t679, .int .u64 t680, .int .u64 t681, .int .i64 t682]] ?_
         with_reducible refine (prefix_Overlap.calls kj9 t673 t674 t675 t676 t679 t680 t681 t682 t685 _ A44.out).mono ?_
         rintro e w52 ⟨rfl, hb⟩
         refine ⟨_, rfl, ?_⟩
         replace BK668 := bb_ BK668 hb
         replace BK669 := bb_ BK669 hb
         replace BK670 := bb_ BK670 hb
         replace BK671 := bb_ BK671 hb
         replace BK678 := bb_ BK678 hb
         replace BK684 := bb_ BK684 hb
         replace HB := bs_ HB hb
         (try clear hb)
         (try clear hb2)
         (try clear hk)
         (try clear hi)
         refine hK.out _ _ ⟨kc_ BK678 0, kc_ BK678 1, kc_ BK678 2, kc_ BK678 3, kc_ BK684 0, kc_ BK684 1, kc_ BK684 2, kc_ BK684 3, kc_ BK669 0, kc_ BK669 1, kc_ BK670 0, kc_ BK670 1, kc_ BK668 0, kc_ BK668 1, kc_ BK668 2, kc_ BK668 3⟩ (fun hHeld => ?_)
         clear hK K
         refine norm_ (a' := ?_) ?_ ?_
         rotate_left
         ·
          show Act.put _ (some 43) _ = _
          simp only [Act.put, List.setIfInBounds_toArray, List.set_cons_zero, List.set_cons_succ, i64_w, i32_w]
          rfl
         refine pu_ 6 (some 47) (bm_ 22 127) rfl HT_ ⟨by rfl, by intro w'; go_simp; with_reducible rfl⟩ ?_
         refine pu_ 7 (some 48) (bm_ 22 255) rfl HT_ ⟨by rfl, by intro w'; go_simp; with_reducible rfl⟩ ?_
         refine ta_ 8 (some 49) (bm_ 22 511) rfl HT_ HW_ ⟨by rfl, by rintro w' ⟨s0, s1, s2, s3, s4, s5, s6, s7, s8, s9, s10, s11, s12, s13, s14, s15⟩; go_simp; with_reducible rfl⟩ hHeld ?_
         refine ta_ 9 (some 50) (bm_ 22 1023) rfl HT_ HW_ ⟨by rfl, by rintro w' ⟨s0, s1, s2, s3, s4, s5, s6, s7, s8, s9, s10, s11, s12, s13, s14, s15⟩; go_simp; with_reducible rfl⟩ hHeld ?_
         refine ta_ 11 (some 52) (bm_ 22 3071) rfl HT_ HW_ ⟨by rfl, by rintro w' ⟨s0, s1, s2, s3, s4, s5, s6, s7, s8, s9, s10, s11, s12, s13, s14, s15⟩; go_simp; with_reducible rfl⟩ hHeld ?_
         refine ta_ 12 (some 53) (bm_ 22 7167) rfl HT_ HW_ ⟨by rfl, by rintro w' ⟨s0, s1, s2, s3, s4, s5, s6, s7, s8, s9, s10, s11, s12, s13, s14, s15⟩; go_simp; with_reducible rfl⟩ hHeld ?_
         refine one_ (i := 10) (N := some 51) (bm_ 22 8191) rfl rfl (one_of HT_.out (by kernel_rfl)) (by decide) (fun K hK => ?_)
         refine gr_ Tryz.func45 #[.agg #[.bool t673, .int .u64 t674, .int .u64 t675, .int .i64 t676], .agg #[.bool t679, .int .u64 t680, .int .u64 t681, .int .i64 t682]] ?_
         with_reducible refine (prefix_Cmp.calls kj9 t673 t674 t675 t676 t679 t680 t681 t682 t686 _ A46.out).mono ?_
         rintro e w53 ⟨rfl, hb⟩
         refine ⟨_, rfl, ?_⟩
         replace BK668 := bb_ BK668 hb
         replace BK669 := bb_ BK669 hb
         replace BK670 := bb_ BK670 hb
         replace BK671 := bb_ BK671 hb
         replace BK678 := bb_ BK678 hb
         replace BK684 := bb_ BK684 hb
         replace HB := bs_ HB hb
         (try clear hb)
         (try clear hb2)
         (try clear hk)
         (try clear hi)
         refine hK.out _ _ ⟨kc_ BK678 0, kc_ BK678 1, kc_ BK678 2, kc_ BK678 3, kc_ BK684 0, kc_ BK684 1, kc_ BK684 2, kc_ BK684 3, kc_ BK669 0, kc_ BK669 1, kc_ BK670 0, kc_ BK670 1, kc_ BK668 0, kc_ BK668 1, kc_ BK668 2, kc_ BK668 3⟩ (fun hHeld => ?_)
         clear hK K
         refine norm_ (a' := ?_) ?_ ?_
         rotate_left
         ·
          show Act.put _ (some 51) _ = _
          simp only [Act.put, List.setIfInBounds_toArray, List.set_cons_zero, List.set_cons_succ, i64_w, i32_w]
          rfl
         refine one_ (i := 13) (N := some 54) (bm_ 22 16383) rfl rfl (one_of HT_.out (by kernel_rfl)) (by decide) (fun K hK => ?_)
         refine gr_ Tryz.func53 #[.agg #[.int .u64 a2_0, .int .u64 a2_1], .agg #[.int .u64 a3_0, .int .u64 a3_1]] ?_
         with_reducible refine (num_Cmp.calls a2_0 a2_1 a3_0 a3_1 t687 _ A47.out).mono ?_
         rintro e w54 ⟨rfl, hb⟩
         refine ⟨_, rfl, ?_⟩
         replace BK668 := bb_ BK668 hb
         replace BK669 := bb_ BK669 hb
         replace BK670 := bb_ BK670 hb
         replace BK671 := bb_ BK671 hb
         replace BK678 := bb_ BK678 hb
         replace BK684 := bb_ BK684 hb
         replace HB := bs_ HB hb
         (try clear hb)
         (try clear hb2)
         (try clear hk)
         (try clear hi)
         refine hK.out _ _ ⟨kc_ BK678 0, kc_ BK678 1, kc_ BK678 2, kc_ BK678 3, kc_ BK684 0, kc_ BK684 1, kc_ BK684 2, kc_ BK684 3, kc_ BK669 0, kc_ BK669 1, kc_ BK670 0, kc_ BK670 1, kc_ BK668 0, kc_ BK668 1, kc_ BK668 2, kc_ BK668 3⟩ (fun hHeld => ?_)
         clear hK K
         refine norm_ (a' := ?_) ?_ ?_
         rotate_left
         ·
          show Act.put _ (some 54) _ = _
          simp only [Act.put, List.setIfInBounds_toArray, List.set_cons_zero, List.set_cons_succ, i64_w, i32_w]
          rfl
         refine pu_ 14 (some 55) (bm_ 22 32767) rfl HT_ ⟨by rfl, by intro w'; go_simp; with_reducible rfl⟩ ?_
         refine pu_ 15 (some 56) (bm_ 22 65535) rfl HT_ ⟨by rfl, by intro w'; go_simp; with_reducible rfl⟩ ?_
         refine pu_ 16 (some 57) (bm_ 22 131071) rfl HT_ ⟨by rfl, by intro w'; go_simp; with_reducible rfl⟩ ?_
         refine ta_ 17 (some 58) (bm_ 22 262143) rfl HT_ HW_ ⟨by rfl, by rintro w' ⟨s0, s1, s2, s3, s4, s5, s6, s7, s8, s9, s10, s11, s12, s13, s14, s15⟩; go_simp; with_reducible rfl⟩ hHeld ?_
         refine ta_ 18 (some 59) (bm_ 22 524287) rfl HT_ HW_ ⟨by rfl, by rintro w' ⟨s0, s1, s2, s3, s4, s5, s6, s7, s8, s9, s10, s11, s12, s13, s14, s15⟩; go_simp; with_reducible rfl⟩ hHeld ?_
         refine one_ (i := 19) (N := some 60) (bm_ 22 1048575) rfl rfl (one_of HT_.out (by kernel_rfl)) (by decide) (fun K hK => ?_)
         refine gr_ Tryz.func32 #[.agg #[.bool t673, .int .u64 t674, .int .u64 t675, .int .i64 t676], .agg #[.bool a0_0, .int .u64 a0_1, .int .u64 a0_2, .int .i64 a0_3]] ?_
         with_reducible refine (prefix_Within.calls kj9 t673 t674 t675 t676 a0_0 a0_1 a0_2 a0_3 true _ A49.out).mono ?_
         rintro e w55 ⟨rfl, hb⟩
         refine ⟨_, rfl, ?_⟩
         replace BK668 := bb_ BK668 hb
         replace BK669 := bb_ BK669 hb
         replace BK670 := bb_ BK670 hb
         replace BK671 := bb_ BK671 hb
         replace BK678 := bb_ BK678 hb
         replace BK684 := bb_ BK684 hb
         replace HB := bs_ HB hb
         (try clear hb)
         (try clear hb2)
         (try clear hk)
         (try clear hi)
         refine hK.out _ _ ⟨kc_ BK678 0, kc_ BK678 1, kc_ BK678 2, kc_ BK678 3, kc_ BK684 0, kc_ BK684 1, kc_ BK684 2, kc_ BK684 3, kc_ BK669 0, kc_ BK669 1, kc_ BK670 0, kc_ BK670 1, kc_ BK668 0, kc_ BK668 1, kc_ BK668 2, kc_ BK668 3⟩ (fun hHeld => ?_)
         clear hK K
         refine norm_ (a' := ?_) ?_ ?_
         rotate_left
         ·
          show Act.put _ (some 60) _ = _
          simp only [Act.put, List.setIfInBounds_toArray, List.set_cons_zero, List.set_cons_succ, i64_w, i32_w]
          rfl
         refine pu_ 20 (some 61) (bm_ 22 2097151) rfl HT_ ⟨by rfl, by intro w'; go_simp; with_reducible rfl⟩ ?_
         refine pu_ 21 (some 62) (bm_ 22 4194303) rfl HT_ ⟨by rfl, by intro w'; go_simp; with_reducible rfl⟩ ?_
         refine done_ (done_of HT_.out (by kernel_rfl)) ?_
         try go_wp2
         go_meet
         case rel => exact ⟨_, H', ⟨by have := HJ9.out; first | omega | exact Nat.le_refl _⟩, ⟨by refine pw_ ?_; exact BK668.out⟩, ⟨by refine pw_ ?_; exact BK669.out⟩, ⟨by refine pw_ ?_; exact BK670.out⟩, ⟨by refine pw_ ?_; exact BK671.out⟩, ⟨by refine pw_ ?_; exact BK678.out⟩, ⟨by refine pw_ ?_; exact BK684.out⟩, ⟨pb_ HB⟩⟩
        ·
         replace c50 := Bool.eq_false_iff.mpr c50
         subst c50
         have H1 : (some false) = some r := by rw [if_neg (show ¬ (false = true) by decide)] at H; exact H
         clear H
         have H := H1
         clear H1
         obtain rfl := Option.some.inj H
         exact absurd HRT.out (by decide)
       ·
        rw [if_neg c48] at H
        have c48b0 : (t686 == t687) = false := beq_eq_false_iff_ne.mpr c48
        have c48b1 : (t686 != t687) = true := bne_iff_ne.mpr c48
        obtain rfl := Option.some.inj H
        exact absurd HRT.out (by decide)
     ·
      replace c43 := Bool.eq_false_iff.mpr c43
      subst c43
      have H1 : (platbooklaw04_CarveParts.j1 kj9 a1 a0_0 a0_1 a0_2 a0_3 a4_0 a4_1 a4_2) = some r := by rw [if_neg (show ¬ (false = true) by decide)] at H; exact H
      clear H
      have H := H1
      clear H1
      have H' := Aside0.mk H
      clear H
      go_wp2
      go_meet
      case rel => exact ⟨_, H', ⟨by have := HJ9.out; first | omega | exact Nat.le_refl _⟩, ⟨by refine pw_ ?_; exact BK668.out⟩, ⟨by refine pw_ ?_; exact BK669.out⟩, ⟨by refine pw_ ?_; exact BK670.out⟩, ⟨by refine pw_ ?_; exact BK671.out⟩, ⟨by refine pw_ ?_; exact BK678.out⟩, ⟨by refine pw_ ?_; exact BK684.out⟩, ⟨pb_ HB⟩⟩
    case rest =>
     clear HC42
     try clear c1
     try clear c2
     try clear p2
     try clear c3
     try clear c4
     try clear c5
     try clear c7
     try clear c9
     try clear c16
     try clear c17
     try clear c18
     try clear c20
     try clear c21
     try clear c25
     try clear c26
     try clear c27
     try clear c28
     try clear c31
     try clear c32
     try clear c35
     try clear c36
     try clear c37
     try clear c38
     try clear c39
     try clear c41
     try clear c41b0
     try clear c41b1
     try clear c43
     try clear c45
     try clear c45b0
     try clear c45b1
     try clear c45b2
     try clear c46
     try clear c48
     try clear c48b0
     try clear c48b1
     try clear c49
     try clear c50
     try clear c53
     try clear hcz19_0
     try clear hcz19_1
     try clear hcz19_2
     try clear hcz19_3
     try clear hcz22_0
     try clear hcz22_1
     try clear hcz29_0
     try clear hcz29_1
     try clear hcz29_2
     try clear hcz29_3
     try clear hcz30_0
     try clear hcz30_1
     try clear hcz30_2
     try clear hcz30_3
     try clear hcz32_0
     try clear hcz32_1
     try clear hcz40_0
     try clear hcz40_1
     try clear hcz40_2
     try clear hcz40_3
     try clear hfz19_0
     try clear hfz19_1
     try clear hfz19_2
     try clear hfz19_3
     try clear hfz22_0
     try clear hfz22_1
     try clear hfz29_0
     try clear hfz29_1
     try clear hfz29_2
     try clear hfz29_3
     try clear hfz30_0
     try clear hfz30_1
     try clear hfz30_2
     try clear hfz30_3
     try clear hfz32_0
     try clear hfz32_1
     try clear hfz40_0
     try clear hfz40_1
     try clear hfz40_2
     try clear hfz40_3
     try clear p2
     obtain ⟨kq, HA, HJ41, BK668, BK669, BK670, BK671, BK678, BK684, HB⟩ := hcut
     cases kq with
     | zero => exact absurd HA.out (by simp [platbooklaw04_CarveParts.j1])
     | succ kj41 =>
      have H := HA.out
      clear HA
      simp only [platbooklaw04_CarveParts.j1] at H
      replace H := Option.bind_eq_some_iff.mp H
      obtain ⟨⟨t689, t690, t691⟩, A560, H⟩ := H
      replace H : (if t691 = 0 then ((platbookref04_Cuts.f kj41 a0_0 a0_1 a0_2 a0_3 a1).bind fun t693 => (platbooklaw04_CarveParts.j2 kj41 a1 (!t693) a0_0 a0_1 a0_2 a0_3 a4_0 a4_1 a4_2 t689 t690)) else (platbooklaw04_CarveParts.j2 kj41 a1 true a0_0 a0_1 a0_2 a0_3 a4_0 a4_1 a4_2 t689 t690)) = some r := H
      have A56 := Aside0.mk A560
      clear A560
      have HC57 := Aside0.mk H
      clear H
      have hnb58 := NB668_669.out
      have hnc58 := NB669_668.out
      have hnb59 := NB668_670.out
      have hnc59 := NB670_668.out
      have hnb60 := NB668_671.out
      have hnc60 := NB671_668.out
      have hnb61 := NB668_678.out
      have hnc61 := NB678_668.out
      have hnb62 := NB668_684.out
      have hnc62 := NB684_668.out
      obtain ⟨hcz63_0, hcz63_1, hcz63_2, hcz63_3, hfz63_0, hfz63_1, hfz63_2, hfz63_3⟩ := c4_ BK668
      have hnb64 := NB671_669.out
      have hnc64 := NB669_671.out
      have hnb65 := NB671_670.out
      have hnc65 := NB670_671.out
      have hnb66 := NB671_678.out
      have hnc66 := NB678_671.out
      have hnb67 := NB671_684.out
      have hnc67 := NB684_671.out
      obtain ⟨hcz68_0, hcz68_1, hcz68_2, hfz68_0, hfz68_1, hfz68_2⟩ := c3_ BK671
      go_upto_region 9 with (first | ((with_reducible refine gate_callee (f := 54) rfl ?_); refine gl_ (some 66) Tryz.func54 #[.agg #[.bool a0_0, .int .u64 a0_1, .int .u64 a0_2, .int .i64 a0_3], .agg #[.bool a4_0, .int .u64 a4_1, .int .u64 a4_2]] ?_; (with_reducible refine (carve_Number.calls kj41 a0_0 a0_1 a0_2 a0_3 a4_0 a4_1 a4_2 t689 t690 t691 _ A56.out).mono ?_); rintro e w69 ⟨rfl, hb⟩; refine ⟨_, rfl, ?_⟩; replace BK668 := bb_ BK668 hb; replace BK669 := bb_ BK669 hb; replace BK670 := bb_ BK670 hb; replace BK671 := bb_ BK671 hb; replace BK678 := bb_ BK678 hb; replace BK684 := bb_ BK684 hb; replace HB := bs_ HB hb; (try clear hb); (try clear hb2); (try clear hk); (try clear hi)) | ((with_reducible refine gate_dst (N := 15) rfl ?_); refine bx_ 15 #[.int .u64 0, .int .u64 0] 24 ?_; intro gb692 hg w70 hbox hb; have BK692 := Aside0.mk (hbox); have GW692 := gw_ HB hg; have GE692 := gw_ HB hg; have NB668_692 := nl_ BK668 hg; have NB692_668 := ng_ BK668 hg; have NB669_692 := nl_ BK669 hg; have NB692_669 := ng_ BK669 hg; have NB670_692 := nl_ BK670 hg; have NB692_670 := ng_ BK670 hg; have NB671_692 := nl_ BK671 hg; have NB692_671 := ng_ BK671 hg; have NB678_692 := nl_ BK678 hg; have NB692_678 := ng_ BK678 hg; have NB684_692 := nl_ BK684 hg; have NB692_684 := ng_ BK684 hg; replace BK668 := bb_ BK668 hb; replace BK669 := bb_ BK669 hb; replace BK670 := bb_ BK670 hb; replace BK671 := bb_ BK671 hb; replace BK678 := bb_ BK678 hb; replace BK684 := bb_ BK684 hb; replace HB := bs_ HB hb; clear hb hbox hg; have hnb71 := NB692_668.out; have hnc71 := NB668_692.out; have hnb72 := NB692_669.out; have hnc72 := NB669_692.out; have hnb73 := NB692_670.out; have hnc73 := NB670_692.out; have hnb74 := NB692_671.out; have hnc74 := NB671_692.out; have hnb75 := NB692_678.out; have hnc75 := NB678_692.out; have hnb76 := NB692_684.out; have hnc76 := NB684_692.out; obtain ⟨hcz77_0, hcz77_1, hfz77_0, hfz77_1⟩ := c2_ BK692))
      (try simp only [Act.put, List.setIfInBounds_toArray, List.set_cons_zero, List.set_cons_succ])
      go_cut [76] (fun v76 wc => ∃ (kq : Nat) (x76_56 : Bool), v76 = .bool x76_56 ∧ Aside0 (platbooklaw04_CarveParts.j2 kq a1 x76_56 a0_0 a0_1 a0_2 a0_3 a4_0 a4_1 a4_2 t689 t690 = some r) ∧ Aside0 (kq ≤ kj41) ∧ Aside0 (wc.heap[gb668]? = some (.cells #[.bool a0_0, .int .u64 a0_1, .int .u64 a0_2, .int .i64 a0_3] 38 (0, 0))) ∧ Aside0 (wc.heap[gb669]? = some (.cells #[.int .u64 a2_0, .int .u64 a2_1] 24 (0, 0))) ∧ Aside0 (wc.heap[gb670]? = some (.cells #[.int .u64 a3_0, .int .u64 a3_1] 24 (0, 0))) ∧ Aside0 (wc.heap[gb671]? = some (.cells #[.bool a4_0, .int .u64 a4_1, .int .u64 a4_2] 26 (0, 0))) ∧ Aside0 (wc.heap[gb678]? = some (.cells #[.bool t673, .int .u64 t674, .int .u64 t675, .int .i64 t676] 38 (0, 0))) ∧ Aside0 (wc.heap[gb684]? = some (.cells #[.bool t679, .int .u64 t680, .int .u64 t681, .int .i64 t682] 38 (0, 0))) ∧ Aside0 (wc.heap[gb692]? = some (.cells #[.int .u64 t689, .int .u64 t690] 24 (0, 0))) ∧ Aside0 (Below w.heap.size w wc))
      case first =>
       have H := HC57.out
       clear HC57
       by_cases c78 : t691 = 0
       ·
        rw [if_pos c78] at H
        have c78b0 : (t691 == 0) = true := beq_iff_eq.mpr c78
        have c78b1 : (t691 != 0) = false := bne_eq_false_iff_eq.mpr c78
        clear c78
        (first | rw [c78b0] | (simp only [i64_w, i32_w]; rw [c78b0]) | skip)
        replace H := Option.bind_eq_some_iff.mp H
        obtain ⟨t693, A790, H⟩ := H
        replace H : (platbooklaw04_CarveParts.j2 kj41 a1 (!t693) a0_0 a0_1 a0_2 a0_3 a4_0 a4_1 a4_2 t689 t690) = some r := H
        have A79 := Aside0.mk A790
        clear A790
        have H' := Aside0.mk H
        clear H
        have hnb80 := NB668_669.out
        have hnc80 := NB669_668.out
        have hnb81 := NB668_670.out
        have hnc81 := NB670_668.out
        have hnb82 := NB668_671.out
        have hnc82 := NB671_668.out
        have hnb83 := NB668_678.out
        have hnc83 := NB678_668.out
        have hnb84 := NB668_684.out
        have hnc84 := NB684_668.out
        have hnb85 := NB668_692.out
        have hnc85 := NB692_668.out
        obtain ⟨hcz86_0, hcz86_1, hcz86_2, hcz86_3, hfz86_0, hfz86_1, hfz86_2, hfz86_3⟩ := c4_ BK668
        go_wp2_with (first | (go_at_call 55; (with_reducible refine (platbookref04_Cuts.calls kj41 a0_0 a0_1 a0_2 a0_3 a1 t693 _ A79.out).mono ?_); rintro e w87 ⟨rfl, hb⟩; replace BK668 := Aside0.mk (blk_below (g := gb668) (o := .cells #[.bool a0_0, .int .u64 a0_1, .int .u64 a0_2, .int .i64 a0_3] 38 (0, 0)) (by refine pw_ ?_; refine blk_far ?_ NB668_692.out _; refine pw_ ?_; refine blk_far ?_ NB668_692.out _; refine pw_ ?_; exact BK668.out) hb); replace BK669 := Aside0.mk (blk_below (g := gb669) (o := .cells #[.int .u64 a2_0, .int .u64 a2_1] 24 (0, 0)) (by refine pw_ ?_; refine blk_far ?_ NB669_692.out _; refine pw_ ?_; refine blk_far ?_ NB669_692.out _; refine pw_ ?_; exact BK669.out) hb); replace BK670 := Aside0.mk (blk_below (g := gb670) (o := .cells #[.int .u64 a3_0, .int .u64 a3_1] 24 (0, 0)) (by refine pw_ ?_; refine blk_far ?_ NB670_692.out _; refine pw_ ?_; refine blk_far ?_ NB670_692.out _; refine pw_ ?_; exact BK670.out) hb); replace BK671 := Aside0.mk (blk_below (g := gb671) (o := .cells #[.bool a4_0, .int .u64 a4_1, .int .u64 a4_2] 26 (0, 0)) (by refine pw_ ?_; refine blk_far ?_ NB671_692.out _; refine pw_ ?_; refine blk_far ?_ NB671_692.out _; refine pw_ ?_; exact BK671.out) hb); replace BK678 := Aside0.mk (blk_below (g := gb678) (o := .cells #[.bool t673, .int .u64 t674, .int .u64 t675, .int .i64 t676] 38 (0, 0)) (by refine pw_ ?_; refine blk_far ?_ NB678_692.out _; refine pw_ ?_; refine blk_far ?_ NB678_692.out _; refine pw_ ?_; exact BK678.out) hb); replace BK684 := Aside0.mk (blk_below (g := gb684) (o := .cells #[.bool t679, .int .u64 t680, .int .u64 t681, .int .i64 t682] 38 (0, 0)) (by refine pw_ ?_; refine blk_far ?_ NB684_692.out _; refine pw_ ?_; refine blk_far ?_ NB684_692.out _; refine pw_ ?_; exact BK684.out) hb); replace BK692 := Aside0.mk (blk_below (g := gb692) (o := .cells #[.int .u64 t689, .int .u64 t690] 24 (0, 0)) (by refine pw_ ?_; refine blk_put (cs := #[.int .u64 t689, .int .u64 0]) ?_ 1 _ rfl; refine pw_ ?_; refine blk_put (cs := #[.int .u64 0, .int .u64 0]) ?_ 0 _ rfl; refine pw_ ?_; exact BK692.out) hb); replace HB := bs_ HB hb; (try clear hb); (try clear hb2); (try clear hk); (try clear hi)))
        go_meet
        case rel => exact ⟨_, (!t693), (by first | rfl | (simp; done) | (simp [*]; done)), H', ⟨by have := HJ9.out; have := HJ41.out; first | omega | exact Nat.le_refl _⟩, ⟨by refine pw_ ?_; exact BK668.out⟩, ⟨by refine pw_ ?_; exact BK669.out⟩, ⟨by refine pw_ ?_; exact BK670.out⟩, ⟨by refine pw_ ?_; exact BK671.out⟩, ⟨by refine pw_ ?_; exact BK678.out⟩, ⟨by refine pw_ ?_; exact BK684.out⟩, ⟨by refine pw_ ?_; exact BK692.out⟩, ⟨pb_ HB⟩⟩
       ·
        rw [if_neg c78] at H
        have c78b0 : (t691 == 0) = false := beq_eq_false_iff_ne.mpr c78
        have c78b1 : (t691 != 0) = true := bne_iff_ne.mpr c78
        (first | rw [c78b0] | (simp only [i64_w, i32_w]; rw [c78b0]) | skip)
        have H' := Aside0.mk H
        clear H
        go_wp2
        go_meet
        case rel => exact ⟨_, (true), (by first | rfl | (simp; done) | (simp [*]; done)), H', ⟨by have := HJ9.out; have := HJ41.out; first | omega | exact Nat.le_refl _⟩, ⟨by refine pw_ ?_; refine blk_far ?_ NB668_692.out _; refine pw_ ?_; refine blk_far ?_ NB668_692.out _; refine pw_ ?_; exact BK668.out⟩, ⟨by refine pw_ ?_; refine blk_far ?_ NB669_692.out _; refine pw_ ?_; refine blk_far ?_ NB669_692.out _; refine pw_ ?_; exact BK669.out⟩, ⟨by refine pw_ ?_; refine blk_far ?_ NB670_692.out _; refine pw_ ?_; refine blk_far ?_ NB670_692.out _; refine pw_ ?_; exact BK670.out⟩, ⟨by refine pw_ ?_; refine blk_far ?_ NB671_692.out _; refine pw_ ?_; refine blk_far ?_ NB671_692.out _; refine pw_ ?_; exact BK671.out⟩, ⟨by refine pw_ ?_; refine blk_far ?_ NB678_692.out _; refine pw_ ?_; refine blk_far ?_ NB678_692.out _; refine pw_ ?_; exact BK678.out⟩, ⟨by refine pw_ ?_; refine blk_far ?_ NB684_692.out _; refine pw_ ?_; refine blk_far ?_ NB684_692.out _; refine pw_ ?_; exact BK684.out⟩, ⟨by refine pw_ ?_; refine blk_put (cs := #[.int .u64 t689, .int .u64 0]) ?_ 1 _ rfl; refine pw_ ?_; refine blk_put (cs := #[.int .u64 0, .int .u64 0]) ?_ 0 _ rfl; refine pw_ ?_; exact BK692.out⟩, ⟨pb_ HB⟩⟩
      case rest =>
       clear HC57
       try clear c1
       try clear c2
       try clear p2
       try clear c3
       try clear c4
       try clear c5
       try clear c6
       try clear c7
       try clear c8
       try clear c9
       try clear c16
       try clear c17
       try clear c18
       try clear c20
       try clear c21
       try clear c25
       try clear c26
       try clear c27
       try clear c28
       try clear c31
       try clear c32
       try clear c35
       try clear c36
       try clear c37
       try clear c38
       try clear c39
       try clear c41
       try clear c41b0
       try clear c41b1
       try clear c43
       try clear c45
       try clear c45b0
       try clear c45b1
       try clear c45b2
       try clear c46
       try clear c48
       try clear c48b0
       try clear c48b1
       try clear c49
       try clear c50
       try clear c53
       try clear c54
       try clear c58
       try clear c59
       try clear c60
       try clear c61
       try clear c62
       try clear c64
       try clear c65
       try clear c66
       try clear c67
       try clear c71
       try clear c72
       try clear c73
       try clear c74
       try clear c75
       try clear c76
       try clear c78
       try clear c78b0
       try clear c78b1
       try clear c80
       try clear c81
       try clear c82
       try clear c83
       try clear c84
       try clear c85
       try clear hcz19_0
       try clear hcz19_1
       try clear hcz19_2
       try clear hcz19_3
       try clear hcz22_0
       try clear hcz22_1
       try clear hcz29_0
       try clear hcz29_1
       try clear hcz29_2
       try clear hcz29_3
       try clear hcz30_0
       try clear hcz30_1
       try clear hcz30_2
       try clear hcz30_3
       try clear hcz32_0
       try clear hcz32_1
       try clear hcz40_0
       try clear hcz40_1
       try clear hcz40_2
       try clear hcz40_3
       try clear hcz63_0
       try clear hcz63_1
       try clear hcz63_2
       try clear hcz63_3
       try clear hcz68_0
       try clear hcz68_1
       try clear hcz68_2
       try clear hcz77_0
       try clear hcz77_1
       try clear hcz86_0
       try clear hcz86_1
       try clear hcz86_2
       try clear hcz86_3
       try clear hfz19_0
       try clear hfz19_1
       try clear hfz19_2
       try clear hfz19_3
       try clear hfz22_0
       try clear hfz22_1
       try clear hfz29_0
       try clear hfz29_1
       try clear hfz29_2
       try clear hfz29_3
       try clear hfz30_0
       try clear hfz30_1
       try clear hfz30_2
       try clear hfz30_3
       try clear hfz32_0
       try clear hfz32_1
       try clear hfz40_0
       try clear hfz40_1
       try clear hfz40_2
       try clear hfz40_3
       try clear hfz63_0
       try clear hfz63_1
       try clear hfz63_2
       try clear hfz63_3
       try clear hfz68_0
       try clear hfz68_1
       try clear hfz68_2
       try clear hfz77_0
       try clear hfz77_1
       try clear hfz86_0
       try clear hfz86_1
       try clear hfz86_2
       try clear hfz86_3
       try clear p2
       obtain ⟨kq, x76_56, rfl, HA, HJ56, BK668, BK669, BK670, BK671, BK678, BK684, BK692, HB⟩ := hcut
       cases kq with
       | zero => exact absurd HA.out (by simp [platbooklaw04_CarveParts.j2])
       | succ kj56 =>
        have H := HA.out
        clear HA
        simp only [platbooklaw04_CarveParts.j2] at H
        by_cases c88 : x76_56 = true
        ·
         subst c88
         rw [if_pos rfl] at H
         obtain rfl := Option.some.inj H
         go_wp2
         go_ret
         exact ⟨by first | rfl | (simp [errW_none, errW_some] <;> rfl) | (simp [*, errW_none, errW_some] <;> rfl), pb_ HB⟩
        ·
         replace c88 := Bool.eq_false_iff.mpr c88
         subst c88
         have H1 : ((addr_Width.f a4_0 a4_1 a4_2).bind fun t694 => ((num_Shr.f t689 t690 (wrap64 (t694 - a1))).bind fun bt695 => ((carve_Block.f a0_0 a0_1 a0_2 a0_3 a1 bt695.1 bt695.2).bind fun bt697 => (if bt697.2.2.2.2 = 0 then ((prefix_Has.f kj56 bt697.1 bt697.2.1 bt697.2.2.1 bt697.2.2.2.1 a4_0 a4_1 a4_2).bind fun t703 => (some t703)) else (some false))))) = some r := by rw [if_neg (show ¬ (false = true) by decide)] at H; exact H
         clear H
         have H := H1
         clear H1
         replace H := Option.bind_eq_some_iff.mp H
         obtain ⟨t694, A890, H⟩ := H
         replace H : ((num_Shr.f t689 t690 (wrap64 (t694 - a1))).bind fun bt695 => ((carve_Block.f a0_0 a0_1 a0_2 a0_3 a1 bt695.1 bt695.2).bind fun bt697 => (if bt697.2.2.2.2 = 0 then ((prefix_Has.f kj56 bt697.1 bt697.2.1 bt697.2.2.1 bt697.2.2.2.1 a4_0 a4_1 a4_2).bind fun t703 => (some t703)) else (some false)))) = some r := H
         have A89 := Aside0.mk A890
         clear A890
         replace H := Option.bind_eq_some_iff.mp H
         obtain ⟨⟨t695, t696⟩, A900, H⟩ := H
         replace H : ((carve_Block.f a0_0 a0_1 a0_2 a0_3 a1 t695 t696).bind fun bt697 => (if bt697.2.2.2.2 = 0 then ((prefix_Has.f kj56 bt697.1 bt697.2.1 bt697.2.2.1 bt697.2.2.2.1 a4_0 a4_1 a4_2).bind fun t703 => (some t703)) else (some false))) = some r := H
         have A90 := Aside0.mk A900
         clear A900
         replace H := Option.bind_eq_some_iff.mp H
         obtain ⟨⟨t697, t698, t699, t700, t701⟩, A910, H⟩ := H
         replace H : (if t701 = 0 then ((prefix_Has.f kj56 t697 t698 t699 t700 a4_0 a4_1 a4_2).bind fun t703 => (some t703)) else (some false)) = some r := H
         have A91 := Aside0.mk A910
         clear A910
         by_cases c92 : t701 = 0
         ·
          rw [if_pos c92] at H
          have c92b0 : (t701 == 0) = true := beq_iff_eq.mpr c92
          have c92b1 : (t701 != 0) = false := bne_eq_false_iff_eq.mpr c92
          clear c92
          replace H := Option.bind_eq_some_iff.mp H
          obtain ⟨t703, A930, H⟩ := H
          replace H : (some t703) = some r := H
          have A93 := Aside0.mk A930
          clear A930
          obtain rfl := Option.some.inj H
          try go_wp2
          replace BK668 := Aside0.mk (blk_drew BK668.out)
          replace BK669 := Aside0.mk (blk_drew BK669.out)
          replace BK670 := Aside0.mk (blk_drew BK670.out)
          replace BK671 := Aside0.mk (blk_drew BK671.out)
          replace BK678 := Aside0.mk (blk_drew BK678.out)
          replace BK684 := Aside0.mk (blk_drew BK684.out)
          replace BK692 := Aside0.mk (blk_drew BK692.out)
          replace HB := Aside0.mk (below_drew1 HB.out)
          refine start_ (n := 15) (S := fun w' => w'.cell? ⟨gb668, 0, none⟩ = some (.bool a0_0) ∧ w'.cell? ⟨gb668, 1, none⟩ = some (.int .u64 a0_1) ∧ w'.cell? ⟨gb668, 2, none⟩ = some (.int .u64 a0_2) ∧ w'.cell? ⟨gb668, 3, none⟩ = some (.int .i64 a0_3) ∧ w'.cell? ⟨gb692, 0, none⟩ = some (.int .u64 t689) ∧ w'.cell? ⟨gb692, 1, none⟩ = some (.int .u64 t690) ∧ w'.cell? ⟨gb671, 0, none⟩ = some (.bool a4_0) ∧ w'.cell? ⟨gb671, 1, none⟩ = some (.int .u64 a4_1) ∧ w'.cell? ⟨gb671, 2, none⟩ = some (.int .u64 a4_2)) (ds := []) (bm_ 15 0) (by kernel_rfl) rfl rfl ⟨kc_ BK668 0, kc_ BK668 1, kc_ BK668 2, kc_ BK668 3, kc_ BK692 0, kc_ BK692 1, kc_ BK671 0, kc_ BK671 1, kc_ BK671 2⟩ (fun hHeld => ?_); refine with_tabW platbooklaw04_CarveParts.tab11 platbooklaw04_CarveParts.bits11 (fun HT_ HW_ => ?_)
          generalize wc.drew = w94 at BK668 BK669 BK670 BK671 BK678 BK684 BK692 HB hHeld ⊢
          refine pu_ 1 (some 79) (bm_ 15 2) rfl HT_ ⟨by rfl, by intro w'; go_simp; with_reducible rfl⟩ ?_
          refine pu_ 5 (some 83) (bm_ 15 34) rfl HT_ ⟨by rfl, by intro w'; go_simp; with_reducible rfl⟩ ?_
          refine ta_ 0 (some 78) (bm_ 15 35) rfl HT_ HW_ ⟨by rfl, by rintro w' ⟨s0, s1, s2, s3, s4, s5, s6, s7, s8⟩; go_simp; with_reducible rfl⟩ hHeld ?_
          refine ta_ 2 (some 80) (bm_ 15 39) rfl HT_ HW_ ⟨by rfl, by rintro w' ⟨s0, s1, s2, s3, s4, s5, s6, s7, s8⟩; go_simp; with_reducible rfl⟩ hHeld ?_
          refine ta_ 3 (some 81) (bm_ 15 47) rfl HT_ HW_ ⟨by rfl, by rintro w' ⟨s0, s1, s2, s3, s4, s5, s6, s7, s8⟩; go_simp; with_reducible rfl⟩ hHeld ?_
          refine join_ (σ := Nat) 2 (bm_ 15 8191) (fun s_ => [(82, .int .i64 t694), (85, .agg #[.int .u64 t695, .int .u64 t696]), (86, .tuple #[.agg #[.bool t697, .int .u64 t698, .int .u64 t699, .int .i64 t700], .int .i64 t701]), (17, .pointer (some ⟨s_, 0, none⟩)), (84, .int .i64 (wrap64 (t694 - a1))), (77, .tuple #[.agg #[.bool t697, .int .u64 t698, .int .u64 t699, .int .i64 t700], .int .i64 t701]), (87, .agg #[.bool t697, .int .u64 t698, .int .u64 t699, .int .i64 t700]), (88, .int .i64 t701)]) (fun s_ w' => (w'.cell? ⟨gb668, 0, none⟩ = some (.bool a0_0) ∧ w'.cell? ⟨gb668, 1, none⟩ = some (.int .u64 a0_1) ∧ w'.cell? ⟨gb668, 2, none⟩ = some (.int .u64 a0_2) ∧ w'.cell? ⟨gb668, 3, none⟩ = some (.int .i64 a0_3) ∧ w'.cell? ⟨gb692, 0, none⟩ = some (.int .u64 t689) ∧ w'.cell? ⟨gb692, 1, none⟩ = some (.int .u64 t690) ∧ w'.cell? ⟨gb671, 0, none⟩ = some (.bool a4_0) ∧ w'.cell? ⟨gb671, 1, none⟩ = some (.int .u64 a4_1) ∧ w'.cell? ⟨gb671, 2, none⟩ = some (.int .u64 a4_2)) ∧ (w'.heap[gb668]? = some (.cells #[.bool a0_0, .int .u64 a0_1, .int .u64 a0_2, .int .i64 a0_3] 38 (0, 0))) ∧ (w'.heap[gb669]? = some (.cells #[.int .u64 a2_0, .int .u64 a2_1] 24 (0, 0))) ∧ (w'.heap[gb670]? = some (.cells #[.int .u64 a3_0, .int .u64 a3_1] 24 (0, 0))) ∧ (w'.heap[gb671]? = some (.cells #[.bool a4_0, .int .u64 a4_1, .int .u64 a4_2] 26 (0, 0))) ∧ (w'.heap[gb678]? = some (.cells #[.bool t673, .int .u64 t674, .int .u64 t675, .int .i64 t676] 38 (0, 0))) ∧ (w'.heap[gb684]? = some (.cells #[.bool t679, .int .u64 t680, .int .u64 t681, .int .i64 t682] 38 (0, 0))) ∧ (w'.heap[gb692]? = some (.cells #[.int .u64 t689, .int .u64 t690] 24 (0, 0))) ∧ (w'.heap[s_]? = some (.cells #[.bool false, .int .u64 0, .int .u64 0, .int .i64 0] 38 (0, 0))) ∧ (w.heap.size ≤ s_) ∧ (w.heap.size ≤ s_) ∧ (gb668 ≠ s_) ∧ (s_ ≠ gb668) ∧ (gb669 ≠ s_) ∧ (s_ ≠ gb669) ∧ (gb670 ≠ s_) ∧ (s_ ≠ gb670) ∧ (gb671 ≠ s_) ∧ (s_ ≠ gb671) ∧ (gb678 ≠ s_) ∧ (s_ ≠ gb678) ∧ (gb684 ≠ s_) ∧ (s_ ≠ gb684) ∧ (gb692 ≠ s_) ∧ (s_ ≠ gb692) ∧ (Below w.heap.size w w')) ?_ ?_
          rotate_left
          ·
           intro hCont
           refine two_ (i := 4) (j := 12) (Ni := some 82) (Nj := some 17) (bm_ 15 63) (bm_ 15 4143) rfl rfl rfl rfl (two_of HT_.out (by kernel_rfl)) (by decide) (by decide) (fun K hK => ?_) (fun K hK => ?_)
           ·
            skip
            refine gr_ Tryz.func22 #[.agg #[.bool a4_0, .int .u64 a4_1, .int .u64 a4_2]] ?_
            with_reducible refine (addr_Width.calls a4_0 a4_1 a4_2 t694 _ A89.out).mono ?_
            rintro e w95 ⟨rfl, hb⟩
            refine ⟨_, rfl, ?_⟩
            replace BK668 := bb_ BK668 hb
            replace BK669 := bb_ BK669 hb
            replace BK670 := bb_ BK670 hb
            replace BK671 := bb_ BK671 hb
            replace BK678 := bb_ BK678 hb
            replace BK684 := bb_ BK684 hb
            replace BK692 := bb_ BK692 hb
            replace HB := bs_ HB hb
            (try clear hb)
            (try clear hb2)
            (try clear hk)
            (try clear hi)
            refine hK.out _ _ ⟨kc_ BK668 0, kc_ BK668 1, kc_ BK668 2, kc_ BK668 3, kc_ BK692 0, kc_ BK692 1, kc_ BK671 0, kc_ BK671 1, kc_ BK671 2⟩ (fun hHeld => ?_)
            clear hK K
            refine norm_ (a' := ?_) ?_ ?_
            rotate_left
            ·
             show Act.put _ (some 82) _ = _
             simp only [Act.put, List.setIfInBounds_toArray, List.set_cons_zero, List.set_cons_succ, i64_w, i32_w]
             rfl
            refine pu_ 6 (some 84) (bm_ 15 127) rfl HT_ ⟨by rfl, by intro w'; go_simp; with_reducible rfl⟩ ?_
            refine two_ (i := 7) (j := 12) (Ni := some 85) (Nj := some 17) (bm_ 15 255) (bm_ 15 4223) rfl rfl rfl rfl (two_of HT_.out (by kernel_rfl)) (by decide) (by decide) (fun K hK => ?_) (fun K hK => ?_)
            ·
             skip
             refine gr_ Tryz.func56 #[.agg #[.int .u64 t689, .int .u64 t690], .int .i64 (wrap64 (t694 - a1))] ?_
             with_reducible refine (num_Shr.calls t689 t690 (wrap64 (t694 - a1)) t695 t696 _ A90.out).mono ?_
             rintro e w96 ⟨rfl, hb⟩
             refine ⟨_, rfl, ?_⟩
             replace BK668 := bb_ BK668 hb
             replace BK669 := bb_ BK669 hb
             replace BK670 := bb_ BK670 hb
             replace BK671 := bb_ BK671 hb
             replace BK678 := bb_ BK678 hb
             replace BK684 := bb_ BK684 hb
             replace BK692 := bb_ BK692 hb
             replace HB := bs_ HB hb
             (try clear hb)
             (try clear hb2)
             (try clear hk)
             (try clear hi)
             refine hK.out _ _ ⟨kc_ BK668 0, kc_ BK668 1, kc_ BK668 2, kc_ BK668 3, kc_ BK692 0, kc_ BK692 1, kc_ BK671 0, kc_ BK671 1, kc_ BK671 2⟩ (fun hHeld => ?_)
             clear hK K
             refine norm_ (a' := ?_) ?_ ?_
             rotate_left
             ·
              show Act.put _ (some 85) _ = _
              simp only [Act.put, List.setIfInBounds_toArray, List.set_cons_zero, List.set_cons_succ, i64_w, i32_w]
              rfl
             refine two_ (i := 8) (j := 12) (Ni := some 86) (Nj := some 17) (bm_ 15 511) (bm_ 15 4351) rfl rfl rfl rfl (two_of HT_.out (by kernel_rfl)) (by decide) (by decide) (fun K hK => ?_) (fun K hK => ?_)
             ·
              skip
              refine gr_ Tryz.func49 #[.agg #[.bool a0_0, .int .u64 a0_1, .int .u64 a0_2, .int .i64 a0_3], .int .i64 a1, .agg #[.int .u64 t695, .int .u64 t696]] ?_
              with_reducible refine (carve_Block.calls a0_0 a0_1 a0_2 a0_3 a1 t695 t696 t697 t698 t699 t700 t701 _ A91.out).mono ?_
              rintro e w97 ⟨rfl, hb⟩
              refine ⟨_, rfl, ?_⟩
              replace BK668 := bb_ BK668 hb
              replace BK669 := bb_ BK669 hb
              replace BK670 := bb_ BK670 hb
              replace BK671 := bb_ BK671 hb
              replace BK678 := bb_ BK678 hb
              replace BK684 := bb_ BK684 hb
              replace BK692 := bb_ BK692 hb
              replace HB := bs_ HB hb
              (try clear hb)
              (try clear hb2)
              (try clear hk)
              (try clear hi)
              refine hK.out _ _ ⟨kc_ BK668 0, kc_ BK668 1, kc_ BK668 2, kc_ BK668 3, kc_ BK692 0, kc_ BK692 1, kc_ BK671 0, kc_ BK671 1, kc_ BK671 2⟩ (fun hHeld => ?_)
              clear hK K
              refine norm_ (a' := ?_) ?_ ?_
              rotate_left
              ·
               show Act.put _ (some 86) _ = _
               simp only [Act.put, List.setIfInBounds_toArray, List.set_cons_zero, List.set_cons_succ, i64_w, i32_w]
               rfl
              refine pu_ 9 (some 77) (bm_ 15 1023) rfl HT_ ⟨by rfl, by intro w'; go_simp; with_reducible rfl⟩ ?_
              refine pu_ 10 (some 87) (bm_ 15 2047) rfl HT_ ⟨by rfl, by intro w'; go_simp; with_reducible rfl⟩ ?_
              refine pu_ 11 (some 88) (bm_ 15 4095) rfl HT_ ⟨by rfl, by intro w'; go_simp; with_reducible rfl⟩ ?_
              refine one_ (i := 12) (N := some 17) (bm_ 15 8191) rfl rfl (one_of HT_.out (by kernel_rfl)) (by decide) (fun K hK => ?_)
              refine box_step ?hg (N := 17) ?hd (cs := #[.bool false, .int .u64 0, .int .u64 0, .int .i64 0]) (t := 38) ?hr ?_; (case hd => rfl); (case hg => rfl); (case hr => first | (go_simp; done) | (go_simp; rfl))
              intro gb702 hg w98 hbox hb
              have BK702 := Aside0.mk (hbox)
              have GW702 := gw_ HB hg
              have GE702 := gw_ HB hg
              have NB668_702 := nl_ BK668 hg
              have NB702_668 := ng_ BK668 hg
              have NB669_702 := nl_ BK669 hg
              have NB702_669 := ng_ BK669 hg
              have NB670_702 := nl_ BK670 hg
              have NB702_670 := ng_ BK670 hg
              have NB671_702 := nl_ BK671 hg
              have NB702_671 := ng_ BK671 hg
              have NB678_702 := nl_ BK678 hg
              have NB702_678 := ng_ BK678 hg
              have NB684_702 := nl_ BK684 hg
              have NB702_684 := ng_ BK684 hg
              have NB692_702 := nl_ BK692 hg
              have NB702_692 := ng_ BK692 hg
              replace BK668 := bb_ BK668 hb
              replace BK669 := bb_ BK669 hb
              replace BK670 := bb_ BK670 hb
              replace BK671 := bb_ BK671 hb
              replace BK678 := bb_ BK678 hb
              replace BK684 := bb_ BK684 hb
              replace BK692 := bb_ BK692 hb
              replace HB := bs_ HB hb
              clear hb hbox hg
              refine hK.out _ _ ⟨kc_ BK668 0, kc_ BK668 1, kc_ BK668 2, kc_ BK668 3, kc_ BK692 0, kc_ BK692 1, kc_ BK671 0, kc_ BK671 1, kc_ BK671 2⟩ (fun hHeld => ?_)
              clear hK K
              refine norm_ (a' := ?_) ?_ ?_
              rotate_left
              ·
               show Act.put _ (some 17) _ = _
               simp only [Act.put, List.setIfInBounds_toArray, List.set_cons_zero, List.set_cons_succ, i64_w, i32_w]
               rfl
              exact norm_ (by simp only [putAll, Act.put, List.setIfInBounds_toArray, List.set_cons_zero, List.set_cons_succ]) (hCont (gb702) _ ⟨hHeld, (pk_ BK668), (pk_ BK669), (pk_ BK670), (pk_ BK671), (pk_ BK678), (pk_ BK684), (pk_ BK692), (pk_ BK702), GW702.out, GE702.out, NB668_702.out, NB702_668.out, NB669_702.out, NB702_669.out, NB670_702.out, NB702_670.out, NB671_702.out, NB702_671.out, NB678_702.out, NB702_678.out, NB684_702.out, NB702_684.out, NB692_702.out, NB702_692.out, (pb_ HB)⟩)
             ·
              skip
              refine box_step ?hg (N := 17) ?hd (cs := #[.bool false, .int .u64 0, .int .u64 0, .int .i64 0]) (t := 38) ?hr ?_; (case hd => rfl); (case hg => rfl); (case hr => first | (go_simp; done) | (go_simp; rfl))
              intro gb702 hg w97 hbox hb
              have BK702 := Aside0.mk (hbox)
              have GW702 := gw_ HB hg
              have GE702 := gw_ HB hg
              have NB668_702 := nl_ BK668 hg
              have NB702_668 := ng_ BK668 hg
              have NB669_702 := nl_ BK669 hg
              have NB702_669 := ng_ BK669 hg
              have NB670_702 := nl_ BK670 hg
              have NB702_670 := ng_ BK670 hg
              have NB671_702 := nl_ BK671 hg
              have NB702_671 := ng_ BK671 hg
              have NB678_702 := nl_ BK678 hg
              have NB702_678 := ng_ BK678 hg
              have NB684_702 := nl_ BK684 hg
              have NB702_684 := ng_ BK684 hg
              have NB692_702 := nl_ BK692 hg
              have NB702_692 := ng_ BK692 hg
              replace BK668 := bb_ BK668 hb
              replace BK669 := bb_ BK669 hb
              replace BK670 := bb_ BK670 hb
              replace BK671 := bb_ BK671 hb
              replace BK678 := bb_ BK678 hb
              replace BK684 := bb_ BK684 hb
              replace BK692 := bb_ BK692 hb
              replace HB := bs_ HB hb
              clear hb hbox hg
              refine hK.out _ _ ⟨kc_ BK668 0, kc_ BK668 1, kc_ BK668 2, kc_ BK668 3, kc_ BK692 0, kc_ BK692 1, kc_ BK671 0, kc_ BK671 1, kc_ BK671 2⟩ (fun hHeld => ?_)
              clear hK K
              refine norm_ (a' := ?_) ?_ ?_
              rotate_left
              ·
               show Act.put _ (some 17) _ = _
               simp only [Act.put, List.setIfInBounds_toArray, List.set_cons_zero, List.set_cons_succ, i64_w, i32_w]
               rfl
              refine one_ (i := 8) (N := some 86) (bm_ 15 4607) rfl rfl (one_of HT_.out (by kernel_rfl)) (by decide) (fun K hK => ?_)
              refine gr_ Tryz.func49 #[.agg #[.bool a0_0, .int .u64 a0_1, .int .u64 a0_2, .int .i64 a0_3], .int .i64 a1, .agg #[.int .u64 t695, .int .u64 t696]] ?_
              with_reducible refine (carve_Block.calls a0_0 a0_1 a0_2 a0_3 a1 t695 t696 t697 t698 t699 t700 t701 _ A91.out).mono ?_
              rintro e w98 ⟨rfl, hb⟩
              refine ⟨_, rfl, ?_⟩
              replace BK668 := bb_ BK668 hb
              replace BK669 := bb_ BK669 hb
              replace BK670 := bb_ BK670 hb
              replace BK671 := bb_ BK671 hb
              replace BK678 := bb_ BK678 hb
              replace BK684 := bb_ BK684 hb
              replace BK692 := bb_ BK692 hb
              replace BK702 := bb_ BK702 hb
              replace HB := bs_ HB hb
              (try clear hb)
              (try clear hb2)
              (try clear hk)
              (try clear hi)
              refine hK.out _ _ ⟨kc_ BK668 0, kc_ BK668 1, kc_ BK668 2, kc_ BK668 3, kc_ BK692 0, kc_ BK692 1, kc_ BK671 0, kc_ BK671 1, kc_ BK671 2⟩ (fun hHeld => ?_)
              clear hK K
              refine norm_ (a' := ?_) ?_ ?_
              rotate_left
              ·
               show Act.put _ (some 86) _ = _
               simp only [Act.put, List.setIfInBounds_toArray, List.set_cons_zero, List.set_cons_succ, i64_w, i32_w]
               rfl
              refine pu_ 9 (some 77) (bm_ 15 5119) rfl HT_ ⟨by rfl, by intro w'; go_simp; with_reducible rfl⟩ ?_
              refine pu_ 10 (some 87) (bm_ 15 6143) rfl HT_ ⟨by rfl, by intro w'; go_simp; with_reducible rfl⟩ ?_
              refine pu_ 11 (some 88) (bm_ 15 8191) rfl HT_ ⟨by rfl, by intro w'; go_simp; with_reducible rfl⟩ ?_
              exact norm_ (by simp only [putAll, Act.put, List.setIfInBounds_toArray, List.set_cons_zero, List.set_cons_succ]) (hCont (gb702) _ ⟨hHeld, (pk_ BK668), (pk_ BK669), (pk_ BK670), (pk_ BK671), (pk_ BK678), (pk_ BK684), (pk_ BK692), (pk_ BK702), GW702.out, GE702.out, NB668_702.out, NB702_668.out, NB669_702.out, NB702_669.out, NB670_702.out, NB702_670.out, NB671_702.out, NB702_671.out, NB678_702.out, NB702_678.out, NB684_702.out, NB702_684.out, NB692_702.out, NB702_692.out, (pb_ HB)⟩)
            ·
             skip
             refine box_step ?hg (N := 17) ?hd (cs := #[.bool false, .int .u64 0, .int .u64 0, .int .i64 0]) (t := 38) ?hr ?_; (case hd => rfl); (case hg => rfl); (case hr => first | (go_simp; done) | (go_simp; rfl))
             intro gb702 hg w96 hbox hb
             have BK702 := Aside0.mk (hbox)
             have GW702 := gw_ HB hg
             have GE702 := gw_ HB hg
             have NB668_702 := nl_ BK668 hg
             have NB702_668 := ng_ BK668 hg
             have NB669_702 := nl_ BK669 hg
             have NB702_669 := ng_ BK669 hg
             have NB670_702 := nl_ BK670 hg
             have NB702_670 := ng_ BK670 hg
             have NB671_702 := nl_ BK671 hg
             have NB702_671 := ng_ BK671 hg
             have NB678_702 := nl_ BK678 hg
             have NB702_678 := ng_ BK678 hg
             have NB684_702 := nl_ BK684 hg
             have NB702_684 := ng_ BK684 hg
             have NB692_702 := nl_ BK692 hg
             have NB702_692 := ng_ BK692 hg
             replace BK668 := bb_ BK668 hb
             replace BK669 := bb_ BK669 hb
             replace BK670 := bb_ BK670 hb
             replace BK671 := bb_ BK671 hb
             replace BK678 := bb_ BK678 hb
             replace BK684 := bb_ BK684 hb
             replace BK692 := bb_ BK692 hb
             replace HB := bs_ HB hb
             clear hb hbox hg
             refine hK.out _ _ ⟨kc_ BK668 0, kc_ BK668 1, kc_ BK668 2, kc_ BK668 3, kc_ BK692 0, kc_ BK692 1, kc_ BK671 0, kc_ BK671 1, kc_ BK671 2⟩ (fun hHeld => ?_)
             clear hK K
             refine norm_ (a' := ?_) ?_ ?_
             rotate_left
             ·
              show Act.put _ (some 17) _ = _
              simp only [Act.put, List.setIfInBounds_toArray, List.set_cons_zero, List.set_cons_succ, i64_w, i32_w]
              rfl
             refine one_ (i := 7) (N := some 85) (bm_ 15 4351) rfl rfl (one_of HT_.out (by kernel_rfl)) (by decide) (fun K hK => ?_)
             refine gr_ Tryz.func56 #[.agg #[.int .u64 t689, .int .u64 t690], .int .i64 (wrap64 (t694 - a1))] ?_
             with_reducible refine (num_Shr.calls t689 t690 (wrap64 (t694 - a1)) t695 t696 _ A90.out).mono ?_
             rintro e w97 ⟨rfl, hb⟩
             refine ⟨_, rfl, ?_⟩
             replace BK668 := bb_ BK668 hb
             replace BK669 := bb_ BK669 hb
             replace BK670 := bb_ BK670 hb
             replace BK671 := bb_ BK671 hb
             replace BK678 := bb_ BK678 hb
             replace BK684 := bb_ BK684 hb
             replace BK692 := bb_ BK692 hb
             replace BK702 := bb_ BK702 hb
             replace HB := bs_ HB hb
             (try clear hb)
             (try clear hb2)
             (try clear hk)
             (try clear hi)
             refine hK.out _ _ ⟨kc_ BK668 0, kc_ BK668 1, kc_ BK668 2, kc_ BK668 3, kc_ BK692 0, kc_ BK692 1, kc_ BK671 0, kc_ BK671 1, kc_ BK671 2⟩ (fun hHeld => ?_)
             clear hK K
             refine norm_ (a' := ?_) ?_ ?_
             rotate_left
             ·
              show Act.put _ (some 85) _ = _
              simp only [Act.put, List.setIfInBounds_toArray, List.set_cons_zero, List.set_cons_succ, i64_w, i32_w]
              rfl
             refine one_ (i := 8) (N := some 86) (bm_ 15 4607) rfl rfl (one_of HT_.out (by kernel_rfl)) (by decide) (fun K hK => ?_)
             refine gr_ Tryz.func49 #[.agg #[.bool a0_0, .int .u64 a0_1, .int .u64 a0_2, .int .i64 a0_3], .int .i64 a1, .agg #[.int .u64 t695, .int .u64 t696]] ?_
             with_reducible refine (carve_Block.calls a0_0 a0_1 a0_2 a0_3 a1 t695 t696 t697 t698 t699 t700 t701 _ A91.out).mono ?_
             rintro e w98 ⟨rfl, hb⟩
             refine ⟨_, rfl, ?_⟩
             replace BK668 := bb_ BK668 hb
             replace BK669 := bb_ BK669 hb
             replace BK670 := bb_ BK670 hb
             replace BK671 := bb_ BK671 hb
             replace BK678 := bb_ BK678 hb
             replace BK684 := bb_ BK684 hb
             replace BK692 := bb_ BK692 hb
             replace BK702 := bb_ BK702 hb
             replace HB := bs_ HB hb
             (try clear hb)
             (try clear hb2)
             (try clear hk)
             (try clear hi)
             refine hK.out _ _ ⟨kc_ BK668 0, kc_ BK668 1, kc_ BK668 2, kc_ BK668 3, kc_ BK692 0, kc_ BK692 1, kc_ BK671 0, kc_ BK671 1, kc_ BK671 2⟩ (fun hHeld => ?_)
             clear hK K
             refine norm_ (a' := ?_) ?_ ?_
             rotate_left
             ·
              show Act.put _ (some 86) _ = _
              simp only [Act.put, List.setIfInBounds_toArray, List.set_cons_zero, List.set_cons_succ, i64_w, i32_w]
              rfl
             refine pu_ 9 (some 77) (bm_ 15 5119) rfl HT_ ⟨by rfl, by intro w'; go_simp; with_reducible rfl⟩ ?_
             refine pu_ 10 (some 87) (bm_ 15 6143) rfl HT_ ⟨by rfl, by intro w'; go_simp; with_reducible rfl⟩ ?_
             refine pu_ 11 (some 88) (bm_ 15 8191) rfl HT_ ⟨by rfl, by intro w'; go_simp; with_reducible rfl⟩ ?_
             exact norm_ (by simp only [putAll, Act.put, List.setIfInBounds_toArray, List.set_cons_zero, List.set_cons_succ]) (hCont (gb702) _ ⟨hHeld, (pk_ BK668), (pk_ BK669), (pk_ BK670), (pk_ BK671), (pk_ BK678), (pk_ BK684), (pk_ BK692), (pk_ BK702), GW702.out, GE702.out, NB668_702.out, NB702_668.out, NB669_702.out, NB702_669.out, NB670_702.out, NB702_670.out, NB671_702.out, NB702_671.out, NB678_702.out, NB702_678.out, NB684_702.out, NB702_684.out, NB692_702.out, NB702_692.out, (pb_ HB)⟩)
           ·
            skip
            refine box_step ?hg (N := 17) ?hd (cs := #[.bool false, .int .u64 0, .int .u64 0, .int .i64 0]) (t := 38) ?hr ?_; (case hd => rfl); (case hg => rfl); (case hr => first | (go_simp; done) | (go_simp; rfl))
            intro gb702 hg w95 hbox hb
            have BK702 := Aside0.mk (hbox)
            have GW702 := gw_ HB hg
            have GE702 := gw_ HB hg
            have NB668_702 := nl_ BK668 hg
            have NB702_668 := ng_ BK668 hg
            have NB669_702 := nl_ BK669 hg
            have NB702_669 := ng_ BK669 hg
            have NB670_702 := nl_ BK670 hg
            have NB702_670 := ng_ BK670 hg
            have NB671_702 := nl_ BK671 hg
            have NB702_671 := ng_ BK671 hg
            have NB678_702 := nl_ BK678 hg
            have NB702_678 := ng_ BK678 hg
            have NB684_702 := nl_ BK684 hg
            have NB702_684 := ng_ BK684 hg
            have NB692_702 := nl_ BK692 hg
            have NB702_692 := ng_ BK692 hg
            replace BK668 := bb_ BK668 hb
            replace BK669 := bb_ BK669 hb
            replace BK670 := bb_ BK670 hb
            replace BK671 := bb_ BK671 hb
            replace BK678 := bb_ BK678 hb
            replace BK684 := bb_ BK684 hb
            replace BK692 := bb_ BK692 hb
            replace HB := bs_ HB hb
            clear hb hbox hg
            refine hK.out _ _ ⟨kc_ BK668 0, kc_ BK668 1, kc_ BK668 2, kc_ BK668 3, kc_ BK692 0, kc_ BK692 1, kc_ BK671 0, kc_ BK671 1, kc_ BK671 2⟩ (fun hHeld => ?_)
            clear hK K
            refine norm_ (a' := ?_) ?_ ?_
            rotate_left
            ·
             show Act.put _ (some 17) _ = _
             simp only [Act.put, List.setIfInBounds_toArray, List.set_cons_zero, List.set_cons_succ, i64_w, i32_w]
             rfl
            refine one_ (i := 4) (N := some 82) (bm_ 15 4159) rfl rfl (one_of HT_.out (by kernel_rfl)) (by decide) (fun K hK => ?_)
            refine gr_ Tryz.func22 #[.agg #[.bool a4_0, .int .u64 a4_1, .int .u64 a4_2]] ?_
            with_reducible refine (addr_Width.calls a4_0 a4_1 a4_2 t694 _ A89.out).mono ?_
            rintro e w96 ⟨rfl, hb⟩
            refine ⟨_, rfl, ?_⟩
            replace BK668 := bb_ BK668 hb
            replace BK669 := bb_ BK669 hb
            replace BK670 := bb_ BK670 hb
            replace BK671 := bb_ BK671 hb
            replace BK678 := bb_ BK678 hb
            replace BK684 := bb_ BK684 hb
            replace BK692 := bb_ BK692 hb
            replace BK702 := bb_ BK702 hb
            replace HB := bs_ HB hb
            (try clear hb)
            (try clear hb2)
            (try clear hk)
            (try clear hi)
            refine hK.out _ _ ⟨kc_ BK668 0, kc_ BK668 1, kc_ BK668 2, kc_ BK668 3, kc_ BK692 0, kc_ BK692 1, kc_ BK671 0, kc_ BK671 1, kc_ BK671 2⟩ (fun hHeld => ?_)
            clear hK K
            refine norm_ (a' := ?_) ?_ ?_
            rotate_left
            ·
             show Act.put _ (some 82) _ = _
             simp only [Act.put, List.setIfInBounds_toArray, List.set_cons_zero, List.set_cons_succ, i64_w, i32_w]
             rfl
            refine pu_ 6 (some 84) (bm_ 15 4223) rfl HT_ ⟨by rfl, by intro w'; go_simp; with_reducible rfl⟩ ?_
            refine one_ (i := 7) (N := some 85) (bm_ 15 4351) rfl rfl (one_of HT_.out (by kernel_rfl)) (by decide) (fun K hK => ?_)
            refine gr_ Tryz.func56 #[.agg #[.int .u64 t689, .int .u64 t690], .int .i64 (wrap64 (t694 - a1))] ?_
            with_reducible refine (num_Shr.calls t689 t690 (wrap64 (t694 - a1)) t695 t696 _ A90.out).mono ?_
            rintro e w97 ⟨rfl, hb⟩
            refine ⟨_, rfl, ?_⟩
            replace BK668 := bb_ BK668 hb
            replace BK669 := bb_ BK669 hb
            replace BK670 := bb_ BK670 hb
            replace BK671 := bb_ BK671 hb
            replace BK678 := bb_ BK678 hb
            replace BK684 := bb_ BK684 hb
            replace BK692 := bb_ BK692 hb
            replace BK702 := bb_ BK702 hb
            replace HB := bs_ HB hb
            (try clear hb)
            (try clear hb2)
            (try clear hk)
            (try clear hi)
            refine hK.out _ _ ⟨kc_ BK668 0, kc_ BK668 1, kc_ BK668 2, kc_ BK668 3, kc_ BK692 0, kc_ BK692 1, kc_ BK671 0, kc_ BK671 1, kc_ BK671 2⟩ (fun hHeld => ?_)
            clear hK K
            refine norm_ (a' := ?_) ?_ ?_
            rotate_left
            ·
             show Act.put _ (some 85) _ = _
             simp only [Act.put, List.setIfInBounds_toArray, List.set_cons_zero, List.set_cons_succ, i64_w, i32_w]
             rfl
            refine one_ (i := 8) (N := some 86) (bm_ 15 4607) rfl rfl (one_of HT_.out (by kernel_rfl)) (by decide) (fun K hK => ?_)
            refine gr_ Tryz.func49 #[.agg #[.bool a0_0, .int .u64 a0_1, .int .u64 a0_2, .int .i64 a0_3], .int .i64 a1, .agg #[.int .u64 t695, .int .u64 t696]] ?_
            with_reducible refine (carve_Block.calls a0_0 a0_1 a0_2 a0_3 a1 t695 t696 t697 t698 t699 t700 t701 _ A91.out).mono ?_
            rintro e w98 ⟨rfl, hb⟩
            refine ⟨_, rfl, ?_⟩
            replace BK668 := bb_ BK668 hb
            replace BK669 := bb_ BK669 hb
            replace BK670 := bb_ BK670 hb
            replace BK671 := bb_ BK671 hb
            replace BK678 := bb_ BK678 hb
            replace BK684 := bb_ BK684 hb
            replace BK692 := bb_ BK692 hb
            replace BK702 := bb_ BK702 hb
            replace HB := bs_ HB hb
            (try clear hb)
            (try clear hb2)
            (try clear hk)
            (try clear hi)
            refine hK.out _ _ ⟨kc_ BK668 0, kc_ BK668 1, kc_ BK668 2, kc_ BK668 3, kc_ BK692 0, kc_ BK692 1, kc_ BK671 0, kc_ BK671 1, kc_ BK671 2⟩ (fun hHeld => ?_)
            clear hK K
            refine norm_ (a' := ?_) ?_ ?_
            rotate_left
            ·
             show Act.put _ (some 86) _ = _
             simp only [Act.put, List.setIfInBounds_toArray, List.set_cons_zero, List.set_cons_succ, i64_w, i32_w]
             rfl
            refine pu_ 9 (some 77) (bm_ 15 5119) rfl HT_ ⟨by rfl, by intro w'; go_simp; with_reducible rfl⟩ ?_
            refine pu_ 10 (some 87) (bm_ 15 6143) rfl HT_ ⟨by rfl, by intro w'; go_simp; with_reducible rfl⟩ ?_
            refine pu_ 11 (some 88) (bm_ 15 8191) rfl HT_ ⟨by rfl, by intro w'; go_simp; with_reducible rfl⟩ ?_
            exact norm_ (by simp only [putAll, Act.put, List.setIfInBounds_toArray, List.set_cons_zero, List.set_cons_succ]) (hCont (gb702) _ ⟨hHeld, (pk_ BK668), (pk_ BK669), (pk_ BK670), (pk_ BK671), (pk_ BK678), (pk_ BK684), (pk_ BK692), (pk_ BK702), GW702.out, GE702.out, NB668_702.out, NB702_668.out, NB669_702.out, NB702_669.out, NB670_702.out, NB702_670.out, NB671_702.out, NB702_671.out, NB678_702.out, NB702_678.out, NB684_702.out, NB702_684.out, NB692_702.out, NB702_692.out, (pb_ HB)⟩)
          rintro gb702 w99 ⟨hS_, h0_, h1_, h2_, h3_, h4_, h5_, h6_, h7_, h8_, h9_, h10_, h11_, h12_, h13_, h14_, h15_, h16_, h17_, h18_, h19_, h20_, h21_, h22_, h23_, h24_⟩
          have n0_ : Aside0 (w99.heap[gb668]? = some (.cells #[.bool a0_0, .int .u64 a0_1, .int .u64 a0_2, .int .i64 a0_3] 38 (0, 0))) := ⟨h0_⟩
          have n1_ : Aside0 (w99.heap[gb669]? = some (.cells #[.int .u64 a2_0, .int .u64 a2_1] 24 (0, 0))) := ⟨h1_⟩
          have n2_ : Aside0 (w99.heap[gb670]? = some (.cells #[.int .u64 a3_0, .int .u64 a3_1] 24 (0, 0))) := ⟨h2_⟩
          have n3_ : Aside0 (w99.heap[gb671]? = some (.cells #[.bool a4_0, .int .u64 a4_1, .int .u64 a4_2] 26 (0, 0))) := ⟨h3_⟩
          have n4_ : Aside0 (w99.heap[gb678]? = some (.cells #[.bool t673, .int .u64 t674, .int .u64 t675, .int .i64 t676] 38 (0, 0))) := ⟨h4_⟩
          have n5_ : Aside0 (w99.heap[gb684]? = some (.cells #[.bool t679, .int .u64 t680, .int .u64 t681, .int .i64 t682] 38 (0, 0))) := ⟨h5_⟩
          have n6_ : Aside0 (w99.heap[gb692]? = some (.cells #[.int .u64 t689, .int .u64 t690] 24 (0, 0))) := ⟨h6_⟩
          have n7_ : Aside0 (w99.heap[gb702]? = some (.cells #[.bool false, .int .u64 0, .int .u64 0, .int .i64 0] 38 (0, 0))) := ⟨h7_⟩
          have n8_ : Aside0 (w.heap.size ≤ gb702) := ⟨h8_⟩
          have n9_ : Aside0 (w.heap.size ≤ gb702) := ⟨h9_⟩
          have n10_ : Aside0 (gb668 ≠ gb702) := ⟨h10_⟩
          have n11_ : Aside0 (gb702 ≠ gb668) := ⟨h11_⟩
          have n12_ : Aside0 (gb669 ≠ gb702) := ⟨h12_⟩
          have n13_ : Aside0 (gb702 ≠ gb669) := ⟨h13_⟩
          have n14_ : Aside0 (gb670 ≠ gb702) := ⟨h14_⟩
          have n15_ : Aside0 (gb702 ≠ gb670) := ⟨h15_⟩
          have n16_ : Aside0 (gb671 ≠ gb702) := ⟨h16_⟩
          have n17_ : Aside0 (gb702 ≠ gb671) := ⟨h17_⟩
          have n18_ : Aside0 (gb678 ≠ gb702) := ⟨h18_⟩
          have n19_ : Aside0 (gb702 ≠ gb678) := ⟨h19_⟩
          have n20_ : Aside0 (gb684 ≠ gb702) := ⟨h20_⟩
          have n21_ : Aside0 (gb702 ≠ gb684) := ⟨h21_⟩
          have n22_ : Aside0 (gb692 ≠ gb702) := ⟨h22_⟩
          have n23_ : Aside0 (gb702 ≠ gb692) := ⟨h23_⟩
          have n24_ : Aside0 (Below w.heap.size w w99) := ⟨h24_⟩
          clear BK668
          clear BK669
          clear BK670
          clear BK671
          clear BK678
          clear BK684
          clear BK692
          clear HB
          clear h0_ h1_ h2_ h3_ h4_ h5_ h6_ h7_ h8_ h9_ h10_ h11_ h12_ h13_ h14_ h15_ h16_ h17_ h18_ h19_ h20_ h21_ h22_ h23_ h24_
          have BK668 := n0_
          have BK669 := n1_
          have BK670 := n2_
          have BK671 := n3_
          have BK678 := n4_
          have BK684 := n5_
          have BK692 := n6_
          have BK702 := n7_
          have GW702 := n8_
          have GE702 := n9_
          have NB668_702 := n10_
          have NB702_668 := n11_
          have NB669_702 := n12_
          have NB702_669 := n13_
          have NB670_702 := n14_
          have NB702_670 := n15_
          have NB671_702 := n16_
          have NB702_671 := n17_
          have NB678_702 := n18_
          have NB702_678 := n19_
          have NB684_702 := n20_
          have NB702_684 := n21_
          have NB692_702 := n22_
          have NB702_692 := n23_
          have HB := n24_
          clear n0_ n1_ n2_ n3_ n4_ n5_ n6_ n7_ n8_ n9_ n10_ n11_ n12_ n13_ n14_ n15_ n16_ n17_ n18_ n19_ n20_ n21_ n22_ n23_ n24_
          have hHeld : w99.cell? ⟨gb668, 0, none⟩ = some (.bool a0_0) ∧ w99.cell? ⟨gb668, 1, none⟩ = some (.int .u64 a0_1) ∧ w99.cell? ⟨gb668, 2, none⟩ = some (.int .u64 a0_2) ∧ w99.cell? ⟨gb668, 3, none⟩ = some (.int .i64 a0_3) ∧ w99.cell? ⟨gb692, 0, none⟩ = some (.int .u64 t689) ∧ w99.cell? ⟨gb692, 1, none⟩ = some (.int .u64 t690) ∧ w99.cell? ⟨gb671, 0, none⟩ = some (.bool a4_0) ∧ w99.cell? ⟨gb671, 1, none⟩ = some (.int .u64 a4_1) ∧ w99.cell? ⟨gb671, 2, none⟩ = some (.int .u64 a4_2) := hS_
          refine norm_ (a' := ?_) ?_ ?_
          rotate_left
          ·
           simp only [putAll, Act.put, List.setIfInBounds_toArray, List.set_cons_zero, List.set_cons_succ]
           rfl
          refine one_ (i := 13) (N := none) (bm_ 15 16383) rfl rfl (one_of HT_.out (by kernel_rfl)) (by decide) (fun K hK => ?_)
          have hs100 : w99.cell? ⟨gb702, 0, none⟩ = some (.bool false) := kc_ BK702 0
          have hfs100 := blk_frozen BK702.out 0
          have hns100_0 := NB668_702.out
          have hns100_1 := NB669_702.out
          have hns100_2 := NB670_702.out
          have hns100_3 := NB671_702.out
          have hns100_4 := NB678_702.out
          have hns100_5 := NB684_702.out
          have hns100_6 := NB692_702.out
          have hms100_0 := NB702_668.out
          have hms100_1 := NB702_669.out
          have hms100_2 := NB702_670.out
          have hms100_3 := NB702_671.out
          have hms100_4 := NB702_678.out
          have hms100_5 := NB702_684.out
          have hms100_6 := NB702_692.out
          have hs101 : w99.cell? ⟨gb702, 1, none⟩ = some (.int .u64 0) := kc_ BK702 1
          have hfs101 := blk_frozen BK702.out 1
          have hns101_0 := NB668_702.out
          have hns101_1 := NB669_702.out
          have hns101_2 := NB670_702.out
          have hns101_3 := NB671_702.out
          have hns101_4 := NB678_702.out
          have hns101_5 := NB684_702.out
          have hns101_6 := NB692_702.out
          have hms101_0 := NB702_668.out
          have hms101_1 := NB702_669.out
          have hms101_2 := NB702_670.out
          have hms101_3 := NB702_671.out
          have hms101_4 := NB702_678.out
          have hms101_5 := NB702_684.out
          have hms101_6 := NB702_692.out
          have hs102 : w99.cell? ⟨gb702, 2, none⟩ = some (.int .u64 0) := kc_ BK702 2
          have hfs102 := blk_frozen BK702.out 2
          have hns102_0 := NB668_702.out
          have hns102_1 := NB669_702.out
          have hns102_2 := NB670_702.out
          have hns102_3 := NB671_702.out
          have hns102_4 := NB678_702.out
          have hns102_5 := NB684_702.out
          have hns102_6 := NB692_702.out
          have hms102_0 := NB702_668.out
          have hms102_1 := NB702_669.out
          have hms102_2 := NB702_670.out
          have hms102_3 := NB702_671.out
          have hms102_4 := NB702_678.out
          have hms102_5 := NB702_684.out
          have hms102_6 := NB702_692.out
          have hs103 : w99.cell? ⟨gb702, 3, none⟩ = some (.int .i64 0) := kc_ BK702 3
          have hfs103 := blk_frozen BK702.out 3
          have hns103_0 := NB668_702.out
          have hns103_1 := NB669_702.out
          have hns103_2 := NB670_702.out
          have hns103_3 := NB671_702.out
          have hns103_4 := NB678_702.out
          have hns103_5 := NB684_702.out
          have hns103_6 := NB692_702.out
          have hms103_0 := NB702_668.out
          have hms103_1 := NB702_669.out
          have hms103_2 := NB702_670.out
          have hms103_3 := NB702_671.out
          have hms103_4 := NB702_678.out
          have hms103_5 := NB702_684.out
          have hms103_6 := NB702_692.out
          refine skip_ (w1 := ?_) (by rfl) rfl ?_ ?_
          rotate_left
          ·
           go_simp
           rfl
          refine hK.out _ _ ⟨((cell_far (p := ⟨gb702, _, none⟩) NB668_702.out _).trans (((cell_far (p := ⟨gb702, _, none⟩) NB668_702.out _).trans (((cell_far (p := ⟨gb702, _, none⟩) NB668_702.out _).trans (((cell_far (p := ⟨gb702, _, none⟩) NB668_702.out _).trans (hHeld.1)))))))), ((cell_far (p := ⟨gb702, _, none⟩) NB668_702.out _).trans (((cell_far (p := ⟨gb702, _, none⟩) NB668_702.out _).trans (((cell_far (p := ⟨gb702, _, none⟩) NB668_702.out _).trans (((cell_far (p := ⟨gb702, _, none⟩) NB668_702.out _).trans (hHeld.2.1)))))))), ((cell_far (p := ⟨gb702, _, none⟩) NB668_702.out _).trans (((cell_far (p := ⟨gb702, _, none⟩) NB668_702.out _).trans (((cell_far (p := ⟨gb702, _, none⟩) NB668_702.out _).trans (((cell_far (p := ⟨gb702, _, none⟩) NB668_702.out _).trans (hHeld.2.2.1)))))))), ((cell_far (p := ⟨gb702, _, none⟩) NB668_702.out _).trans (((cell_far (p := ⟨gb702, _, none⟩) NB668_702.out _).trans (((cell_far (p := ⟨gb702, _, none⟩) NB668_702.out _).trans (((cell_far (p := ⟨gb702, _, none⟩) NB668_702.out _).trans (hHeld.2.2.2.1)))))))), ((cell_far (p := ⟨gb702, _, none⟩) NB692_702.out _).trans (((cell_far (p := ⟨gb702, _, none⟩) NB692_702.out _).trans (((cell_far (p := ⟨gb702, _, none⟩) NB692_702.out _).trans (((cell_far (p := ⟨gb702, _, none⟩) NB692_702.out _).trans (hHeld.2.2.2.2.1)))))))), ((cell_far (p := ⟨gb702, _, none⟩) NB692_702.out _).trans (((cell_far (p := ⟨gb702, _, none⟩) NB692_702.out _).trans (((cell_far (p := ⟨gb702, _, none⟩) NB692_702.out _).trans (((cell_far (p := ⟨gb702, _, none⟩) NB692_702.out _).trans (hHeld.2.2.2.2.2.1)))))))), ((cell_far (p := ⟨gb702, _, none⟩) NB671_702.out _).trans (((cell_far (p := ⟨gb702, _, none⟩) NB671_702.out _).trans (((cell_far (p := ⟨gb702, _, none⟩) NB671_702.out _).trans (((cell_far (p := ⟨gb702, _, none⟩) NB671_702.out _).trans (hHeld.2.2.2.2.2.2.1)))))))), ((cell_far (p := ⟨gb702, _, none⟩) NB671_702.out _).trans (((cell_far (p := ⟨gb702, _, none⟩) NB671_702.out _).trans (((cell_far (p := ⟨gb702, _, none⟩) NB671_702.out _).trans (((cell_far (p := ⟨gb702, _, none⟩) NB671_702.out _).trans (hHeld.2.2.2.2.2.2.2.1)))))))), ((cell_far (p := ⟨gb702, _, none⟩) NB671_702.out _).trans (((cell_far (p := ⟨gb702, _, none⟩) NB671_702.out _).trans (((cell_far (p := ⟨gb702, _, none⟩) NB671_702.out _).trans (((cell_far (p := ⟨gb702, _, none⟩) NB671_702.out _).trans (hHeld.2.2.2.2.2.2.2.2))))))))⟩ (fun hHeld => ?_)
          clear hK K
          refine pu_ 14 (some 18) (bm_ 15 32767) rfl HT_ ⟨by rfl, by intro w'; go_simp; with_reducible rfl⟩ ?_
          refine done_ (done_of HT_.out (by kernel_rfl)) ?_
          have hnb104 := NB702_668.out
          have hnc104 := NB668_702.out
          have hnb105 := NB702_669.out
          have hnc105 := NB669_702.out
          have hnb106 := NB702_670.out
          have hnc106 := NB670_702.out
          have hnb107 := NB702_671.out
          have hnc107 := NB671_702.out
          have hnb108 := NB702_678.out
          have hnc108 := NB678_702.out
          have hnb109 := NB702_684.out
          have hnc109 := NB684_702.out
          have hnb110 := NB702_692.out
          have hnc110 := NB692_702.out
          obtain ⟨hcz111_0, hcz111_1, hcz111_2, hcz111_3, hfz111_0, hfz111_1, hfz111_2, hfz111_3⟩ := c4_ BK702
          have hnb112 := NB671_668.out
          have hnc112 := NB668_671.out
          have hnb113 := NB671_669.out
          have hnc113 := NB669_671.out
          have hnb114 := NB671_670.out
          have hnc114 := NB670_671.out
          have hnb115 := NB671_678.out
          have hnc115 := NB678_671.out
          have hnb116 := NB671_684.out
          have hnc116 := NB684_671.out
          have hnb117 := NB671_692.out
          have hnc117 := NB692_671.out
          obtain ⟨hcz118_0, hcz118_1, hcz118_2, hfz118_0, hfz118_1, hfz118_2⟩ := c3_ BK671
          try go_wp2_with (first | (go_at_call 40; (with_reducible refine (prefix_Has.calls kj56 t697 t698 t699 t700 a4_0 a4_1 a4_2 t703 _ A93.out).mono ?_); rintro e w119 ⟨rfl, hb⟩; replace BK668 := Aside0.mk (blk_below (g := gb668) (o := .cells #[.bool a0_0, .int .u64 a0_1, .int .u64 a0_2, .int .i64 a0_3] 38 (0, 0)) (by refine pw_ ?_; refine blk_far ?_ NB668_702.out _; refine pw_ ?_; refine blk_far ?_ NB668_702.out _; refine pw_ ?_; refine blk_far ?_ NB668_702.out _; refine pw_ ?_; refine blk_far ?_ NB668_702.out _; refine pw_ ?_; exact BK668.out) hb); replace BK669 := Aside0.mk (blk_below (g := gb669) (o := .cells #[.int .u64 a2_0, .int .u64 a2_1] 24 (0, 0)) (by refine pw_ ?_; refine blk_far ?_ NB669_702.out _; refine pw_ ?_; refine blk_far ?_ NB669_702.out _; refine pw_ ?_; refine blk_far ?_ NB669_702.out _; refine pw_ ?_; refine blk_far ?_ NB669_702.out _; refine pw_ ?_; exact BK669.out) hb); replace BK670 := Aside0.mk (blk_below (g := gb670) (o := .cells #[.int .u64 a3_0, .int .u64 a3_1] 24 (0, 0)) (by refine pw_ ?_; refine blk_far ?_ NB670_702.out _; refine pw_ ?_; refine blk_far ?_ NB670_702.out _; refine pw_ ?_; refine blk_far ?_ NB670_702.out _; refine pw_ ?_; refine blk_far ?_ NB670_702.out _; refine pw_ ?_; exact BK670.out) hb); replace BK671 := Aside0.mk (blk_below (g := gb671) (o := .cells #[.bool a4_0, .int .u64 a4_1, .int .u64 a4_2] 26 (0, 0)) (by refine pw_ ?_; refine blk_far ?_ NB671_702.out _; refine pw_ ?_; refine blk_far ?_ NB671_702.out _; refine pw_ ?_; refine blk_far ?_ NB671_702.out _; refine pw_ ?_; refine blk_far ?_ NB671_702.out _; refine pw_ ?_; exact BK671.out) hb); replace BK678 := Aside0.mk (blk_below (g := gb678) (o := .cells #[.bool t673, .int .u64 t674, .int .u64 t675, .int .i64 t676] 38 (0, 0)) (by refine pw_ ?_; refine blk_far ?_ NB678_702.out _; refine pw_ ?_; refine blk_far ?_ NB678_702.out _; refine pw_ ?_; refine blk_far ?_ NB678_702.out _; refine pw_ ?_; refine blk_far ?_ NB678_702.out _; refine pw_ ?_; exact BK678.out) hb); replace BK684 := Aside0.mk (blk_below (g := gb684) (o := .cells #[.bool t679, .int .u64 t680, .int .u64 t681, .int .i64 t682] 38 (0, 0)) (by refine pw_ ?_; refine blk_far ?_ NB684_702.out _; refine pw_ ?_; refine blk_far ?_ NB684_702.out _; refine pw_ ?_; refine blk_far ?_ NB684_702.out _; refine pw_ ?_; refine blk_far ?_ NB684_702.out _; refine pw_ ?_; exact BK684.out) hb); replace BK692 := Aside0.mk (blk_below (g := gb692) (o := .cells #[.int .u64 t689, .int .u64 t690] 24 (0, 0)) (by refine pw_ ?_; refine blk_far ?_ NB692_702.out _; refine pw_ ?_; refine blk_far ?_ NB692_702.out _; refine pw_ ?_; refine blk_far ?_ NB692_702.out _; refine pw_ ?_; refine blk_far ?_ NB692_702.out _; refine pw_ ?_; exact BK692.out) hb); replace BK702 := Aside0.mk (blk_below (g := gb702) (o := .cells #[.bool t697, .int .u64 t698, .int .u64 t699, .int .i64 t700] 38 (0, 0)) (by refine pw_ ?_; refine blk_put (cs := #[.bool t697, .int .u64 t698, .int .u64 t699, .int .i64 0]) ?_ 3 _ rfl; refine pw_ ?_; refine blk_put (cs := #[.bool t697, .int .u64 t698, .int .u64 0, .int .i64 0]) ?_ 2 _ rfl; refine pw_ ?_; refine blk_put (cs := #[.bool t697, .int .u64 0, .int .u64 0, .int .i64 0]) ?_ 1 _ rfl; refine pw_ ?_; refine blk_put (cs := #[.bool false, .int .u64 0, .int .u64 0, .int .i64 0]) ?_ 0 _ rfl; refine pw_ ?_; exact BK702.out) hb); replace HB := bs_ HB hb; (try clear hb); (try clear hb2); (try clear hk); (try clear hi)))
          go_ret
          exact ⟨by first | rfl | (simp [errW_none, errW_some] <;> rfl) | (simp [*, errW_none, errW_some] <;> rfl), pb_ HB⟩
         ·
          rw [if_neg c92] at H
          have c92b0 : (t701 == 0) = false := beq_eq_false_iff_ne.mpr c92
          have c92b1 : (t701 != 0) = true := bne_iff_ne.mpr c92
          obtain rfl := Option.some.inj H
          exact absurd HRT.out (by decide)
 ·
  replace c7 := Bool.eq_false_iff.mpr c7
  subst c7
  have H1 : (some false) = some r := by rw [if_neg (show ¬ (false = true) by decide)] at H; exact H
  clear H
  have H := H1
  clear H1
  obtain rfl := Option.some.inj H
  exact absurd HRT.out (by decide)

end Go.Proofs.YtgdgklibilddgaaGreatDoor.PPr

namespace Go.Proofs.YtgdgklibilddgaaGreatDoor.PPr
open Go.RowKit Go.Proofs.YtgdgklibilddgaaGreatDoorW.PrintWords Go.Proofs.YtgdgklibilddgaaGreatDoorW.PrintLast Go.Proofs.YtgdgklibilddgaaGreatDoorW.PrintMore
attribute [local go_sem] max2_int min2_int max_two min_two max_three min_three max_four min_four   -- for this text's walks alone

end Go.Proofs.YtgdgklibilddgaaGreatDoor.PPr

namespace Go.Proofs.YtgdgklibilddgaaGreatDoor.PPr
open Go.RowKit Go.Proofs.YtgdgklibilddgaaGreatDoorW.PrintWords Go.Proofs.YtgdgklibilddgaaGreatDoorW.PrintLast Go.Proofs.YtgdgklibilddgaaGreatDoorW.PrintMore
attribute [local go_sem] max2_int min2_int max_two min_two max_three min_three max_four min_four   -- for this text's walks alone

end Go.Proofs.YtgdgklibilddgaaGreatDoor.PPr

namespace Go.Proofs.YtgdgklibilddgaaGreatDoor.PPr
open Go.RowKit Go.Proofs.YtgdgklibilddgaaGreatDoorW.PrintWords Go.Proofs.YtgdgklibilddgaaGreatDoorW.PrintLast Go.Proofs.YtgdgklibilddgaaGreatDoorW.PrintMore
attribute [local go_sem] max2_int min2_int max_two min_two max_three min_three max_four min_four   -- for this text's walks alone

attribute [local go_sem high] eqA24 eqA26 eqA38
end Go.Proofs.YtgdgklibilddgaaGreatDoor.PPr

namespace Go.Proofs.YtgdgklibilddgaaGreatDoor.PPr
open Go.RowKit Go.Proofs.YtgdgklibilddgaaGreatDoorW.PrintWords Go.Proofs.YtgdgklibilddgaaGreatDoorW.PrintLast Go.Proofs.YtgdgklibilddgaaGreatDoorW.PrintMore
attribute [local go_sem] max2_int min2_int max_two min_two max_three min_three max_four min_four   -- for this text's walks alone

attribute [local go_sem high] eqA26 eqA38
end Go.Proofs.YtgdgklibilddgaaGreatDoor.PPr

namespace Go.Proofs.YtgdgklibilddgaaGreatDoor.PPr
open Go.RowKit Go.Proofs.YtgdgklibilddgaaGreatDoorW.PrintWords Go.Proofs.YtgdgklibilddgaaGreatDoorW.PrintLast Go.Proofs.YtgdgklibilddgaaGreatDoorW.PrintMore
attribute [local go_sem] max2_int min2_int max_two min_two max_three min_three max_four min_four   -- for this text's walks alone

attribute [local go_sem high] eqA26 eqA38
end Go.Proofs.YtgdgklibilddgaaGreatDoor.PPr

namespace Go.Proofs.YtgdgklibilddgaaGreatDoor
open Go.RowKit Go.Proofs.YtgdgklibilddgaaGreatDoorW.PrintWords Go.Proofs.YtgdgklibilddgaaGreatDoor.PPr

/-- the lowest d bits, the lowest one first -/
def rowL : Nat → Nat → List Int
  | _, 0 => []
  | x, d + 1 => ((x % 2 : Nat) : Int) :: rowL (x / 2) d
theorem rowL_succ (x d : Nat) : rowL x (d + 1) = ((x % 2 : Nat) : Int) :: rowL (x / 2) d := rfl
theorem bit_nat {b : Int} (h : b = 0 ∨ b = 1) : ∃ c : Nat, b = (c : Int) ∧ c ≤ 1 := by
  rcases h with rfl | rfl
  · exact ⟨0, rfl, by omega⟩
  · exact ⟨1, rfl, by omega⟩
theorem rowL_len : ∀ (d x : Nat), (rowL x d).length = d
  | 0, _ => rfl
  | d + 1, x => by simp [rowL, rowL_len d]
theorem rowL_add : ∀ (a b x : Nat), rowL x (a + b) = rowL x a ++ rowL (x / 2 ^ a) b
  | 0, b, x => by simp [rowL]
  | a + 1, b, x => by
    rw [show a + 1 + b = (a + b) + 1 by omega, rowL, rowL_add a b, rowL, List.cons_append, Nat.div_div_eq_div_mul, Nat.pow_succ, Nat.mul_comm 2]
theorem rowL_mod : ∀ (a h l : Nat), rowL (h * 2 ^ a + l) a = rowL l a
  | 0, _, _ => rfl
  | a + 1, h, l => by
    have e : h * 2 ^ (a + 1) = 2 * (h * 2 ^ a) := by rw [Nat.pow_succ]; rw [← Nat.mul_assoc, Nat.mul_comm 2]
    rw [rowL, rowL, show (h * 2 ^ (a + 1) + l) % 2 = l % 2 by omega, show (h * 2 ^ (a + 1) + l) / 2 = h * 2 ^ a + l / 2 by omega, rowL_mod a h]
theorem rowL_join {a b h l : Nat} (hl : l < 2 ^ a) : rowL (h * 2 ^ a + l) (a + b) = rowL l a ++ rowL h b := by
  rw [rowL_add, rowL_mod]
  congr 2
  rw [Nat.mul_comm, Nat.mul_add_div (Nat.two_pow_pos a), Nat.div_eq_of_lt hl, Nat.add_zero]
theorem rowL_bit : ∀ (d x : Nat), ∀ b ∈ rowL x d, b = 0 ∨ b = 1
  | 0, _, b, h => by cases h
  | d + 1, x, b, h => by
    rw [rowL] at h
    rcases List.mem_cons.1 h with rfl | h
    · omega
    · exact rowL_bit d (x / 2) b h
theorem tmod2 (x : Nat) : wrap64 (Int.tmod (x : Int) 2) = ((x % 2 : Nat) : Int) := by
  rw [Int.tmod_eq_emod_of_nonneg (by omega)]; unfold wrap64; omega
theorem tdiv2 (x : Nat) (h : x < 18446744073709551616) : IntKind.u64.wrap (Int.tdiv (x : Int) 2) = ((x / 2 : Nat) : Int) := by
  rw [Int.tdiv_eq_ediv_of_nonneg (by omega)]
  show ((x : Int) / 2) % 18446744073709551616 = _
  omega
theorem w64 {i : Int} (h0 : -9223372036854775808 ≤ i) (h : i < 9223372036854775808) : wrap64 i = i := by unfold wrap64; omega
theorem pbits_l1 (d : Nat) : ∀ (k : Nat) (acc : List Int) (x : Nat), d ≤ 64 → x < 18446744073709551616 → acc.length + d ≤ 1000 → platbookref01_Bits.l1 (k + d + 1) acc x (64 - (d : Int)) = some (acc ++ rowL x d) := by
  induction d with
  | zero => intro k acc x _ _ _; rw [platbookref01_Bits.l1, if_neg (by omega)]; simp [rowL]
  | succ d ih =>
    intro k acc x hd hx ha
    rw [show k + (d + 1) + 1 = (k + d + 1) + 1 by omega, platbookref01_Bits.l1, if_pos (by omega), if_pos (by omega), tmod2, tdiv2 x hx, w64 (by omega) (by omega), show (64 : Int) - ((d + 1 : Nat) : Int) + 1 = 64 - (d : Int) by omega, ih k _ (x / 2) (by omega) (by omega) (by simp; omega), rowL_succ x d]
    simp
theorem pbits_l0 (d : Nat) : ∀ (k : Nat) (acc : List Int) (x h : Nat), d ≤ 64 → x < 18446744073709551616 → h < 18446744073709551616 → acc.length + d + 64 ≤ 1000 → platbookref01_Bits.l0 (k + d + 66) acc x h (64 - (d : Int)) = some (acc ++ rowL x d ++ rowL h 64) := by
  induction d with
  | zero =>
    intro k acc x h _ _ hh ha
    rw [show k + 0 + 66 = (k + 64 + 1) + 1 by omega, platbookref01_Bits.l0, if_neg (by omega)]
    have := pbits_l1 64 k acc h (by omega) hh (by omega)
    rw [show (64 : Int) - ((64 : Nat) : Int) = 0 by omega] at this
    rw [this]; simp [rowL]
  | succ d ih =>
    intro k acc x h hd hx hh ha
    rw [show k + (d + 1) + 66 = (k + d + 66) + 1 by omega, platbookref01_Bits.l0, if_pos (by omega), if_pos (by omega), tmod2, tdiv2 x hx, w64 (by omega) (by omega), show (64 : Int) - ((d + 1 : Nat) : Int) + 1 = 64 - (d : Int) by omega, ih k _ (x / 2) h (by omega) (by omega) hh (by simp; omega), rowL_succ x d]
    simp
theorem pbits_f (k n : Nat) (hn : n < 340282366920938463463374607431768211456) : platbookref01_Bits.f (k + 130) (hi n) (lo n) = some (rowL n 128) := by
  unfold platbookref01_Bits.f hi lo
  have := pbits_l0 64 k [] (n % 18446744073709551616) (n / 18446744073709551616 % 18446744073709551616) (by omega) (by omega) (by omega) (by simp)
  rw [show (64 : Int) - ((64 : Nat) : Int) = 0 by omega] at this
  rw [show k + 130 = k + 64 + 66 by omega, this]
  have e := rowL_join (a := 64) (b := 64) (h := n / 18446744073709551616 % 18446744073709551616) (l := n % 18446744073709551616) (Nat.mod_lt _ (by decide))
  rw [show (2 : Nat) ^ 64 = 18446744073709551616 by decide, show n / 18446744073709551616 % 18446744073709551616 * 18446744073709551616 + n % 18446744073709551616 = n by omega] at e
  rw [List.nil_append, ← e]
/-- an address's bits, the highest one first -/
def rowT (n w : Nat) : List Int := (rowL n w).reverse
theorem prow_l0 (j : Nat) : ∀ (k : Nat) (xs acc : List Int), j ≤ xs.length → xs.length ≤ 1000 → acc.length + j ≤ 1000 → platbookref03_Row.l0 (k + j + 1) xs acc ((j : Int) - 1) = some (acc ++ (xs.take j).reverse) := by
  induction j with
  | zero => intro k xs acc _ _ _; rw [platbookref03_Row.l0, if_neg (by omega)]; simp
  | succ j ih =>
    intro k xs acc hj hx ha
    have e : rd xs (((j + 1 : Nat) : Int) - 1) = xs[j] := by
      unfold rd; rw [show ((((j + 1 : Nat) : Int) - 1)).toNat = j by omega]; simp [List.getD, List.getElem?_eq_getElem (show j < xs.length by omega)]
    rw [show k + (j + 1) + 1 = (k + j + 1) + 1 by omega, platbookref03_Row.l0, if_pos (by omega), if_pos (by omega), if_pos (by omega), if_pos (by omega), w64 (by omega) (by omega), e, show ((j + 1 : Nat) : Int) - 1 - 1 = (j : Int) - 1 by omega, ih k xs _ (by omega) hx (by simp; omega), List.take_succ_eq_append_getElem (show j < xs.length by omega), List.reverse_append]
    simp
theorem width_hl (v : Bool) (n : Nat) : platbookref02_Width.f v (hi n) (lo n) = some ((widthN v : Nat) : Int) := by
  unfold platbookref02_Width.f; rw [if_pos (by simpa using okW_hl n)]
theorem widthN_le (v : Bool) : widthN v ≤ 128 := by cases v <;> decide
theorem widthN_pos (v : Bool) : 32 ≤ widthN v := by cases v <;> decide
theorem prow_f (k : Nat) (v : Bool) (n : Nat) (hn : n < 340282366920938463463374607431768211456) : platbookref03_Row.f (k + 300) v (hi n) (lo n) = some (rowT n (widthN v)) := by
  unfold platbookref03_Row.f
  rw [show k + 300 = (k + 170) + 130 by omega, pbits_f _ n hn, width_hl]
  simp only [Option.bind_some]
  have hw := widthN_le v
  have hp := widthN_pos v
  rw [w64 (by omega) (by omega), show k + 170 + 130 = (k + 299 - widthN v) + widthN v + 1 by omega, prow_l0 _ _ _ _ (by rw [rowL_len]; exact hw) (by rw [rowL_len]; omega) (by simp; omega)]
  have e : rowL n 128 = rowL n (widthN v) ++ rowL (n / 2 ^ widthN v) (128 - widthN v) := by rw [← rowL_add]; congr 1; omega
  rw [e, List.take_left' (rowL_len _ _)]; rfl
/-- the number of a row of bits, the lowest one first -/
def valL : List Int → Nat
  | [] => 0
  | b :: r => b.toNat + 2 * valL r
theorem valL_append : ∀ (a b : List Int), valL (a ++ b) = valL a + 2 ^ a.length * valL b
  | [], b => by simp [valL]
  | x :: a, b => by rw [List.cons_append, valL, valL, valL_append a b, List.length_cons, Nat.pow_succ, Nat.mul_add]; rw [Nat.mul_comm (2 ^ a.length) 2, Nat.mul_assoc]; omega
theorem valL_lt : ∀ (a : List Int), (∀ b ∈ a, b = 0 ∨ b = 1) → valL a < 2 ^ a.length
  | [], _ => by simp [valL]
  | x :: a, h => by
    have h1 := valL_lt a (fun b hb => h b (by simp [hb]))
    have h2 := h x (by simp)
    rw [valL, List.length_cons, Nat.pow_succ]
    rcases h2 with rfl | rfl
    · simp; omega
    · simp; omega
theorem valL_row : ∀ (d x : Nat), valL (rowL x d) = x % 2 ^ d
  | 0, x => by simp [rowL, valL, Nat.mod_one]
  | d + 1, x => by
    rw [rowL, valL, valL_row d, Nat.pow_succ, Nat.mul_comm (2 ^ d) 2, Nat.mod_mul]
    omega
theorem valL_rep (d : Nat) : valL (List.replicate d 0) = 0 := by
  induction d with
  | zero => rfl
  | succ d ih => rw [List.replicate_succ, valL, ih]; rfl
theorem valL_ones (d : Nat) : valL (List.replicate d 1) = 2 ^ d - 1 := by
  induction d with
  | zero => rfl
  | succ d ih => rw [List.replicate_succ, valL, ih, Nat.pow_succ]; have := Nat.two_pow_pos d; simp; omega
theorem u64w {x : Nat} (h : x < 18446744073709551616) : IntKind.u64.wrap (x : Int) = (x : Int) := by show (x : Int) % 18446744073709551616 = _; omega
theorem pnum_l1 (j : Nat) : ∀ (k : Nat) (L : List Int) (H x : Nat), (∀ b ∈ L, b = 0 ∨ b = 1) → L.length ≤ 1000 → j ≤ 1000 → x * 2 ^ j + valL (L.take j) < 18446744073709551616 → platbookref01_Num.l1 (k + j + 1) L ((j : Int) - 1) H x = some ((H : Int), ((x * 2 ^ j + valL (L.take j) : Nat) : Int)) := by
  induction j with
  | zero => intro k L H x _ _ _ _; rw [platbookref01_Num.l1, if_neg (by omega)]; simp [valL]
  | succ j ih =>
    intro k L H x hb hl hj hx
    have hp : 2 ^ (j + 1) = 2 * 2 ^ j := by rw [Nat.pow_succ]; omega
    have hp0 := Nat.two_pow_pos j
    rw [show k + (j + 1) + 1 = (k + j + 1) + 1 by omega, platbookref01_Num.l1, if_pos (by omega)]
    by_cases h : j < L.length
    · have e : L.take (j + 1) = L.take j ++ [L[j]] := List.take_succ_eq_append_getElem h
      have hbj : L[j] = 0 ∨ L[j] = 1 := hb _ (List.getElem_mem h)
      obtain ⟨c, hc, hc2⟩ : ∃ c : Nat, L[j] = (c : Int) ∧ c ≤ 1 := by exact bit_nat hbj
      have er : rd L (((j + 1 : Nat) : Int) - 1) = (c : Int) := by
        unfold rd; rw [show ((((j + 1 : Nat) : Int) - 1)).toNat = j by omega]; simp [List.getD, List.getElem?_eq_getElem h, hc]
      have ev : valL (L.take (j + 1)) = valL (L.take j) + 2 ^ j * c := by
        rw [e, valL_append, List.length_take, Nat.min_eq_left (by omega), hc]; simp [valL]
      have e2 : x * 2 ^ (j + 1) + valL (L.take (j + 1)) = (2 * x + c) * 2 ^ j + valL (L.take j) := by
        rw [ev, hp, Nat.add_mul, Nat.mul_comm (2 ^ j) c, ← Nat.mul_assoc, Nat.mul_comm x 2]; omega
      rw [e2] at hx ⊢
      have hx2 : (2 * x + c) * 1 ≤ (2 * x + c) * 2 ^ j := Nat.mul_le_mul_left _ hp0
      rw [if_pos (by omega), if_pos (by omega), er, w64 (by omega) (by omega), show ((x : Int) * 2) = ((2 * x : Nat) : Int) by omega, u64w (x := 2 * x) (by omega), u64w (x := c) (by omega), show ((2 * x : Nat) : Int) + (c : Int) = ((2 * x + c : Nat) : Int) by omega, u64w (by omega), show ((j + 1 : Nat) : Int) - 1 - 1 = (j : Int) - 1 by omega]
      exact ih k L H (2 * x + c) hb hl (by omega) hx
    · have e : L.take (j + 1) = L.take j := by rw [List.take_of_length_le (by omega), List.take_of_length_le (by omega)]
      have e2 : x * 2 ^ (j + 1) + valL (L.take (j + 1)) = (2 * x) * 2 ^ j + valL (L.take j) := by
        rw [e, hp, ← Nat.mul_assoc, Nat.mul_comm x 2]
      rw [e2] at hx ⊢
      have hx2 : (2 * x) * 1 ≤ (2 * x) * 2 ^ j := Nat.mul_le_mul_left _ hp0
      rw [if_neg (by omega), w64 (by omega) (by omega), show ((x : Int) * 2) = ((2 * x : Nat) : Int) by omega, u64w (by omega), show ((j + 1 : Nat) : Int) - 1 - 1 = (j : Int) - 1 by omega]
      exact ih k L H (2 * x) hb hl (by omega) hx
theorem pnum_l0 (j : Nat) : ∀ (k : Nat) (L : List Int) (x : Nat), (∀ b ∈ L, b = 0 ∨ b = 1) → L.length ≤ 1000 → j ≤ 64 → x * 2 ^ j + valL ((L.drop 64).take j) < 18446744073709551616 → platbookref01_Num.l0 (k + j + 66) L (64 + (j : Int) - 1) x 0 = some (((x * 2 ^ j + valL ((L.drop 64).take j) : Nat) : Int), ((valL (L.take 64) : Nat) : Int)) := by
  induction j with
  | zero =>
    intro k L x hb hl _ _
    rw [show k + 0 + 66 = (k + 64 + 1) + 1 by omega, platbookref01_Num.l0, if_neg (by omega)]
    have hv : valL (L.take 64) < 2 ^ 64 := Nat.lt_of_lt_of_le (valL_lt _ (fun b h => hb b (List.mem_of_mem_take h))) (Nat.pow_le_pow_right (by omega) (by rw [List.length_take]; omega))
    have := pnum_l1 64 k L x 0 hb hl (by omega) (by rw [Nat.zero_mul, Nat.zero_add]; exact hv)
    rw [show ((64 : Nat) : Int) - 1 = 63 by omega, show k + 64 + 1 = k + 65 from rfl, show ((0 : Nat) : Int) = 0 from rfl] at this
    rw [this]; simp [valL]
  | succ j ih =>
    intro k L x hb hl hj hx
    have hp : 2 ^ (j + 1) = 2 * 2 ^ j := by rw [Nat.pow_succ]; omega
    have hp0 := Nat.two_pow_pos j
    rw [show k + (j + 1) + 66 = (k + j + 66) + 1 by omega, platbookref01_Num.l0, if_pos (by omega)]
    by_cases h : 64 + j < L.length
    · have hd : j < (L.drop 64).length := by rw [List.length_drop]; omega
      have e : (L.drop 64).take (j + 1) = (L.drop 64).take j ++ [L[64 + j]] := by rw [List.take_succ_eq_append_getElem hd, List.getElem_drop]
      have hbj : L[64 + j] = 0 ∨ L[64 + j] = 1 := hb _ (List.getElem_mem h)
      obtain ⟨c, hc, hc2⟩ : ∃ c : Nat, L[64 + j] = (c : Int) ∧ c ≤ 1 := by exact bit_nat hbj
      have er : rd L (64 + ((j + 1 : Nat) : Int) - 1) = (c : Int) := by
        unfold rd; rw [show (64 + ((j + 1 : Nat) : Int) - 1).toNat = 64 + j by omega]; simp [List.getD, List.getElem?_eq_getElem h, hc]
      have ev : valL ((L.drop 64).take (j + 1)) = valL ((L.drop 64).take j) + 2 ^ j * c := by
        rw [e, valL_append, List.length_take, Nat.min_eq_left (by omega), hc]; simp [valL]
      have e2 : x * 2 ^ (j + 1) + valL ((L.drop 64).take (j + 1)) = (2 * x + c) * 2 ^ j + valL ((L.drop 64).take j) := by
        rw [ev, hp, Nat.add_mul, Nat.mul_comm (2 ^ j) c, ← Nat.mul_assoc, Nat.mul_comm x 2]; omega
      rw [e2] at hx ⊢
      have hx2 : (2 * x + c) * 1 ≤ (2 * x + c) * 2 ^ j := Nat.mul_le_mul_left _ hp0
      rw [if_pos (by omega), if_pos (by omega), er, w64 (by omega) (by omega), show ((x : Int) * 2) = ((2 * x : Nat) : Int) by omega, u64w (x := 2 * x) (by omega), u64w (x := c) (by omega), show ((2 * x : Nat) : Int) + (c : Int) = ((2 * x + c : Nat) : Int) by omega, u64w (by omega), show 64 + ((j + 1 : Nat) : Int) - 1 - 1 = 64 + (j : Int) - 1 by omega]
      exact ih k L (2 * x + c) hb hl (by omega) hx
    · have hd : (L.drop 64).length ≤ j := by rw [List.length_drop]; omega
      have e : (L.drop 64).take (j + 1) = (L.drop 64).take j := by rw [List.take_of_length_le (by omega), List.take_of_length_le (by omega)]
      have e2 : x * 2 ^ (j + 1) + valL ((L.drop 64).take (j + 1)) = (2 * x) * 2 ^ j + valL ((L.drop 64).take j) := by
        rw [e, hp, ← Nat.mul_assoc, Nat.mul_comm x 2]
      rw [e2] at hx ⊢
      have hx2 : (2 * x) * 1 ≤ (2 * x) * 2 ^ j := Nat.mul_le_mul_left _ hp0
      rw [if_neg (by omega), w64 (by omega) (by omega), show ((x : Int) * 2) = ((2 * x : Nat) : Int) by omega, u64w (by omega), show 64 + ((j + 1 : Nat) : Int) - 1 - 1 = 64 + (j : Int) - 1 by omega]
      exact ih k L (2 * x) hb hl (by omega) hx
theorem pnum_f (k : Nat) (L : List Int) (hb : ∀ b ∈ L, b = 0 ∨ b = 1) (hl : L.length ≤ 128) : platbookref01_Num.f (k + 130) L = some (hi (valL L), lo (valL L)) := by
  unfold platbookref01_Num.f
  have hbd : ∀ b ∈ L.drop 64, b = 0 ∨ b = 1 := fun b h => hb b (List.mem_of_mem_drop h)
  have hv : valL (L.drop 64) < 2 ^ 64 := Nat.lt_of_lt_of_le (valL_lt _ hbd) (Nat.pow_le_pow_right (by omega) (by rw [List.length_drop]; omega))
  have ht : (L.drop 64).take 64 = L.drop 64 := List.take_of_length_le (by rw [List.length_drop]; omega)
  have := pnum_l0 64 k L 0 hb (by omega) (by omega) (by rw [Nat.zero_mul, Nat.zero_add, ht]; exact hv)
  rw [show (64 : Int) + ((64 : Nat) : Int) - 1 = 127 by omega, Nat.zero_mul, Nat.zero_add, ht] at this
  rw [show k + 130 = k + 64 + 66 by omega]
  rw [show ((0 : Nat) : Int) = 0 from rfl] at this
  rw [this]
  have hlo : valL (L.take 64) < 2 ^ 64 := Nat.lt_of_lt_of_le (valL_lt _ (fun b h => hb b (List.mem_of_mem_take h))) (Nat.pow_le_pow_right (by omega) (by rw [List.length_take]; omega))
  have e : valL L = valL (L.take 64) + 2 ^ (L.take 64).length * valL (L.drop 64) := by rw [← valL_append, List.take_append_drop]
  have e2 : valL L = valL (L.take 64) + 18446744073709551616 * valL (L.drop 64) := by
    by_cases h : 64 ≤ L.length
    · rw [e, List.length_take, Nat.min_eq_left h]
    · have : L.drop 64 = [] := List.drop_eq_nil_of_le (by omega)
      rw [e, this]; simp [valL]
  rw [show (2 : Nat) ^ 64 = 18446744073709551616 by decide] at hv hlo
  unfold hi lo
  rw [show valL L / 18446744073709551616 % 18446744073709551616 = valL (L.drop 64) by omega, show valL L % 18446744073709551616 = valL (L.take 64) by omega]
theorem paddr_l0 (j : Nat) : ∀ (k : Nat) (v : Bool) (xs acc : List Int), j ≤ xs.length → xs.length ≤ 128 → acc.length + j ≤ 128 → (∀ b ∈ xs, b = 0 ∨ b = 1) → (∀ b ∈ acc, b = 0 ∨ b = 1) → platbookref03_Addr.l0 (k + j + 131) v xs acc ((j : Int) - 1) = some (v, hi (valL (acc ++ (xs.take j).reverse)), lo (valL (acc ++ (xs.take j).reverse))) := by
  induction j with
  | zero =>
    intro k v xs acc _ _ ha hb1 hb2
    rw [show k + 0 + 131 = (k + 130) + 1 by omega, platbookref03_Addr.l0, if_neg (by omega), pnum_f k acc hb2 (by omega)]
    simp
  | succ j ih =>
    intro k v xs acc hj hx ha hb1 hb2
    have e : rd xs (((j + 1 : Nat) : Int) - 1) = xs[j] := by
      unfold rd; rw [show ((((j + 1 : Nat) : Int) - 1)).toNat = j by omega]; simp [List.getD, List.getElem?_eq_getElem (show j < xs.length by omega)]
    rw [show k + (j + 1) + 131 = (k + j + 131) + 1 by omega, platbookref03_Addr.l0, if_pos (by omega), if_pos (by omega), if_pos (by omega), if_pos (by omega), w64 (by omega) (by omega), e, show ((j + 1 : Nat) : Int) - 1 - 1 = (j : Int) - 1 by omega, ih k v xs _ (by omega) hx (by simp; omega) hb1 (by
      intro b h
      rcases List.mem_append.1 h with h | h
      · exact hb2 b h
      · rw [List.mem_singleton] at h; subst h; exact hb1 _ (List.getElem_mem _)), List.take_succ_eq_append_getElem (show j < xs.length by omega), List.reverse_append]
    simp
theorem paddr_f (k : Nat) (v : Bool) (xs : List Int) (hx : xs.length ≤ 128) (hb : ∀ b ∈ xs, b = 0 ∨ b = 1) : platbookref03_Addr.f (k + 300) v xs = some (v, hi (valL xs.reverse), lo (valL xs.reverse)) := by
  unfold platbookref03_Addr.f
  rw [w64 (by omega) (by omega), show k + 300 = (k + 169 - xs.length) + xs.length + 131 by omega, paddr_l0 _ _ _ _ _ (Nat.le_refl _) hx (by simpa using hx) hb (by simp)]
  simp
theorem pfilled_l0 (d : Nat) : ∀ (k i : Nat) (bit : Int) (xs : List Int) (v : Bool) (h l : Int), i + d = xs.length → xs.length ≤ 128 → (∀ b ∈ xs, b = 0 ∨ b = 1) → (bit = 0 ∨ bit = 1) → platbookref03_Filled.l0 (k + d + 301) bit xs i v h l = some (v, hi (valL (xs.take i ++ List.replicate d bit).reverse), lo (valL (xs.take i ++ List.replicate d bit).reverse)) := by
  induction d with
  | zero =>
    intro k i bit xs v h l hi hx hb _
    rw [show k + 0 + 301 = (k + 300) + 1 by omega, platbookref03_Filled.l0, if_neg (by omega), paddr_f k v xs hx hb, List.take_of_length_le (by omega)]
    simp
  | succ d ih =>
    intro k i bit xs v h l hi hx hb hbit
    rw [show k + (d + 1) + 301 = (k + d + 301) + 1 by omega, platbookref03_Filled.l0, if_pos (by omega), if_pos (by omega), w64 (by omega) (by omega), show ((i : Int)).toNat = i by omega, show (i : Int) + 1 = ((i + 1 : Nat) : Int) by omega, ih k (i + 1) bit (xs.set i bit) v h l (by rw [List.length_set]; omega) (by rw [List.length_set]; omega) (by
      intro b h
      rcases List.mem_or_eq_of_mem_set h with h | rfl
      · exact hb b h
      · exact hbit) hbit]
    have e : (xs.set i bit).take (i + 1) = xs.take i ++ [bit] := by
      rw [List.take_succ_eq_append_getElem (by rw [List.length_set]; omega), List.getElem_set_self, List.take_set_of_le (Nat.le_refl _)]
    rw [e, List.append_assoc, List.replicate_succ]; rfl
theorem rowT_len (n w : Nat) : (rowT n w).length = w := by unfold rowT; rw [List.length_reverse, rowL_len]
theorem pfilled_f (k : Nat) (v : Bool) (n : Nat) (i : Nat) (bit : Int) (hn : n < 340282366920938463463374607431768211456) (hi' : i ≤ widthN v) (hbit : bit = 0 ∨ bit = 1) : platbookref03_Filled.f (k + 500) v (hi n) (lo n) i bit = some (v, hi (n / 2 ^ (widthN v - i) % 2 ^ i * 2 ^ (widthN v - i) + bit.toNat * (2 ^ (widthN v - i) - 1)), lo (n / 2 ^ (widthN v - i) % 2 ^ i * 2 ^ (widthN v - i) + bit.toNat * (2 ^ (widthN v - i) - 1))) := by
  unfold platbookref03_Filled.f
  have hw := widthN_le v
  rw [show k + 500 = (k + 200) + 300 by omega, prow_f _ v n hn]
  simp only [Option.bind_some]
  rw [show k + 200 + 300 = (k + 199 - (widthN v - i)) + (widthN v - i) + 301 by omega, pfilled_l0 (widthN v - i) _ i bit _ v _ _ (by rw [rowT_len]; omega) (by rw [rowT_len]; omega) (by intro b h; unfold rowT at h; rw [List.mem_reverse] at h; exact rowL_bit _ _ b h) hbit]
  have e : valL ((rowT n (widthN v)).take i ++ List.replicate (widthN v - i) bit).reverse = n / 2 ^ (widthN v - i) % 2 ^ i * 2 ^ (widthN v - i) + bit.toNat * (2 ^ (widthN v - i) - 1) := by
    rw [List.reverse_append, List.reverse_replicate, valL_append, List.length_replicate]
    have e1 : ((rowT n (widthN v)).take i).reverse = rowL (n / 2 ^ (widthN v - i)) i := by
      unfold rowT
      rw [show widthN v = (widthN v - i) + i by omega, rowL_add, List.reverse_append, List.take_left' (by rw [List.length_reverse, rowL_len]), List.reverse_reverse]
      rw [show widthN v - i + i - i = widthN v - i by omega]
    have e2 : valL (List.replicate (widthN v - i) bit) = bit.toNat * (2 ^ (widthN v - i) - 1) := by
      rcases hbit with rfl | rfl
      · rw [valL_rep]; simp
      · rw [valL_ones]; simp
    rw [e1, valL_row, e2, Nat.mul_comm (2 ^ (widthN v - i))]
    omega
  rw [e]
end Go.Proofs.YtgdgklibilddgaaGreatDoor

namespace Go.Proofs.YtgdgklibilddgaaGreatDoor
open Go.RowKit Go.Proofs.YtgdgklibilddgaaGreatDoorW.PrintWords Go.Proofs.YtgdgklibilddgaaGreatDoor.PPr

/-- as a rewriting step, not by computation -/
theorem bsome {α β : Type} (x : α) (f : α → Option β) : (some x).bind f = f x := by
  have h : ∀ y : Option α, y = some x → y.bind f = f x := by intro y hy; subst hy; rfl
  exact h _ rfl
theorem aright_hl (v : Bool) {n : Nat} (hn : n < 340282366920938463463374607431768211456) : addr_Right.f v (hi n) (lo n) = some (rightB v n) := by
  unfold addr_Right.f; rw [if_pos (okW_hl n), num_hi_lo hn]
theorem rright02_hl (v : Bool) {n : Nat} (hn : n < 340282366920938463463374607431768211456) : platbookref02_Right.f v (hi n) (lo n) = some (rightB v n) := by
  unfold platbookref02_Right.f; rw [if_pos (okW_hl n), num_hi_lo hn]
theorem awidth_hl (v : Bool) (n : Nat) : addr_Width.f v (hi n) (lo n) = some ((widthN v : Nat) : Int) := by
  unfold addr_Width.f; rw [if_pos (okW_hl n)]
theorem pright_hl (v : Bool) {n : Nat} (b : Int) (hn : n < 340282366920938463463374607431768211456) : prefix_Right.f v (hi n) (lo n) b = some (rightP v n b) := by
  unfold prefix_Right.f; rw [if_pos (okW_hl n), num_hi_lo hn]
theorem free_hl (v : Bool) (n : Nat) {b : Int} (h0 : 0 ≤ b) (h1 : b ≤ (widthN v : Int)) : prefix_free.f v (hi n) (lo n) b = some (hi (2 ^ fr v b - 1), lo (2 ^ fr v b - 1)) := by
  unfold prefix_free.f; rw [okW_hl, decide_eq_true h0, decide_eq_true h1]; rfl
theorem not_hl {n : Nat} (hn : n < 340282366920938463463374607431768211456) : num_Not.f (hi n) (lo n) = some (hi (notN n), lo (notN n)) := by
  unfold num_Not.f; rw [if_pos (okW_hl n), num_hi_lo hn]
theorem and_hl {n m : Nat} (hn : n < 340282366920938463463374607431768211456) (hm : m < 340282366920938463463374607431768211456) : num_And.f (hi n) (lo n) (hi m) (lo m) = some (hi (n &&& m), lo (n &&& m)) := by
  unfold num_And.f; rw [okW_hl, okW_hl, num_hi_lo hn, num_hi_lo hm]; rfl
theorem or_hl {n m : Nat} (hn : n < 340282366920938463463374607431768211456) (hm : m < 340282366920938463463374607431768211456) : num_Or.f (hi n) (lo n) (hi m) (lo m) = some (hi (n ||| m), lo (n ||| m)) := by
  unfold num_Or.f; rw [okW_hl, okW_hl, num_hi_lo hn, num_hi_lo hm]; rfl
theorem hl_eq {a b : Nat} (ha : a < 340282366920938463463374607431768211456) (hb : b < 340282366920938463463374607431768211456) : (hi a == hi b && lo a == lo b) = (a == b) := by
  rw [Bool.eq_iff_iff]; simp only [Bool.and_eq_true, beq_iff_eq]; exact hi_lo_eq ha hb
theorem rightP_iff {v : Bool} {n : Nat} {b : Int} : rightP v n b = true ↔ n < 2 ^ widthN v ∧ 0 ≤ b ∧ b ≤ (widthN v : Int) ∧ n % 2 ^ fr v b = 0 := by
  unfold rightP rightB; simp
theorem rightB_iff {v : Bool} {n : Nat} : rightB v n = true ↔ n < 2 ^ widthN v := by unfold rightB; simp
theorem pow_w (v : Bool) : 2 ^ widthN v ≤ 340282366920938463463374607431768211456 := by cases v <;> decide
theorem top_lt {f n : Nat} (hn : n < 340282366920938463463374607431768211456) : topN f n < 340282366920938463463374607431768211456 := Nat.lt_of_le_of_lt (topN_le f n) hn
/-- without the bits behind: the reference's way -/
theorem top_ref {v : Bool} {n i : Nat} (hn : n < 2 ^ widthN v) (hi : i ≤ widthN v) : n / 2 ^ (widthN v - i) % 2 ^ i * 2 ^ (widthN v - i) = topN (widthN v - i) n := by
  unfold topN
  rw [Nat.mod_eq_of_lt]
  rw [Nat.div_lt_iff_lt_mul (Nat.two_pow_pos _), ← Nat.pow_add, show i + (widthN v - i) = widthN v by omega]; exact hn
def ofS (v : Bool) (n : Nat) (b : Int) : Bool × Nat × Int × Int := if rightB v n = true ∧ 0 ≤ b ∧ b ≤ (widthN v : Int) then (v, topN (fr v b) n, b, 0) else (false, 0, 0, 1)
def tup5 (x : Bool × Nat × Int × Int) : Bool × Int × Int × Int × Int := (x.1, hi x.2.1, lo x.2.1, x.2.2.1, x.2.2.2)
theorem hi00 : hi 0 = 0 := rfl
theorem lo00 : lo 0 = 0 := rfl
theorem fr_lt (v : Bool) (b : Int) : 2 ^ fr v b - 1 < 340282366920938463463374607431768211456 := pow_fr v b
theorem of_f (K : Nat) (hK : 1 ≤ K) (v : Bool) (n : Nat) (b : Int) (hn : n < 340282366920938463463374607431768211456) : prefix_Of.f K v (hi n) (lo n) b = some (tup5 (ofS v n b)) := by
  obtain ⟨k, rfl⟩ : ∃ k, K = k + 1 := ⟨K - 1, by omega⟩
  unfold prefix_Of.f ofS
  rw [aright_hl v hn]
  simp only [bsome]
  cases hr : rightB v n
  · rw [if_neg (by simp), if_neg (by simp), prefix_Of.j0, if_pos rfl]; rfl
  · rw [if_pos rfl]
    by_cases h0 : b < 0
    · rw [if_pos h0, if_neg (by omega), prefix_Of.j0, if_pos rfl]; rfl
    · rw [if_neg h0, awidth_hl]
      simp only [bsome]
      by_cases h1 : b ≤ (widthN v : Int)
      · rw [if_pos ⟨trivial, by omega, h1⟩, prefix_Of.j0, if_neg (by simp; omega), free_hl v n (by omega) h1]
        simp only [bsome]
        have hf := fr_lt v b
        have hnn : notN (2 ^ fr v b - 1) < 340282366920938463463374607431768211456 := by unfold notN; omega
        rw [not_hl hf]
        simp only [bsome]
        rw [and_hl hn hnn]
        have e : n &&& notN (2 ^ fr v b - 1) = topN (fr v b) n := by
          have := and_not (n := n) (f := fr v b) (k := 128) (fr_le v b) (by rw [show (2 : Nat) ^ 128 = 340282366920938463463374607431768211456 by decide]; exact hn)
          rw [← this]; unfold notN
          rw [show (340282366920938463463374607431768211455 : Nat) = 2 ^ 128 - 1 by decide]
        rw [e]
        simp only [tup5, bsome]
      · rw [if_neg (by simp only [true_and]; omega), prefix_Of.j0, if_pos (by simp; omega)]; rfl
theorem rrightP_f (K : Nat) (hK : 600 ≤ K) (v : Bool) (n : Nat) (b : Int) (hn : n < 340282366920938463463374607431768211456) : platbookref03_Right.f K v (hi n) (lo n) b = some (rightP v n b) := by
  obtain ⟨k, rfl⟩ : ∃ k, K = k + 500 := ⟨K - 500, by omega⟩
  unfold platbookref03_Right.f
  rw [rright02_hl v hn]
  simp only [bsome]
  unfold rightP
  cases hr : rightB v n
  · rw [if_neg (by simp)]; rfl
  · rw [if_pos rfl]
    by_cases h0 : b < 0
    · rw [if_pos h0, decide_eq_false (by omega)]; rfl
    · rw [if_neg h0, width_hl, decide_eq_true (show 0 ≤ b by omega)]
      simp only [bsome]
      by_cases h1 : b ≤ (widthN v : Int)
      · rw [if_neg (by omega), decide_eq_true h1]
        obtain ⟨i, rfl⟩ := Int.eq_ofNat_of_zero_le (show 0 ≤ b by omega)
        rw [pfilled_f k v n i 0 hn (by omega) (.inl rfl), top_ref (rightB_iff.1 hr) (by omega)]
        have e : fr v (i : Int) = widthN v - i := by unfold fr; omega
        simp only [bsome, Int.toNat_zero, Nat.zero_mul, Nat.add_zero]
        rw [hl_eq (top_lt hn) hn, e]
        simp only [beq_self_eq_true, Bool.true_and, Option.some.injEq]
        rw [Bool.eq_iff_iff]; simp [topN_eq]
      · rw [if_pos (by omega), decide_eq_false h1]; rfl
theorem last_lt {v : Bool} {n : Nat} {b : Int} (h : rightP v n b = true) : n + (2 ^ fr v b - 1) < 2 ^ widthN v := by
  obtain ⟨h1, h2, h3, h4⟩ := rightP_iff.1 h
  have hf : fr v b ≤ widthN v := by unfold fr; omega
  have hp := Nat.two_pow_pos (fr v b)
  obtain ⟨q, hq⟩ := Nat.dvd_of_mod_eq_zero h4
  have e : 2 ^ widthN v = 2 ^ fr v b * 2 ^ (widthN v - fr v b) := by rw [← Nat.pow_add]; congr 1; omega
  rw [hq, e] at h1
  rw [hq, e]
  have h5 : q < 2 ^ (widthN v - fr v b) := Nat.lt_of_mul_lt_mul_left h1
  have h6 : 2 ^ fr v b * (q + 1) ≤ 2 ^ fr v b * 2 ^ (widthN v - fr v b) := Nat.mul_le_mul_left _ h5
  rw [Nat.mul_add, Nat.mul_one] at h6
  omega
def hasS (v : Bool) (n : Nat) (b : Int) (u : Bool) (m : Nat) : Bool := rightP v n b && (rightB u m && (u == v && topN (fr v b) m == n))
theorem has_f (K : Nat) (hK : 1 ≤ K) (v : Bool) (n : Nat) (b : Int) (u : Bool) (m : Nat) (hn : n < 340282366920938463463374607431768211456) (hm : m < 340282366920938463463374607431768211456) : prefix_Has.f K v (hi n) (lo n) b u (hi m) (lo m) = some (hasS v n b u m) := by
  unfold prefix_Has.f hasS
  rw [pright_hl v b hn, aright_hl u hm, of_f K hK u m b hm]
  simp only [bsome]
  cases h : rightP v n b
  · rfl
  · cases hu : rightB u m
    · rfl
    · rw [if_pos rfl, if_pos rfl]
      by_cases huv : u = v
      · subst huv
        obtain ⟨h1, h2, h3, h4⟩ := rightP_iff.1 h
        rw [if_neg (by simp)]
        unfold ofS
        rw [if_pos ⟨hu, h2, h3⟩]
        simp only [tup5]
        rw [hl_eq (top_lt hm) hn]
        simp
      · rw [if_pos (by simpa using huv)]
        simp [huv]
def withinS (v : Bool) (n : Nat) (b : Int) (u : Bool) (m : Nat) (c : Int) : Bool := rightP v n b && (rightP u m c && (decide (c ≤ b) && hasS u m c v n))
def overlapS (v : Bool) (n : Nat) (b : Int) (u : Bool) (m : Nat) (c : Int) : Bool := withinS v n b u m c || withinS u m c v n b
theorem within_f (K : Nat) (hK : 1 ≤ K) (v : Bool) (n : Nat) (b : Int) (u : Bool) (m : Nat) (c : Int) (hn : n < 340282366920938463463374607431768211456) (hm : m < 340282366920938463463374607431768211456) : prefix_Within.f K v (hi n) (lo n) b u (hi m) (lo m) c = some (withinS v n b u m c) := by
  unfold prefix_Within.f withinS
  rw [pright_hl v b hn, pright_hl u c hm, has_f K hK u m c v n hm hn]
  simp only [bsome]
  cases rightP v n b
  · rfl
  · cases rightP u m c
    · rfl
    · rw [if_pos rfl, if_pos rfl]
      by_cases h : c ≤ b
      · rw [if_pos h, decide_eq_true h]; rfl
      · rw [if_neg h, decide_eq_false h]; rfl
theorem overlap_f (K : Nat) (hK : 1 ≤ K) (v : Bool) (n : Nat) (b : Int) (u : Bool) (m : Nat) (c : Int) (hn : n < 340282366920938463463374607431768211456) (hm : m < 340282366920938463463374607431768211456) : prefix_Overlap.f K v (hi n) (lo n) b u (hi m) (lo m) c = some (overlapS v n b u m c) := by
  unfold prefix_Overlap.f overlapS
  rw [within_f K hK v n b u m c hn hm, within_f K hK u m c v n b hm hn]
  simp only [bsome]
  cases withinS v n b u m c <;> rfl
theorem hasS_right {v : Bool} {n : Nat} {b : Int} {u : Bool} {m : Nat} (h : hasS v n b u m = true) : rightP v n b = true ∧ rightB u m = true ∧ u = v ∧ m / 2 ^ fr v b = n / 2 ^ fr v b := by
  unfold hasS at h
  simp only [Bool.and_eq_true, beq_iff_eq] at h
  obtain ⟨h1, h2, h3, h4⟩ := h
  exact ⟨h1, h2, h3, (topN_iff (rightP_iff.1 h1).2.2.2).1 h4⟩
theorem hasS_mk {v : Bool} {n : Nat} {b : Int} {m : Nat} (h1 : rightP v n b = true) (h2 : rightB v m = true) (h : m / 2 ^ fr v b = n / 2 ^ fr v b) : hasS v n b v m = true := by
  unfold hasS
  rw [h1, h2]
  simp only [Bool.true_and, beq_self_eq_true, beq_iff_eq]
  exact (topN_iff (rightP_iff.1 h1).2.2.2).2 h
theorem rightP_B {v : Bool} {n : Nat} {b : Int} (h : rightP v n b = true) : rightB v n = true := rightB_iff.2 (rightP_iff.1 h).1
end Go.Proofs.YtgdgklibilddgaaGreatDoor

namespace Go.Proofs.YtgdgklibilddgaaGreatDoor
open Go.RowKit Go.Proofs.YtgdgklibilddgaaGreatDoorW.PrintWords Go.Proofs.YtgdgklibilddgaaGreatDoor.PPr

theorem shl_hl {n : Nat} {k : Int} (hn : n < 340282366920938463463374607431768211456) (hk : -9223372036854775808 ≤ k) : num_Shl.f (hi n) (lo n) k = some (hi (shlN n k), lo (shlN n k)) := by
  unfold num_Shl.f; rw [okW_hl, decide_eq_true hk, num_hi_lo hn]; rfl
def cmpB (a b : Int) : Int := if a < b then -1 else if a > b then 1 else 0
theorem compare_f (a b : Int) : cmp_Compare_int.f a b = some (cmpB a b) := by
  unfold cmp_Compare_int.f cmp_isNaN_int.f cmpB
  simp only [bsome, bne_self_eq_false, Bool.false_eq_true, if_false]
  split
  · rfl
  · split <;> rfl
theorem orI_f (K : Nat) (hK : 3 ≤ K) (s t : Int) : cmp_Or_int.f K [s, t] = some (if s = 0 then t else s) := by
  obtain ⟨k, rfl⟩ : ∃ k, K = k + 3 := ⟨K - 3, by omega⟩
  unfold cmp_Or_int.f
  rw [show (([s, t] : List Int).length : Int) = 2 from rfl]
  have hl : ([s, t] : List Int).length = 2 := rfl
  rw [cmp_Or_int.l0, if_pos (by decide), if_pos (by decide), if_pos (by omega)]
  by_cases hs : s = 0
  · subst hs
    rw [if_pos (by rfl), if_pos rfl, w64 (i := 0 + 1) (by omega) (by omega), show (0 : Int) + 1 = 1 by omega, cmp_Or_int.l0, if_pos (by decide), if_pos (by decide), if_pos (by omega)]
    by_cases ht : t = 0
    · subst ht
      rw [if_pos (by rfl), w64 (i := 1 + 1) (by omega) (by omega), show (1 : Int) + 1 = 2 by omega, cmp_Or_int.l0, if_neg (by decide)]
    · rw [if_neg (by exact ht)]; rfl
  · rw [if_neg (by exact hs), if_neg hs]; rfl
theorem acmp_hl {v u : Bool} {n m : Nat} (hn : n < 340282366920938463463374607431768211456) (hm : m < 340282366920938463463374607431768211456) : addr_Cmp.f v (hi n) (lo n) u (hi m) (lo m) = some (cmpA v n u m) := by
  unfold addr_Cmp.f; rw [okW_hl, okW_hl, num_hi_lo hn, num_hi_lo hm]; rfl
def cmpS (v : Bool) (n : Nat) (b : Int) (u : Bool) (m : Nat) (c : Int) : Int := if cmpA v n u m = 0 then cmpB b c else cmpA v n u m
theorem cmp_f (K : Nat) (hK : 3 ≤ K) (v : Bool) (n : Nat) (b : Int) (u : Bool) (m : Nat) (c : Int) (hn : n < 340282366920938463463374607431768211456) (hm : m < 340282366920938463463374607431768211456) : prefix_Cmp.f K v (hi n) (lo n) b u (hi m) (lo m) c = some (cmpS v n b u m c) := by
  unfold prefix_Cmp.f
  rw [acmp_hl hn hm, compare_f]
  simp only [bsome]
  rw [orI_f K hK]
  rfl
end Go.Proofs.YtgdgklibilddgaaGreatDoor

namespace Go.Proofs.YtgdgklibilddgaaGreatDoor
open Go.RowKit Go.Proofs.YtgdgklibilddgaaGreatDoorW.PrintWords Go.Proofs.YtgdgklibilddgaaGreatDoor.PPr

theorem has_div {v : Bool} {n : Nat} {b : Int} (h : rightP v n b = true) (u : Bool) (x : Nat) : hasS v n b u x = (rightB u x && (u == v && x / 2 ^ fr v b == n / 2 ^ fr v b)) := by
  rw [Bool.eq_iff_iff]
  constructor
  · intro k
    obtain ⟨_, g1, g2, g3⟩ := hasS_right k
    subst g2
    simp [g1, g3]
  · intro k
    simp only [Bool.and_eq_true, beq_iff_eq] at k
    obtain ⟨g1, g2, g3⟩ := k
    subst g2
    exact hasS_mk h g1 g3
end Go.Proofs.YtgdgklibilddgaaGreatDoor

namespace Go.Proofs.YtgdgklibilddgaaGreatDoor.PPr
open Go.RowKit Go.Proofs.YtgdgklibilddgaaGreatDoorW.PrintWords Go.Proofs.YtgdgklibilddgaaGreatDoorW.PrintLast Go.Proofs.YtgdgklibilddgaaGreatDoorW.PrintMore
attribute [local go_sem] max2_int min2_int max_two min_two max_three min_three max_four min_four   -- for this text's walks alone

end Go.Proofs.YtgdgklibilddgaaGreatDoor.PPr

namespace Go.Proofs.YtgdgklibilddgaaGreatDoor.PPr
open Go.RowKit Go.Proofs.YtgdgklibilddgaaGreatDoorW.PrintWords Go.Proofs.YtgdgklibilddgaaGreatDoorW.PrintLast Go.Proofs.YtgdgklibilddgaaGreatDoorW.PrintMore
attribute [local go_sem] max2_int min2_int max_two min_two max_three min_three max_four min_four   -- for this text's walks alone

end Go.Proofs.YtgdgklibilddgaaGreatDoor.PPr

namespace Go.Proofs.YtgdgklibilddgaaGreatDoor.PPr
open Go.RowKit Go.Proofs.YtgdgklibilddgaaGreatDoorW.PrintWords Go.Proofs.YtgdgklibilddgaaGreatDoorW.PrintLast Go.Proofs.YtgdgklibilddgaaGreatDoorW.PrintMore
attribute [local go_sem] max2_int min2_int max_two min_two max_three min_three max_four min_four   -- for this text's walks alone

attribute [local go_sem high] eqA38
end Go.Proofs.YtgdgklibilddgaaGreatDoor.PPr

namespace Go.Proofs.YtgdgklibilddgaaGreatDoor
open Go.RowKit Go.Proofs.YtgdgklibilddgaaGreatDoorW.PrintWords Go.Proofs.YtgdgklibilddgaaGreatDoorW.PrintMore Go.Proofs.YtgdgklibilddgaaGreatDoor.PPr

theorem len_hl {n : Nat} (hn : n < 340282366920938463463374607431768211456) : num_Len.f (hi n) (lo n) = some ((lenN n : Nat) : Int) := by
  unfold num_Len.f; rw [if_pos (okW_hl n), num_hi_lo hn]
theorem within_mk {v : Bool} {n : Nat} {b : Int} {m : Nat} {c : Int} (h1 : rightP v n b = true) (h2 : rightP v m c = true) (h3 : c ≤ b) (h4 : n / 2 ^ fr v c = m / 2 ^ fr v c) : withinS v n b v m c = true := by
  unfold withinS
  rw [h1, h2, decide_eq_true h3, hasS_mk h2 (rightP_B h1) h4]; rfl
end Go.Proofs.YtgdgklibilddgaaGreatDoor

namespace Go.Proofs.YtgdgklibilddgaaGreatDoor
open Go.RowKit Go.Proofs.YtgdgklibilddgaaGreatDoorW.PrintWords Go.Proofs.YtgdgklibilddgaaGreatDoor.PPr

def cutsS (v : Bool) (n : Nat) (b bits : Int) : Bool := rightP v n b && (decide (b ≤ bits) && decide (bits ≤ (widthN v : Int)))
theorem cutsS_iff {v : Bool} {n : Nat} {b bits : Int} : cutsS v n b bits = true ↔ rightP v n b = true ∧ b ≤ bits ∧ bits ≤ (widthN v : Int) := by
  unfold cutsS; simp
theorem cuts_f (v : Bool) (n : Nat) (b bits : Int) (hn : n < 340282366920938463463374607431768211456) : carve_cuts.f v (hi n) (lo n) b bits = some (cutsS v n b bits) := by
  unfold carve_cuts.f cutsS
  rw [pright_hl v b hn]
  simp only [bsome]
  cases rightP v n b
  · rfl
  · rw [if_pos rfl]
    by_cases h : b ≤ bits
    · rw [if_pos h, awidth_hl, decide_eq_true h]
      simp only [bsome, Bool.true_and]
    · rw [if_neg h, decide_eq_false h]; rfl
theorem rcuts_f (K : Nat) (hK : 600 ≤ K) (v : Bool) (n : Nat) (b bits : Int) (hn : n < 340282366920938463463374607431768211456) : platbookref04_Cuts.f K v (hi n) (lo n) b bits = some (cutsS v n b bits) := by
  unfold platbookref04_Cuts.f cutsS
  rw [rrightP_f K hK v n b hn]
  simp only [bsome]
  cases rightP v n b
  · rfl
  · rw [if_pos rfl]
    by_cases h : b ≤ bits
    · rw [if_pos h, width_hl, decide_eq_true h]
      simp only [bsome, Bool.true_and]
    · rw [if_neg h, decide_eq_false h]; rfl
def blockS (v : Bool) (n : Nat) (b bits : Int) (i : Nat) : Bool × Nat × Int × Int :=
  if cutsS v n b bits = true then (if (lenN i : Int) ≤ bits - b then (v, n + i * 2 ^ (widthN v - bits.toNat), bits, 0) else (false, 0, 0, 12)) else (false, 0, 0, 1)
/-- the numbers that are behind a block's -/
theorem block_room {v : Bool} {n : Nat} {b bits : Int} {i : Nat} (h : cutsS v n b bits = true) (hi' : (lenN i : Int) ≤ bits - b) :
    i < 2 ^ (bits - b).toNat ∧ i * 2 ^ (widthN v - bits.toNat) < 2 ^ fr v b ∧ n + i * 2 ^ (widthN v - bits.toNat) < 2 ^ widthN v ∧ fr v b = (bits - b).toNat + (widthN v - bits.toNat) := by
  obtain ⟨h1, h2, h3⟩ := cutsS_iff.1 h
  obtain ⟨p1, p2, p3, p4⟩ := rightP_iff.1 h1
  have hf : fr v b = (bits - b).toNat + (widthN v - bits.toNat) := by unfold fr; omega
  have hl : i < 2 ^ (bits - b).toNat := (lenN_iff _ _).1 (by omega)
  have hp := Nat.two_pow_pos (widthN v - bits.toNat)
  have h4 : i * 2 ^ (widthN v - bits.toNat) < 2 ^ fr v b := by
    rw [hf, Nat.pow_add]; exact Nat.mul_lt_mul_of_pos_right hl hp
  have := last_lt h1
  exact ⟨hl, h4, by omega, hf⟩
theorem blockS_lt (v : Bool) (n : Nat) (b bits : Int) (i : Nat) : (blockS v n b bits i).2.1 < 340282366920938463463374607431768211456 := by
  unfold blockS
  split
  · rename_i h
    split
    · rename_i h2; exact Nat.lt_of_lt_of_le (block_room h h2).2.2.1 (pow_w v)
    · decide
  · decide
theorem shlN_eq {i k : Nat} (hk : k < 128) (h : i * 2 ^ k < 340282366920938463463374607431768211456) : shlN i (k : Int) = i * 2 ^ k := by
  unfold shlN
  rw [if_neg (by omega), if_neg (by omega), Int.toNat_natCast, Nat.mod_eq_of_lt h]
theorem block_f (v : Bool) (n : Nat) (b bits : Int) (i : Nat) (hn : n < 340282366920938463463374607431768211456) (hi' : i < 340282366920938463463374607431768211456) : carve_Block.f v (hi n) (lo n) b bits (hi i) (lo i) = some (tup5 (blockS v n b bits i)) := by
  unfold carve_Block.f blockS
  rw [cuts_f v n b bits hn]
  simp only [bsome]
  cases h : cutsS v n b bits
  · simp [tup5, hi00, lo00]
  · obtain ⟨h1, h2, h3⟩ := cutsS_iff.1 h
    obtain ⟨p1, p2, p3, p4⟩ := rightP_iff.1 h1
    have hw := widthN_le v
    rw [if_pos rfl, if_pos rfl, len_hl hi']
    simp only [bsome]
    rw [w64 (by omega) (by omega)]
    by_cases hl : (lenN i : Int) ≤ bits - b
    · rw [if_neg (by omega), if_pos hl, awidth_hl]
      simp only [bsome]
      obtain ⟨r1, r2, r3, r4⟩ := block_room h hl
      have r5 : i * 2 ^ (widthN v - bits.toNat) < 340282366920938463463374607431768211456 := by
        have := Nat.lt_of_lt_of_le r3 (pow_w v); omega
      rw [w64 (by omega) (by omega), show ((widthN v : Nat) : Int) - bits = ((widthN v - bits.toNat : Nat) : Int) by omega, shl_hl hi' (by omega)]
      simp only [bsome]
      have e : shlN i ((widthN v - bits.toNat : Nat) : Int) = i * 2 ^ (widthN v - bits.toNat) := by
        by_cases hk : widthN v - bits.toNat < 128
        · exact shlN_eq hk r5
        · have hb0 : bits = 0 := by omega
          have : (bits - b).toNat = 0 := by omega
          rw [this] at r1
          have : i = 0 := by simpa using r1
          subst this
          unfold shlN; split <;> simp
      rw [e, or_hl hn r5, or_small p4 r2]
      simp only [bsome, tup5]
    · rw [if_pos (by omega), if_neg hl]; simp [tup5, hi00, lo00]
end Go.Proofs.YtgdgklibilddgaaGreatDoor

namespace Go.Proofs.YtgdgklibilddgaaGreatDoor
open Go.RowKit Go.Proofs.YtgdgklibilddgaaGreatDoorW.PrintWords Go.Proofs.YtgdgklibilddgaaGreatDoor.PPr

theorem awake04_f : platbooklaw04_awake.f 1000 = some true := by decide +kernel
end Go.Proofs.YtgdgklibilddgaaGreatDoor

namespace Go.Proofs.YtgdgklibilddgaaGreatDoor
open Go.RowKit Go.Proofs.YtgdgklibilddgaaGreatDoorW.PrintWords Go.Proofs.YtgdgklibilddgaaGreatDoor.PPr

theorem shr_hl {n : Nat} {k : Int} (hn : n < 340282366920938463463374607431768211456) (hk : -9223372036854775808 ≤ k) : num_Shr.f (hi n) (lo n) k = some (hi (shrN n k), lo (shrN n k)) := by
  unfold num_Shr.f; rw [okW_hl, decide_eq_true hk, num_hi_lo hn]; rfl
theorem shrN_all {n : Nat} (k : Nat) (hn : n < 340282366920938463463374607431768211456) : shrN n (k : Int) = n / 2 ^ k := by
  by_cases h : k < 128
  · exact shrN_nat h hn
  · unfold shrN shlN
    rw [if_pos (by omega)]
    symm
    apply Nat.div_eq_of_lt
    refine Nat.lt_of_lt_of_le hn ?_
    have := Nat.pow_le_pow_right (n := 2) (by omega) (show 128 ≤ k by omega)
    rw [show (2 : Nat) ^ 128 = 340282366920938463463374607431768211456 by decide] at this
    exact this
theorem ones_hl (k : Int) : num_Ones.f k = some (hi (onesN k), lo (onesN k)) := rfl
theorem below_f (v : Bool) (n : Nat) (b : Int) (u : Bool) (x last : Nat) (h0 : 0 ≤ b) (h1 : b ≤ (widthN u : Int)) (hl : last ≤ 1000) (hx : x < 340282366920938463463374607431768211456) :
    carve_below.f v (hi n) (lo n) b u (hi x) (lo x) (last : Int) = some (hi (x % 2 ^ fr u b / 2 ^ last), lo (x % 2 ^ fr u b / 2 ^ last)) := by
  unfold carve_below.f
  have hw := widthN_le u
  rw [awidth_hl]
  simp only [bsome]
  rw [w64 (by omega) (by omega), ones_hl, ones_val h0 h1]
  simp only [bsome]
  rw [and_hl hx (fr_lt u b), and_ones]
  simp only [bsome]
  have hm : x % 2 ^ fr u b < 340282366920938463463374607431768211456 := Nat.lt_of_le_of_lt (Nat.mod_le _ _) hx
  rw [shr_hl hm (by omega), shrN_all last hm]
  simp only [bsome]
def numberS (v : Bool) (n : Nat) (b : Int) (u : Bool) (x : Nat) : Nat × Int := if rightP v n b = true then (if hasS v n b u x = true then (x % 2 ^ fr v b, 0) else (0, 12)) else (0, 1)
def tupM (x : Nat × Int) : Int × Int × Int := (hi x.1, lo x.1, x.2)
theorem number_f (K : Nat) (hK : 1 ≤ K) (v : Bool) (n : Nat) (b : Int) (u : Bool) (x : Nat) (hn : n < 340282366920938463463374607431768211456) (hx : x < 340282366920938463463374607431768211456) : carve_Number.f K v (hi n) (lo n) b u (hi x) (lo x) = some (tupM (numberS v n b u x)) := by
  unfold carve_Number.f numberS
  rw [pright_hl v b hn, has_f K hK v n b u x hn hx]
  simp only [bsome]
  cases h : rightP v n b
  · simp [tupM, hi00, lo00]
  · rw [if_pos rfl, if_pos rfl]
    cases hh : hasS v n b u x
    · simp [tupM, hi00, lo00]
    · obtain ⟨_, _, rfl, _⟩ := hasS_right hh
      obtain ⟨p1, p2, p3, p4⟩ := rightP_iff.1 h
      rw [if_pos rfl, if_pos rfl, show (0 : Int) = ((0 : Nat) : Int) from rfl, below_f u n b u x 0 p2 p3 (by omega) hx]
      simp only [bsome, tupM, Nat.pow_zero, Nat.div_one]
end Go.Proofs.YtgdgklibilddgaaGreatDoor

namespace Go.Proofs.YtgdgklibilddgaaGreatDoor
open Go.RowKit Go.Proofs.YtgdgklibilddgaaGreatDoorW.PrintWords Go.Proofs.YtgdgklibilddgaaGreatDoor.PPr

theorem ncmp_hl {n m : Nat} (hn : n < 340282366920938463463374607431768211456) (hm : m < 340282366920938463463374607431768211456) : num_Cmp.f (hi n) (lo n) (hi m) (lo m) = some (cmpN n m) := by
  unfold num_Cmp.f; rw [okW_hl, okW_hl, num_hi_lo hn, num_hi_lo hm]; rfl
theorem cmpB_self (c : Int) : cmpB c c = 0 := by unfold cmpB; rw [if_neg (by omega), if_neg (by omega)]
theorem fr_toNat (v : Bool) (c : Int) : widthN v - c.toNat = fr v c := rfl
/-- what the block of a number is -/
theorem block_at {v : Bool} {n : Nat} {b bits : Int} {i : Nat} (h : cutsS v n b bits = true) (hl : (lenN i : Int) ≤ bits - b) :
    blockS v n b bits i = (v, n + i * 2 ^ fr v bits, bits, 0) ∧ rightP v (n + i * 2 ^ fr v bits) bits = true ∧ (n + i * 2 ^ fr v bits) / 2 ^ fr v bits = n / 2 ^ fr v bits + i ∧ (n + i * 2 ^ fr v bits) / 2 ^ fr v b = n / 2 ^ fr v b := by
  obtain ⟨h1, h2, h3⟩ := cutsS_iff.1 h
  obtain ⟨p1, p2, p3, p4⟩ := rightP_iff.1 h1
  obtain ⟨r1, r2, r3, r4⟩ := block_room h hl
  rw [fr_toNat] at r2 r3 r4
  have hp := Nat.two_pow_pos (fr v bits)
  have hpb := Nat.two_pow_pos (fr v b)
  refine ⟨?_, rightP_iff.2 ⟨r3, by omega, h3, ?_⟩, ?_, ?_⟩
  · unfold blockS; rw [if_pos h, if_pos hl, fr_toNat]
  · rw [Nat.add_mul_mod_self_right]
    obtain ⟨q, rfl⟩ := Nat.dvd_of_mod_eq_zero p4
    rw [r4, Nat.add_comm (bits - b).toNat, Nat.pow_add, Nat.mul_assoc]; exact Nat.mul_mod_right _ _
  · exact Nat.add_mul_div_right _ _ hp
  · obtain ⟨q, rfl⟩ := Nat.dvd_of_mod_eq_zero p4
    rw [Nat.mul_add_div hpb, Nat.div_eq_of_lt r2, Nat.mul_div_cancel_left _ hpb, Nat.add_zero]
theorem block_ok {v : Bool} {n : Nat} {b bits : Int} {i : Nat} (h : (blockS v n b bits i).2.2.2 = 0) : cutsS v n b bits = true ∧ (lenN i : Int) ≤ bits - b := by
  unfold blockS at h
  split at h
  · split at h
    · exact ⟨by assumption, by assumption⟩
    · cases h
  · cases h
theorem overlap_same {v : Bool} {x y : Nat} {c : Int} (hx : rightP v x c = true) (hy : rightP v y c = true) : overlapS v x c v y c = (x / 2 ^ fr v c == y / 2 ^ fr v c) := by
  unfold overlapS withinS
  rw [hx, hy, has_div hx, has_div hy, rightP_B hx, rightP_B hy]
  simp only [Bool.true_and, beq_self_eq_true, Int.le_refl, decide_true]
  rw [Bool.eq_iff_iff]
  simp only [Bool.or_eq_true, beq_iff_eq]
  constructor
  · rintro (h | h)
    · exact h
    · exact h.symm
  · exact .inl
theorem cmpS_block (v : Bool) (n i j s : Nat) (c : Int) (hs : 0 < s) : cmpS v (n + i * s) c v (n + j * s) c = cmpN i j := by
  have e : cmpA v (n + i * s) v (n + j * s) = cmpN i j := by
    unfold cmpA cmpN
    rw [if_pos rfl]
    by_cases h : i < j
    · have := Nat.mul_lt_mul_of_pos_right h hs
      rw [if_pos (by omega), if_pos h]
    · rw [if_neg h]
      by_cases h2 : i = j
      · subst h2; rw [if_neg (by omega), if_pos rfl, if_pos rfl]
      · have := Nat.mul_lt_mul_of_pos_right (show j < i by omega) hs
        rw [if_neg (by omega), if_neg (by omega), if_neg h2]
  unfold cmpS
  rw [e, cmpB_self]
  split <;> simp_all
/-- the block that an address is in -/
theorem part_of {v : Bool} {n : Nat} {b bits : Int} {x : Nat} (h : cutsS v n b bits = true) (hx : hasS v n b v x = true) :
    (lenN (x % 2 ^ fr v b / 2 ^ fr v bits) : Int) ≤ bits - b ∧ hasS v (n + x % 2 ^ fr v b / 2 ^ fr v bits * 2 ^ fr v bits) bits v x = true := by
  obtain ⟨h1, h2, h3⟩ := cutsS_iff.1 h
  obtain ⟨p1, p2, p3, p4⟩ := rightP_iff.1 h1
  obtain ⟨_, hb, _, hd⟩ := hasS_right hx
  have hf : fr v b = (bits - b).toNat + fr v bits := by unfold fr; omega
  have hlt : x % 2 ^ fr v b / 2 ^ fr v bits < 2 ^ (bits - b).toNat := by
    rw [Nat.div_lt_iff_lt_mul (Nat.two_pow_pos _), ← Nat.pow_add, ← hf]; exact Nat.mod_lt _ (Nat.two_pow_pos _)
  have hl : (lenN (x % 2 ^ fr v b / 2 ^ fr v bits) : Int) ≤ bits - b := by
    have := (lenN_iff _ _).2 hlt; omega
  obtain ⟨_, g1, g2, g3⟩ := block_at h hl
  refine ⟨hl, hasS_mk g1 hb ?_⟩
  rw [g2]
  have e : x = 2 ^ fr v b * (x / 2 ^ fr v b) + x % 2 ^ fr v b := (Nat.div_add_mod _ _).symm
  have en : n = 2 ^ fr v b * (x / 2 ^ fr v b) := by rw [hd]; exact (Nat.mul_div_cancel' (Nat.dvd_of_mod_eq_zero p4)).symm
  have ex : x = n + x % 2 ^ fr v b := by omega
  have hs : n = 2 ^ fr v bits * (2 ^ (bits - b).toNat * (x / 2 ^ fr v b)) := by rw [← Nat.mul_assoc, ← Nat.pow_add, Nat.add_comm (fr v bits), ← hf]; exact en
  have hp := Nat.two_pow_pos (fr v bits)
  generalize x % 2 ^ fr v b = r at ex ⊢
  generalize 2 ^ (bits - b).toNat * (x / 2 ^ fr v b) = q at hs
  rw [ex, hs, Nat.mul_add_div hp, Nat.mul_div_cancel_left _ hp]
theorem carveParts_f (v : Bool) (n : Nat) (b bits : Int) (i j : Nat) (u : Bool) (x : Nat) (hn : n < 340282366920938463463374607431768211456) (hi' : i < 340282366920938463463374607431768211456) (hj : j < 340282366920938463463374607431768211456) (hx : x < 340282366920938463463374607431768211456) :
    platbooklaw04_CarveParts.f 1000 v (hi n) (lo n) b bits (hi i) (lo i) (hi j) (lo j) u (hi x) (lo x) = some true := by
  have key2 : ∀ k, platbooklaw04_CarveParts.j1 (k + 990) bits v (hi n) (lo n) b u (hi x) (lo x) = some true := by
    intro k
    rw [show k + 990 = (k + 988 + 1) + 1 by omega, platbooklaw04_CarveParts.j1, number_f _ (by omega) v n b u x hn hx]
    simp only [bsome, tupM]
    have t1 : ∀ (y z : Int), platbooklaw04_CarveParts.j2 (k + 988 + 1) bits true v (hi n) (lo n) b u (hi x) (lo x) y z = some true := by
      intro y z; rw [platbooklaw04_CarveParts.j2, if_pos rfl]
    by_cases he : (numberS v n b u x).2 = 0
    · rw [if_pos he, rcuts_f _ (by omega) v n b bits hn]
      simp only [bsome]
      cases hc : cutsS v n b bits
      · exact t1 _ _
      · have hh : hasS v n b u x = true := by
          unfold numberS at he
          split at he
          · split at he
            · assumption
            · cases he
          · cases he
        obtain ⟨hr, _, rfl, _⟩ := hasS_right hh
        have e1 : (numberS u n b u x).1 = x % 2 ^ fr u b := by unfold numberS; rw [if_pos hr, if_pos hh]
        obtain ⟨h1, h2, h3⟩ := cutsS_iff.1 hc
        obtain ⟨p1, p2, p3, p4⟩ := rightP_iff.1 h1
        have hw := widthN_le u
        have hm : x % 2 ^ fr u b < 340282366920938463463374607431768211456 := Nat.lt_of_le_of_lt (Nat.mod_le _ _) hx
        have hq : x % 2 ^ fr u b / 2 ^ fr u bits < 340282366920938463463374607431768211456 := Nat.lt_of_le_of_lt (Nat.div_le_self _ _) hm
        obtain ⟨g1, g2⟩ := part_of hc hh
        obtain ⟨g3, g4, _, _⟩ := block_at hc g1
        have hlt := blockS_lt u n b bits (x % 2 ^ fr u b / 2 ^ fr u bits)
        rw [g3] at hlt
        rw [e1, platbooklaw04_CarveParts.j2, if_neg (by simp), awidth_hl]
        simp only [bsome]
        rw [w64 (by omega) (by omega), show ((widthN u : Nat) : Int) - bits = ((fr u bits : Nat) : Int) by unfold fr; omega, shr_hl hm (by omega), shrN_all _ hm]
        simp only [bsome]
        rw [block_f u n b bits _ hn hq, g3]
        simp only [bsome, tup5, if_true]
        rw [has_f _ (by omega) u _ bits u x hlt hx, g2]
        rfl
    · rw [if_neg he]; exact t1 _ _
  have key0 : ∀ (X Y : Bool × Nat × Int × Int) (f : Bool), X = blockS v n b bits i → Y = blockS v n b bits j → (f = true → X.2.2.2 = 0 ∧ Y.2.2.2 = 0) →
      platbooklaw04_CarveParts.j0 1000 bits f v (hi n) (lo n) b (hi i) (lo i) (hi j) (lo j) u (hi x) (lo x) X.1 (hi X.2.1) (lo X.2.1) X.2.2.1 Y.1 (hi Y.2.1) (lo Y.2.1) Y.2.2.1 = some true := by
    rintro X Y f rfl rfl hf
    rw [show 1000 = 999 + 1 from rfl, platbooklaw04_CarveParts.j0]
    cases f with
    | false => rw [if_neg (by simp)]; exact key2 9
    | true =>
      obtain ⟨f1, f2⟩ := hf rfl
      obtain ⟨hc, l1⟩ := block_ok f1
      obtain ⟨_, l2⟩ := block_ok f2
      have q1 := blockS_lt v n b bits i
      have q2 := blockS_lt v n b bits j
      obtain ⟨a1, a2, a3, a4⟩ := block_at hc l1
      obtain ⟨c1, c2, c3, c4⟩ := block_at hc l2
      obtain ⟨h1, h2, h3⟩ := cutsS_iff.1 hc
      rw [a1] at q1 ⊢
      rw [c1] at q2 ⊢
      simp only at q1 q2 ⊢
      rw [if_pos trivial, overlap_f _ (by omega) v _ bits v _ bits q1 q2, overlap_same a2 c2, a3, c3, hl_eq hi' hj, cmp_f _ (by omega) v _ bits v _ bits q1 q2, ncmp_hl hi' hj, cmpS_block v n i j _ bits (Nat.two_pow_pos _), within_f _ (by omega) v _ bits v n b q1 hn, within_mk a2 h1 h2 a4]
      simp only [bsome, if_true]
      rw [if_neg (by rw [Bool.not_eq_true, bne_eq_false_iff_eq, Bool.eq_iff_iff]; simp)]
      exact key2 9
  unfold platbooklaw04_CarveParts.f
  rw [awake04_f, block_f v n b bits i hn hi', block_f v n b bits j hn hj]
  simp only [bsome, if_true, tup5]
  by_cases h : (blockS v n b bits i).2.2.2 = 0
  · rw [if_pos h]
    exact key0 _ _ _ rfl rfl fun hf => ⟨h, by simpa using hf⟩
  · rw [if_neg h]
    exact key0 _ _ _ rfl rfl fun hf => by cases hf
theorem carveParts_walk (v : Bool) (n : Nat) (b bits : Int) (i j : Nat) (u : Bool) (x : Nat) (w : World) (hn : n < 340282366920938463463374607431768211456) (_ : (Lit.int .i64 b).wf = true) (hi' : i < 340282366920938463463374607431768211456) (hj : j < 340282366920938463463374607431768211456) (hx : x < 340282366920938463463374607431768211456) (hG : Glob w) :
    Calls Tryz.prog 9 #[PfxV v n b, .int .i64 bits, numV i, numV j, AddrV u x] w fun e w' => e = .returned (.bool true) ∧ Below w.heap.size w w' :=
  platbooklaw04_CarveParts.calls 1000 v (hi n) (lo n) b bits (hi i) (lo i) (hi j) (lo j) u (hi x) (lo x) true w hG rfl (carveParts_f v n b bits i j u x hn hi' hj hx)
end Go.Proofs.YtgdgklibilddgaaGreatDoor

namespace Go.Proofs.YtgdgklibilddgaaGreatDoor
open Go.ChangeShapes Go.WideShapes Go.ChangeAt Go.RowKit Go.Joins
section
variable {H : Type} {enc : TypeId × Value → H} {P : Program} {w : World} {base : Nat} {spare : Nat → Bool} {held : Bool}
theorem trodAll_five {t t' t'' t3 t4 : TypeId} {args : Array Value} {ds : List (DataW H)} {ps : List MemPlace} (h : DataW.TrodAll enc P w base spare held [t, t', t'', t3, t4] args.toList ds ps) :
    ∃ v v' v'' v3 v4 d d' d'' d3 d4 p p' p'' p3 p4, args = #[v, v', v'', v3, v4] ∧ ds = [d, d', d'', d3, d4] ∧ ps = p ++ p' ++ p'' ++ p3 ++ p4 ∧ DataW.Trod enc P w base spare held t v d p ∧ DataW.Trod enc P w base spare held t' v' d' p' ∧ DataW.Trod enc P w base spare held t'' v'' d'' p'' ∧ DataW.Trod enc P w base spare held t3 v3 d3 p3 ∧ DataW.Trod enc P w base spare held t4 v4 d4 p4 := by
  obtain ⟨v, vs, d, ds', p, q, hargs, rfl, rfl, hd, hrest⟩ := trodAll_cons h
  obtain ⟨v', vs', d', ds'', p', q', rfl, rfl, rfl, hd', hrest'⟩ := trodAll_cons hrest
  obtain ⟨v'', vs'', d'', ds''', p'', q'', rfl, rfl, rfl, hd'', hrest''⟩ := trodAll_cons hrest'
  obtain ⟨v3, vs3, d3, ds3, p3, q3, rfl, rfl, rfl, hd3, hrest3⟩ := trodAll_cons hrest''
  obtain ⟨v4, vs4, d4, ds4, p4, q4, rfl, rfl, rfl, hd4, hrest4⟩ := trodAll_cons hrest3
  obtain ⟨rfl, rfl, rfl⟩ := trodAll_nil hrest4
  exact ⟨v, v', v'', v3, v4, d, d', d'', d3, d4, p, p', p'', p3, p4, by cases args; simp_all, rfl, by simp, hd, hd', hd'', hd3, hd4⟩
theorem trodAll_mk5 {t t' t'' t3 t4 : TypeId} {v v' v'' v3 v4 : Value} {d d' d'' d3 d4 : DataW H} {p p' p'' p3 p4 : List MemPlace} (h : DataW.Trod enc P w base spare held t v d p) (h' : DataW.Trod enc P w base spare held t' v' d' p')
    (h'' : DataW.Trod enc P w base spare held t'' v'' d'' p'') (h3 : DataW.Trod enc P w base spare held t3 v3 d3 p3) (h4 : DataW.Trod enc P w base spare held t4 v4 d4 p4) : DataW.TrodAll enc P w base spare held [t, t', t'', t3, t4] [v, v', v'', v3, v4] [d, d', d'', d3, d4] (p ++ (p' ++ (p'' ++ (p3 ++ p4)))) :=
  ⟨p, p' ++ (p'' ++ (p3 ++ p4)), h, trodAll_mk4 h' h'' h3 h4, rfl⟩
end
end Go.Proofs.YtgdgklibilddgaaGreatDoor

namespace Go.Proofs.YtgdgklibilddgaaGreatDoor
open Go.RowKit

def listA : List (String × DataW Unit) := [("math/bits.deBruijn32tab", Rows.laid_math_bits_deBruijn32tab), ("math/bits.deBruijn64tab", Rows.laid_math_bits_deBruijn64tab), ("internal/strconv.uint64pow10", Rows.laid_internal_strconv_uint64pow10), ("unicode/utf8.acceptRanges", Rows.laid_unicode_utf8_acceptRanges), ("strconv.ErrRange", Rows.laid_strconv_ErrRange), ("strconv.ErrSyntax", Rows.laid_strconv_ErrSyntax), ("unicode/utf8.first", Rows.laid_unicode_utf8_first)]
theorem doorA_met (os : Os) (args : Array Value) : laidMetH Tryz.prog listA ((World.laidAll Tryz.prog os listA).forCall (fun _ _ => 0) ⟨#[], args, []⟩).memory := by
  rw [MakeChecks.laidMetH_plain _ _ _ (by kernel_rfl)]; exact laidMet_laidAll _ (by kernel_rfl) (by kernel_rfl)
def tabZ : List Int := Lib.deBruijn64tab.map Int.ofNat
theorem listA_tab : (Rows.laid_math_bits_deBruijn64tab : DataW Unit) = Lib.tabData .u8 tabZ := by kernel_rfl
theorem listA_pow : (Rows.laid_internal_strconv_uint64pow10 : DataW Unit) = Lib.tabData .u64 Lib.pow10Tab := by kernel_rfl
theorem err_star : "*" ++ "errors.errorString" = "*errors.errorString" := by decide
theorem err_name (u : TypeId) (h : Tryz.prog.typeName? 3 u = some "*errors.errorString") : u = 170 :=
  typeName_ptr_named (nm := "errors.errorString") (by rw [err_star]; kernel_rfl) (by kernel_rfl) (by decide) u (by rw [err_star]; exact h)
theorem glob_of {W : World} (h : laidMetH Tryz.prog listA W) (hs : W.ShapedOpen Tryz.prog) : Glob W := by
  rw [MakeChecks.laidMetH_plain _ _ _ (by kernel_rfl)] at h
  unfold listA at h
  have h2 := h.tail
  have h3 := h2.tail
  have h5 := h3.tail.tail
  have h6 := h5.tail
  rw [listA_tab] at h2
  rw [listA_pow] at h3
  refine ⟨?_, ?_, ?_, ?_, ?_⟩
  · exact cell_of_shapedOpen_int (g := 0) (t := 3) (zero := #[.int .i64 0]) hs (of_decide_eq_true (by kernel_rfl)) (by kernel_rfl) rfl (by kernel_rfl) (by kernel_rfl) Tryz.underlying3
  · obtain ⟨a, s, hv, _⟩ := laid_sentinel h6 (g := 1) (by kernel_rfl) (by kernel_rfl) Tryz.underlying83 err_name Tryz.underlying170 Tryz.underlying172 rfl rfl Tryz.underlying9 (by kernel_rfl) (by kernel_rfl)
    exact ⟨_, _, hv⟩
  · obtain ⟨a, s, hv, _⟩ := laid_sentinel h5 (g := 2) (by kernel_rfl) (by kernel_rfl) Tryz.underlying83 err_name Tryz.underlying170 Tryz.underlying172 rfl rfl Tryz.underlying9 (by kernel_rfl) (by kernel_rfl)
    exact ⟨_, _, hv⟩
  · exact Lib.tabIs_of_head (P := Tryz.prog) (g := 3) (t := 174) (e := 22) (n := 20) (by kernel_rfl) (by kernel_rfl) Tryz.underlying174 Tryz.underlying22 (by kernel_rfl) (by kernel_rfl) h3
  · have hT := Lib.tabIs_of_head (P := Tryz.prog) (g := 5) (t := 185) (e := 5) (n := 64) (by kernel_rfl) (by kernel_rfl) Tryz.underlying185 Tryz.underlying5 (by kernel_rfl) (by kernel_rfl) h2
    intro j hj
    have hc := hT.cell (g := 5) (by kernel_rfl) j (by unfold tabZ; rw [List.length_map, show Lib.deBruijn64tab.length = 64 by decide]; exact hj)
    rw [hc]
    have e : tabZ.getD j 0 = ((Lib.deBruijn64tab.getD j 0 : Nat) : Int) := by
      unfold tabZ
      simp only [List.getD_eq_getElem?_getD, List.getElem?_map]
      cases Lib.deBruijn64tab[j]? <;> rfl
    rw [e]
/-- the plain wrap with the row's condition and the start's shape -/
theorem lift_shaped {H : Type} {enc : TypeId × Value → H} {C : Checked} {os : Os} {f : FuncId} {fn : Func} {s : ChangeSpec} {X : World → Array Value → Prop}
    (hX : ∀ (w w' : World) (args : Array Value), w.heap = w'.heap → X w args → X w' args)
    (own : ownKnob C.prog.godebug = none) (started : os.Started) (noInit : C.prog.inits.idxOf? f = none) (hfn : C.prog.funcs[f]? = some fn)
    (witness : ∃ (w : World) (tape : Tape) (i : Input), w.os = os ∧ (w.forCall tape i).Shaped C.prog ∧ i.vars = [] ∧ Input.okWide C.prog (w.forCall tape i) .any w.heap.size f i ∧
      ((s.pre enc C.prog fn [] false (w.forCall tape i).memory i.args ∧ X (w.forCall tape i).memory i.args) ∧ sizedMet enc C.prog fn (OpenSpec.ofChange s) false (w.forCall tape i).memory i.args) ∧ ({} : Assume).holds C.prog (lone (Frame.enter C.prog f i.args .normal) [] (w.forCall tape i)))
    (contract : ∀ (W : World) (base : Nat) (args : Array Value) (ds gs : List (DataW H)) (before : List MemPlace),
      (∀ (j : Nat) t v, fn.params[j]? = some t → args[j]? = some v → Value.okWide C.prog W .any base t v) →
      DataW.Whole enc C.prog fn.params.toList s.vars false W args.toList ds gs before → X W args → W.ShapedOpen C.prog →
      Calls C.prog f args W fun e W' => ∃ v, e = .returned v ∧ s.post enc C.prog fn false true false false W args v W') :
    ReturnsInHanded {} C os f .any (fun w args => (s.pre enc C.prog fn [] false w args ∧ X w args) ∧ sizedMet enc C.prog fn (OpenSpec.ofChange s) false w args) (s.post enc C.prog fn false true false false) := by
  refine returnsInHanded_of_calls own started noInit witness ?_
  intro w tape i _ hshape _ hok hpre _
  obtain ⟨_, _, _, fn2, hfn2, _, _, _, _, hval⟩ := hok
  obtain rfl : fn2 = fn := Option.some.inj (hfn2.symm.trans hfn)
  obtain ⟨⟨⟨ds, gs, before, hw, _⟩, hx⟩, _⟩ := hpre
  refine (contract (w.forCall tape i) w.heap.size i.args ds gs before hval (DataW.Whole.of_heap (w' := w.forCall tape i) (by rfl) hw) (hX _ _ _ (by rfl) hx) hshape).mono fun e W' ⟨v, he, hp⟩ => ?_
  subst he
  exact ChangeSpec.post_blind hp
end Go.Proofs.YtgdgklibilddgaaGreatDoor

namespace Go.Proofs.YtgdgklibilddgaaGreatDoor
open Go.ChangeShapes Go.WideShapes Go.ChangeAt Go.RowKit
open Go.ChangeMaps (open_string shut_string)

set_option maxRecDepth 100000 in
theorem carveParts_lifted (os : Os) (started : os.Started) (H : Type) (enc : TypeId × Value → H) :
    ReturnsInHanded {} Tryz.checked os 9 .any (fun w args => (Rows.carvePartsSpec.pre enc Tryz.prog Tryz.f9 [] false w args ∧ laidMetH Tryz.prog listA w) ∧ sizedMet enc Tryz.prog Tryz.f9 (OpenSpec.ofChange Rows.carvePartsSpec) false w args)
      (Rows.carvePartsSpec.post enc Tryz.prog Tryz.f9 false true false false) := by
  refine lift_shaped (C := Tryz.checked) (X := fun w _ => laidMetH Tryz.prog listA w) (fun _ _ _ hh h => h.of_heap hh) Tryz.own started (by kernel_rfl) Tryz.func9
    (ChangeSpec.witness_shaped (enc := enc) (C := Tryz.checked) (os := os) (X := fun w _ => laidMetH Tryz.prog listA w) false (World.laidAll Tryz.prog os listA) #[.agg #[.bool false, .int .u64 0, .int .u64 0, .int .i64 0], .int .i64 0, .agg #[.int .u64 0, .int .u64 0], .agg #[.int .u64 0, .int .u64 0], .agg #[.bool false, .int .u64 0, .int .u64 0]] 8 (World.laidAll_os _ _ _) (World.shaped_of_ZipB (by kernel_rfl) (by kernel_rfl)) (by kernel_rfl) (by kernel_rfl) (by kernel_rfl) (doorA_met os _)) ?_
  intro W base args ds gs before hval0 hW hL hSh
  have hval : ∀ (j : Nat) t v, Tryz.f9.params[j]? = some t → args[j]? = some v → Value.okWide Tryz.prog W .any base t v := hval0
  have hW' := hW
  obtain ⟨p, q, hA0, hV, rfl, _, _⟩ := hW
  have hA : DataW.TrodAll enc Tryz.prog W 0 (fun _ => true) true Tryz.f9.params.toList args.toList ds p := hA0
  rw [Tryz.params9] at hA hval
  obtain ⟨v0, v1, v2, v3, v4, d0, d1, d2, d3, d4, p0, p1, p2, p3, p4, rfl, rfl, rfl, h0, h1, h2, h3, h4⟩ := trodAll_five hA
  obtain ⟨rfl, rfl⟩ := trodVars_none hV
  obtain ⟨u0, x0, b0, hx0, hb0, rfl, rfl, rfl, ho0⟩ := open_pfx (hval 0 38 v0 rfl rfl) h0
  obtain ⟨x1, rfl, rfl, rfl, wx1⟩ := open_int Tryz.underlying3 (hval 1 3 v1 rfl rfl) h1
  obtain ⟨x2, hx2, rfl, rfl, rfl, wa2, wb2⟩ := open_num (hval 2 24 v2 rfl rfl) h2
  obtain ⟨x3, hx3, rfl, rfl, rfl, wa3, wb3⟩ := open_num (hval 3 24 v3 rfl rfl) h3
  obtain ⟨u4, x4, hx4, rfl, rfl, rfl, ho4⟩ := open_addr (hval 4 26 v4 rfl rfl) h4
  clear hA0 hval0
  simp only [List.append_nil] at hW'
  refine (carveParts_walk u0 x0 b0 x1 x2 x3 u4 x4 W hx0 hb0 hx2 hx3 hx4 (glob_of hL hSh)).mono fun e W' ⟨he, hw⟩ => ?_
  subst he
  exact ⟨_, rfl, post_below (pa := []) (pv := []) hW' (fun _ _ _ => trodAll_mk1 (shut_bool Tryz.underlying4 _)) (fun sp _ => trodAll_mk5 (shut_pfx ho0) (shut_int Tryz.underlying3 wx1) (shut_num wa2 wb2) (shut_num wa3 wb3) (shut_addr ho4)) (fun _ _ => rfl) rfl
    hw (ok_one (by kernel_rfl) rfl (okWide_bool_mk Tryz.underlying4 _))⟩

theorem carveParts_row : Rows.CarvePartsSaid :=
  OpenClaim.holds_of_wide 9 Tryz.f9 rfl rfl rfl rfl rfl rfl rfl ⟨rfl, rfl, rfl, rfl, rfl⟩ rfl rfl rfl rfl rfl (by kernel_rfl) Tryz.func9 (by kernel_rfl)
    (of_decide_eq_true (by kernel_rfl)) (by unfold Func.isWrapper; first | (rw [if_pos (by decide +kernel)]; kernel_rfl) | (rw [if_neg (by decide +kernel)]; exact ⟨rfl, rfl⟩))
    (fun os started H enc _ => carveParts_lifted os started H enc)

theorem carveParts_card : Rows.CarvePartsCardSaid :=
  Claim7.holds_tied_plain_at .later [] [.data, .data, .data, .data, .sentinel, .sentinel, .pinned] true Rows.carvePartsCard.stood.harness true
    carveParts_row (fun _ h => by cases h) (by kernel_rfl) (fun _ h => by cases h) carveParts_row_tie rfl ⟨rfl, rfl⟩ (by kernel_rfl) rfl
    (fun f fn hf hfn => by
      obtain rfl : f = 9 := Option.some.inj ((show Tryz.prog.funcNamed "platbook/platbooklaw04.CarveParts" = some 9 by kernel_rfl).symm.trans hf) |>.symm
      obtain rfl : fn = Tryz.f9 := (Option.some.inj (Tryz.func9.symm.trans hfn)).symm
      exact ⟨by kernel_rfl, fun j t ht => by
        rw [Tryz.params9] at ht
        have hm : t ∈ [38, 3, 24, 24, 26] := by simpa using Array.mem_of_getElem? ht
        have hall : ([38, 3, 24, 24, 26].all fun u => !Tryz.prog.wantsStandIn u) = true := by kernel_rfl
        exact (show Tryz.prog.wantsStandIn t = false by simpa using List.all_eq_true.1 hall t hm)⟩)
    (by kernel_rfl)
end Go.Proofs.YtgdgklibilddgaaGreatDoor

#print axioms Go.Proofs.YtgdgklibilddgaaGreatDoor.carveParts_card
