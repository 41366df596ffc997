/-
CarveBlocks: how many blocks and addresses a prefix has, and the one of a number, are what the reference tells: for every prefix, every number of bits and every number the call returns true. No condition; the listed variables are tied to the program's text.
-/
import Derived.ProofKit
import Derived.ChangeSame
import Derived.LaidMore
import Derived.Lay
import Derived.MakeChecks
import Derived.LaidByTextLater
import Derived.OpenShut
import Derived.Stop.Joined
import Derived.Stop.LaidErr
import Derived.Handed
import Derived.Shelf.Vars
import Derived.Lib.SmallJoins
import Derived.Carry
import Derived.SevenTiedAt
import Derived.ShutString
import Derived.Test.YtgdgklibilddgaaGreatDoorBloM3
import Derived.Test.YtgdgklibilddgaaGreatDoorRows
import Derived.Test.YtgdgklibilddgaaGreatDoorCards
import Derived.Test.YtgdgklibilddgaaGreatDoorTie
set_option linter.unusedVariables false
set_option linter.unusedSimpArgs false
namespace Go.Proofs.YtgdgklibilddgaaGreatDoor.PPr
open Go.RowKit Go.Proofs.YtgdgklibilddgaaGreatDoorW.PrintWords Go.Proofs.YtgdgklibilddgaaGreatDoorW.PrintLast Go.Proofs.YtgdgklibilddgaaGreatDoorW.PrintMore
attribute [local go_sem] max2_int min2_int max_two min_two max_three min_three max_four min_four   -- for this text's walks alone

def platbooklaw04_awake.f (k : Nat)  : Option (Bool) := (prefix_Parse.f (⟨#[49, 48, 46, 48, 46, 48, 46, 48, 47, 56]⟩ : ByteArray)).bind fun bt513 => ((num_Of.f 257).bind fun bt519 => ((carve_Block.f bt513.1 bt513.2.1 bt513.2.2.1 bt513.2.2.2.1 24 bt519.1 bt519.2).bind fun bt521 => ((addr_V4.f 167772161).bind fun bt527 => ((addr_V4.f 167772164).bind fun bt530 => ((carve_Spread.f k bt527.1 bt527.2.1 bt527.2.2 bt530.1 bt530.2.1 bt530.2.2).bind fun bt533 => (if bt521.2.2.2.2 = 0 then ((prefix_Print.f bt521.1 bt521.2.1 bt521.2.2.1 bt521.2.2.2.1).bind fun t537 => (if t537.toList = ([49, 48, 46, 49, 46, 49, 46, 48, 47, 50, 52] : List UInt8) then (if bt533.2 = 0 then (if (bt533.1.length : Int) = 3 then (if 1 < (bt533.1.length : Int) then ((prefix_Print.f ((rd_T38 bt533.1 1).f0.f0) ((rd_T38 bt533.1 1).f0.f1.f0) ((rd_T38 bt533.1 1).f0.f1.f1) ((rd_T38 bt533.1 1).f1)).bind fun t539 => (some (t539.toList == ([49, 48, 46, 48, 46, 48, 46, 50, 47, 51, 49] : List UInt8)))) else (none)) else (some false)) else (some false)) else (some false))) else (some false)))))))
def platbooklaw04_awake.T2 : Bool × List (List Nat × List Nat) := (true, [([], []), ([], []), ([0, 1, 1], [0, 1]), ([2], [2]), ([3], [3]), ([3], [3]), ([], []), ([6, 4, 2, 0, 1, 2, 3, 4, 6], [4, 6]), ([5, 7, 0, 1, 2, 3, 4, 5, 6, 7], [5])])
def platbooklaw04_awake.B2 : List Nat := [0, 0, 3, 7, 15, 15, 0, 95, 255]
theorem platbooklaw04_awake.tab2 : rtab .any (opsOf Tryz.f46 2) = platbooklaw04_awake.T2 := by kernel_rfl
theorem platbooklaw04_awake.bits2 : waitsOk platbooklaw04_awake.T2.2 platbooklaw04_awake.B2 = true := by kernel_rfl
set_option maxHeartbeats 8000000 in
set_option maxRecDepth 100000 in
theorem platbooklaw04_awake.calls (k : Nat)  (r : Bool) (w : World) (hG : Glob w) (hrt : r = true) (h : platbooklaw04_awake.f k  = some r) :
  Calls Tryz.prog 46 #[] w fun e w' => e = .returned (.bool r) ∧ Below w.heap.size w w' := by
 have hu38 := Tryz.underlying38
 have HGLB := Aside0.mk hG
 clear hG
 have HRT := Aside0.mk hrt
 clear hrt
 have HB := Aside0.mk (Below.refl w.heap.size w)
 have H : ((prefix_Parse.f (⟨#[49, 48, 46, 48, 46, 48, 46, 48, 47, 56]⟩ : ByteArray)).bind fun bt513 => ((num_Of.f 257).bind fun bt519 => ((carve_Block.f bt513.1 bt513.2.1 bt513.2.2.1 bt513.2.2.2.1 24 bt519.1 bt519.2).bind fun bt521 => ((addr_V4.f 167772161).bind fun bt527 => ((addr_V4.f 167772164).bind fun bt530 => ((carve_Spread.f k bt527.1 bt527.2.1 bt527.2.2 bt530.1 bt530.2.1 bt530.2.2).bind fun bt533 => (if bt521.2.2.2.2 = 0 then ((prefix_Print.f bt521.1 bt521.2.1 bt521.2.2.1 bt521.2.2.2.1).bind fun t537 => (if t537.toList = ([49, 48, 46, 49, 46, 49, 46, 48, 47, 50, 52] : List UInt8) then (if bt533.2 = 0 then (if (bt533.1.length : Int) = 3 then (if 1 < (bt533.1.length : Int) then ((prefix_Print.f ((rd_T38 bt533.1 1).f0.f0) ((rd_T38 bt533.1 1).f0.f1.f0) ((rd_T38 bt533.1 1).f0.f1.f1) ((rd_T38 bt533.1 1).f1)).bind fun t539 => (some (t539.toList == ([49, 48, 46, 48, 46, 48, 46, 50, 47, 51, 49] : List UInt8)))) else (none)) else (some false)) else (some false)) else (some false))) else (some false)))))))) = some r := h
 clear h
 replace H := Option.bind_eq_some_iff.mp H
 obtain ⟨⟨t513, t514, t515, t516, t517⟩, A10, H⟩ := H
 replace H : ((num_Of.f 257).bind fun bt519 => ((carve_Block.f t513 t514 t515 t516 24 bt519.1 bt519.2).bind fun bt521 => ((addr_V4.f 167772161).bind fun bt527 => ((addr_V4.f 167772164).bind fun bt530 => ((carve_Spread.f k bt527.1 bt527.2.1 bt527.2.2 bt530.1 bt530.2.1 bt530.2.2).bind fun bt533 => (if bt521.2.2.2.2 = 0 then ((prefix_Print.f bt521.1 bt521.2.1 bt521.2.2.1 bt521.2.2.2.1).bind fun t537 => (if t537.toList = ([49, 48, 46, 49, 46, 49, 46, 48, 47, 50, 52] : List UInt8) then (if bt533.2 = 0 then (if (bt533.1.length : Int) = 3 then (if 1 < (bt533.1.length : Int) then ((prefix_Print.f ((rd_T38 bt533.1 1).f0.f0) ((rd_T38 bt533.1 1).f0.f1.f0) ((rd_T38 bt533.1 1).f0.f1.f1) ((rd_T38 bt533.1 1).f1)).bind fun t539 => (some (t539.toList == ([49, 48, 46, 48, 46, 48, 46, 50, 47, 51, 49] : List UInt8)))) else (none)) else (some false)) else (some false)) else (some false))) else (some false))))))) = some r := H
 have A1 := Aside0.mk A10
 clear A10
 replace H := Option.bind_eq_some_iff.mp H
 obtain ⟨⟨t519, t520⟩, A20, H⟩ := H
 replace H : ((carve_Block.f t513 t514 t515 t516 24 t519 t520).bind fun bt521 => ((addr_V4.f 167772161).bind fun bt527 => ((addr_V4.f 167772164).bind fun bt530 => ((carve_Spread.f k bt527.1 bt527.2.1 bt527.2.2 bt530.1 bt530.2.1 bt530.2.2).bind fun bt533 => (if bt521.2.2.2.2 = 0 then ((prefix_Print.f bt521.1 bt521.2.1 bt521.2.2.1 bt521.2.2.2.1).bind fun t537 => (if t537.toList = ([49, 48, 46, 49, 46, 49, 46, 48, 47, 50, 52] : List UInt8) then (if bt533.2 = 0 then (if (bt533.1.length : Int) = 3 then (if 1 < (bt533.1.length : Int) then ((prefix_Print.f ((rd_T38 bt533.1 1).f0.f0) ((rd_T38 bt533.1 1).f0.f1.f0) ((rd_T38 bt533.1 1).f0.f1.f1) ((rd_T38 bt533.1 1).f1)).bind fun t539 => (some (t539.toList == ([49, 48, 46, 48, 46, 48, 46, 50, 47, 51, 49] : List UInt8)))) else (none)) else (some false)) else (some false)) else (some false))) else (some false)))))) = some r := H
 have A2 := Aside0.mk A20
 clear A20
 replace H := Option.bind_eq_some_iff.mp H
 obtain ⟨⟨t521, t522, t523, t524, t525⟩, A30, H⟩ := H
 replace H : ((addr_V4.f 167772161).bind fun bt527 => ((addr_V4.f 167772164).bind fun bt530 => ((carve_Spread.f k bt527.1 bt527.2.1 bt527.2.2 bt530.1 bt530.2.1 bt530.2.2).bind fun bt533 => (if t525 = 0 then ((prefix_Print.f t521 t522 t523 t524).bind fun t537 => (if t537.toList = ([49, 48, 46, 49, 46, 49, 46, 48, 47, 50, 52] : List UInt8) then (if bt533.2 = 0 then (if (bt533.1.length : Int) = 3 then (if 1 < (bt533.1.length : Int) then ((prefix_Print.f ((rd_T38 bt533.1 1).f0.f0) ((rd_T38 bt533.1 1).f0.f1.f0) ((rd_T38 bt533.1 1).f0.f1.f1) ((rd_T38 bt533.1 1).f1)).bind fun t539 => (some (t539.toList == ([49, 48, 46, 48, 46, 48, 46, 50, 47, 51, 49] : List UInt8)))) else (none)) else (some false)) else (some false)) else (some false))) else (some false))))) = some r := H
 have A3 := Aside0.mk A30
 clear A30
 replace H := Option.bind_eq_some_iff.mp H
 obtain ⟨⟨t527, t528, t529⟩, A40, H⟩ := H
 replace H : ((addr_V4.f 167772164).bind fun bt530 => ((carve_Spread.f k t527 t528 t529 bt530.1 bt530.2.1 bt530.2.2).bind fun bt533 => (if t525 = 0 then ((prefix_Print.f t521 t522 t523 t524).bind fun t537 => (if t537.toList = ([49, 48, 46, 49, 46, 49, 46, 48, 47, 50, 52] : List UInt8) then (if bt533.2 = 0 then (if (bt533.1.length : Int) = 3 then (if 1 < (bt533.1.length : Int) then ((prefix_Print.f ((rd_T38 bt533.1 1).f0.f0) ((rd_T38 bt533.1 1).f0.f1.f0) ((rd_T38 bt533.1 1).f0.f1.f1) ((rd_T38 bt533.1 1).f1)).bind fun t539 => (some (t539.toList == ([49, 48, 46, 48, 46, 48, 46, 50, 47, 51, 49] : List UInt8)))) else (none)) else (some false)) else (some false)) else (some false))) else (some false)))) = some r := H
 have A4 := Aside0.mk A40
 clear A40
 replace H := Option.bind_eq_some_iff.mp H
 obtain ⟨⟨t530, t531, t532⟩, A50, H⟩ := H
 replace H : ((carve_Spread.f k t527 t528 t529 t530 t531 t532).bind fun bt533 => (if t525 = 0 then ((prefix_Print.f t521 t522 t523 t524).bind fun t537 => (if t537.toList = ([49, 48, 46, 49, 46, 49, 46, 48, 47, 50, 52] : List UInt8) then (if bt533.2 = 0 then (if (bt533.1.length : Int) = 3 then (if 1 < (bt533.1.length : Int) then ((prefix_Print.f ((rd_T38 bt533.1 1).f0.f0) ((rd_T38 bt533.1 1).f0.f1.f0) ((rd_T38 bt533.1 1).f0.f1.f1) ((rd_T38 bt533.1 1).f1)).bind fun t539 => (some (t539.toList == ([49, 48, 46, 48, 46, 48, 46, 50, 47, 51, 49] : List UInt8)))) else (none)) else (some false)) else (some false)) else (some false))) else (some false))) = some r := H
 have A5 := Aside0.mk A50
 clear A50
 replace H := Option.bind_eq_some_iff.mp H
 obtain ⟨⟨t533, t536⟩, A60, H⟩ := H
 replace H : (if t525 = 0 then ((prefix_Print.f t521 t522 t523 t524).bind fun t537 => (if t537.toList = ([49, 48, 46, 49, 46, 49, 46, 48, 47, 50, 52] : List UInt8) then (if t536 = 0 then (if (t533.length : Int) = 3 then (if 1 < (t533.length : Int) then ((prefix_Print.f ((rd_T38 t533 1).f0.f0) ((rd_T38 t533 1).f0.f1.f0) ((rd_T38 t533 1).f0.f1.f1) ((rd_T38 t533 1).f1)).bind fun t539 => (some (t539.toList == ([49, 48, 46, 48, 46, 48, 46, 50, 47, 51, 49] : List UInt8)))) else (none)) else (some false)) else (some false)) else (some false))) else (some false)) = some r := H
 have A6 := Aside0.mk A60
 clear A60
 by_cases c7 : t525 = 0
 ·
  rw [if_pos c7] at H
  have c7b0 : (t525 == 0) = true := beq_iff_eq.mpr c7
  have c7b1 : (t525 != 0) = false := bne_eq_false_iff_eq.mpr c7
  clear c7
  replace H := Option.bind_eq_some_iff.mp H
  obtain ⟨t537, A80, H⟩ := H
  replace H : (if t537.toList = ([49, 48, 46, 49, 46, 49, 46, 48, 47, 50, 52] : List UInt8) then (if t536 = 0 then (if (t533.length : Int) = 3 then (if 1 < (t533.length : Int) then ((prefix_Print.f ((rd_T38 t533 1).f0.f0) ((rd_T38 t533 1).f0.f1.f0) ((rd_T38 t533 1).f0.f1.f1) ((rd_T38 t533 1).f1)).bind fun t539 => (some (t539.toList == ([49, 48, 46, 48, 46, 48, 46, 50, 47, 51, 49] : List UInt8)))) else (none)) else (some false)) else (some false)) else (some false)) = some r := H
  have A8 := Aside0.mk A80
  clear A80
  by_cases c9 : t537.toList = ([49, 48, 46, 49, 46, 49, 46, 48, 47, 50, 52] : List UInt8)
  ·
   rw [if_pos c9] at H
   have c9b0 : (t537.toList == ([49, 48, 46, 49, 46, 49, 46, 48, 47, 50, 52] : List UInt8)) = true := beq_iff_eq.mpr c9
   have c9b1 : (t537.toList != ([49, 48, 46, 49, 46, 49, 46, 48, 47, 50, 52] : List UInt8)) = false := bne_eq_false_iff_eq.mpr c9
   clear c9
   by_cases c10 : t536 = 0
   ·
    rw [if_pos c10] at H
    have c10b0 : (t536 == 0) = true := beq_iff_eq.mpr c10
    have c10b1 : (t536 != 0) = false := bne_eq_false_iff_eq.mpr c10
    clear c10
    by_cases c11 : (t533.length : Int) = 3
    ·
     rw [if_pos c11] at H
     have c11b0 : ((t533.length : Int) == 3) = true := beq_iff_eq.mpr c11
     have c11b1 : ((t533.length : Int) != 3) = false := bne_eq_false_iff_eq.mpr c11
     clear c11
     by_cases c12 : 1 < (t533.length : Int)
     ·
      rw [if_pos c12] at H
      have c12b0 : decide (1 < (t533.length : Int)) = true := decide_eq_true c12
      have c12b1 : decide (1 < t533.length) = true := decide_eq_true (by omega)
      clear c12
      replace H := Option.bind_eq_some_iff.mp H
      obtain ⟨t539, A130, H⟩ := H
      replace H : (some (t539.toList == ([49, 48, 46, 48, 46, 48, 46, 50, 47, 51, 49] : List UInt8))) = some r := H
      have A13 := Aside0.mk A130
      clear A130
      obtain rfl := Option.some.inj H
      go_enter Tryz.func46, Tryz.ntmps46
      try go_wp2_with (first | ((with_reducible refine gate_callee (f := 25) rfl ?_); refine gl_ (some 8) Tryz.func25 #[.string (⟨#[49, 48, 46, 48, 46, 48, 46, 48, 47, 56]⟩ : ByteArray)] ?_; (with_reducible refine (prefix_Parse.calls (⟨#[49, 48, 46, 48, 46, 48, 46, 48, 47, 56]⟩ : ByteArray) t513 t514 t515 t516 t517 _ ?side1 A1.out).mono ?_); (case side1 => exact glob_keep HGLB.out (pb_ HB)); rintro e w14 ⟨rfl, hb⟩; refine ⟨_, rfl, ?_⟩; replace HB := bs_ HB hb; (try clear hb); (try clear hb2); (try clear hk); (try clear hi)) | ((with_reducible refine gate_dst (N := 1) rfl ?_); (try (refine gate_guard (by rfl) ?_; dsimp only)); refine bx_ 1 #[.bool false, .int .u64 0, .int .u64 0, .int .i64 0] 38 ?_; intro gb518 hg w15 hbox hb; have BK518 := Aside0.mk (hbox); have GW518 := gw_ HB hg; have GE518 := gw_ HB hg; replace HB := bs_ HB hb; clear hb hbox hg; obtain ⟨hcz16_0, hcz16_1, hcz16_2, hcz16_3, hfz16_0, hfz16_1, hfz16_2, hfz16_3⟩ := c4_ BK518))
      have n0_ : Aside0 (((((w15.setCell ⟨gb518, 0, none⟩ (.bool t513)).setCell ⟨gb518, 1, none⟩ (.int .u64 t514)).setCell ⟨gb518, 2, none⟩ (.int .u64 t515)).setCell ⟨gb518, 3, none⟩ (.int .i64 t516)).heap[gb518]? = some (.cells #[.bool t513, .int .u64 t514, .int .u64 t515, .int .i64 t516] 38 (0, 0))) := ⟨by refine pw_ ?_; refine blk_put (cs := #[.bool t513, .int .u64 t514, .int .u64 t515, .int .i64 0]) ?_ 3 _ rfl; refine pw_ ?_; refine blk_put (cs := #[.bool t513, .int .u64 t514, .int .u64 0, .int .i64 0]) ?_ 2 _ rfl; refine pw_ ?_; refine blk_put (cs := #[.bool t513, .int .u64 0, .int .u64 0, .int .i64 0]) ?_ 1 _ rfl; refine pw_ ?_; refine blk_put (cs := #[.bool false, .int .u64 0, .int .u64 0, .int .i64 0]) ?_ 0 _ rfl; refine pw_ ?_; exact BK518.out⟩
      have n1_ : Aside0 (Below w.heap.size w ((((w15.setCell ⟨gb518, 0, none⟩ (.bool t513)).setCell ⟨gb518, 1, none⟩ (.int .u64 t514)).setCell ⟨gb518, 2, none⟩ (.int .u64 t515)).setCell ⟨gb518, 3, none⟩ (.int .i64 t516))) := ⟨pb_ HB⟩
      (try clear BK518)
      (try clear HB)
      generalize ((((w15.setCell ⟨gb518, 0, none⟩ (.bool t513)).setCell ⟨gb518, 1, none⟩ (.int .u64 t514)).setCell ⟨gb518, 2, none⟩ (.int .u64 t515)).setCell ⟨gb518, 3, none⟩ (.int .i64 t516)) = w17 at n0_ n1_ ⊢
      have BK518 := n0_
      have HB := n1_
      clear n0_ n1_
      replace BK518 := Aside0.mk (blk_drew BK518.out)
      replace HB := Aside0.mk (below_drew1 HB.out)
      refine start_ (n := 9) (S := fun w' => w'.cell? ⟨gb518, 0, none⟩ = some (.bool t513) ∧ w'.cell? ⟨gb518, 1, none⟩ = some (.int .u64 t514) ∧ w'.cell? ⟨gb518, 2, none⟩ = some (.int .u64 t515) ∧ w'.cell? ⟨gb518, 3, none⟩ = some (.int .i64 t516)) (ds := []) (bm_ 9 0) (by kernel_rfl) rfl rfl ⟨kc_ BK518 0, kc_ BK518 1, kc_ BK518 2, kc_ BK518 3⟩ (fun hHeld => ?_); refine with_tabW platbooklaw04_awake.tab2 platbooklaw04_awake.bits2 (fun HT_ HW_ => ?_)
      generalize w17.drew = w18 at BK518 HB hHeld ⊢
      refine ta_ 0 (some 12) (bm_ 9 1) rfl HT_ HW_ ⟨by rfl, by rintro w' ⟨s0, s1, s2, s3⟩; go_simp; with_reducible rfl⟩ hHeld ?_
      refine join_ (σ := Nat) 2 (bm_ 9 127) (fun s_ => [(13, .agg #[.int .u64 t519, .int .u64 t520]), (14, .tuple #[.agg #[.bool t521, .int .u64 t522, .int .u64 t523, .int .i64 t524], .int .i64 t525]), (3, .pointer (some ⟨s_, 0, none⟩)), (11, .tuple #[.agg #[.bool t521, .int .u64 t522, .int .u64 t523, .int .i64 t524], .int .i64 t525]), (15, .agg #[.bool t521, .int .u64 t522, .int .u64 t523, .int .i64 t524]), (16, .int .i64 t525)]) (fun s_ w' => (w'.cell? ⟨gb518, 0, none⟩ = some (.bool t513) ∧ w'.cell? ⟨gb518, 1, none⟩ = some (.int .u64 t514) ∧ w'.cell? ⟨gb518, 2, none⟩ = some (.int .u64 t515) ∧ w'.cell? ⟨gb518, 3, none⟩ = some (.int .i64 t516)) ∧ (w'.heap[gb518]? = some (.cells #[.bool t513, .int .u64 t514, .int .u64 t515, .int .i64 t516] 38 (0, 0))) ∧ (w'.heap[s_]? = some (.cells #[.bool false, .int .u64 0, .int .u64 0, .int .i64 0] 38 (0, 0))) ∧ (w.heap.size ≤ s_) ∧ (w.heap.size ≤ s_) ∧ (gb518 ≠ s_) ∧ (s_ ≠ gb518) ∧ (Below w.heap.size w w')) ?_ ?_
      rotate_left
      ·
       intro hCont
       refine two_ (i := 1) (j := 6) (Ni := some 13) (Nj := some 3) (bm_ 9 3) (bm_ 9 65) rfl rfl rfl rfl (two_of HT_.out (by kernel_rfl)) (by decide) (by decide) (fun K hK => ?_) (fun K hK => ?_)
       ·
        skip
        refine gr_ Tryz.func59 #[.int .u64 257] ?_
        with_reducible refine (num_Of.calls 257 t519 t520 _ A2.out).mono ?_
        rintro e w19 ⟨rfl, hb⟩
        refine ⟨_, rfl, ?_⟩
        replace BK518 := bb_ BK518 hb
        replace HB := bs_ HB hb
        (try clear hb)
        (try clear hb2)
        (try clear hk)
        (try clear hi)
        refine hK.out _ _ ⟨kc_ BK518 0, kc_ BK518 1, kc_ BK518 2, kc_ BK518 3⟩ (fun hHeld => ?_)
        clear hK K
        refine norm_ (a' := ?_) ?_ ?_
        rotate_left
        ·
         show Act.put _ (some 13) _ = _
         simp only [Act.put, List.setIfInBounds_toArray, List.set_cons_zero, List.set_cons_succ, i64_w, i32_w]
         rfl
        refine two_ (i := 2) (j := 6) (Ni := some 14) (Nj := some 3) (bm_ 9 7) (bm_ 9 67) rfl rfl rfl rfl (two_of HT_.out (by kernel_rfl)) (by decide) (by decide) (fun K hK => ?_) (fun K hK => ?_)
        ·
         skip
         refine gr_ Tryz.func49 #[.agg #[.bool t513, .int .u64 t514, .int .u64 t515, .int .i64 t516], .int .i64 24, .agg #[.int .u64 t519, .int .u64 t520]] ?_
         with_reducible refine (carve_Block.calls t513 t514 t515 t516 24 t519 t520 t521 t522 t523 t524 t525 _ A3.out).mono ?_
         rintro e w20 ⟨rfl, hb⟩
         refine ⟨_, rfl, ?_⟩
         replace BK518 := bb_ BK518 hb
         replace HB := bs_ HB hb
         (try clear hb)
         (try clear hb2)
         (try clear hk)
         (try clear hi)
         refine hK.out _ _ ⟨kc_ BK518 0, kc_ BK518 1, kc_ BK518 2, kc_ BK518 3⟩ (fun hHeld => ?_)
         clear hK K
         refine norm_ (a' := ?_) ?_ ?_
         rotate_left
         ·
          show Act.put _ (some 14) _ = _
          simp only [Act.put, List.setIfInBounds_toArray, List.set_cons_zero, List.set_cons_succ, i64_w, i32_w]
          rfl
         refine pu_ 3 (some 11) (bm_ 9 15) rfl HT_ ⟨by rfl, by intro w'; go_simp; with_reducible rfl⟩ ?_
         refine pu_ 4 (some 15) (bm_ 9 31) rfl HT_ ⟨by rfl, by intro w'; go_simp; with_reducible rfl⟩ ?_
         refine pu_ 5 (some 16) (bm_ 9 63) rfl HT_ ⟨by rfl, by intro w'; go_simp; with_reducible rfl⟩ ?_
         refine one_ (i := 6) (N := some 3) (bm_ 9 127) rfl rfl (one_of HT_.out (by kernel_rfl)) (by decide) (fun K hK => ?_)
         refine box_step ?hg (N := 3) ?hd (cs := #[.bool false, .int .u64 0, .int .u64 0, .int .i64 0]) (t := 38) ?hr ?_; (case hd => rfl); (case hg => rfl); (case hr => first | (go_simp; done) | (go_simp; rfl))
         intro gb526 hg w21 hbox hb
         have BK526 := Aside0.mk (hbox)
         have GW526 := gw_ HB hg
         have GE526 := gw_ HB hg
         have NB518_526 := nl_ BK518 hg
         have NB526_518 := ng_ BK518 hg
         replace BK518 := bb_ BK518 hb
         replace HB := bs_ HB hb
         clear hb hbox hg
         refine hK.out _ _ ⟨kc_ BK518 0, kc_ BK518 1, kc_ BK518 2, kc_ BK518 3⟩ (fun hHeld => ?_)
         clear hK K
         refine norm_ (a' := ?_) ?_ ?_
         rotate_left
         ·
          show Act.put _ (some 3) _ = _
          simp only [Act.put, List.setIfInBounds_toArray, List.set_cons_zero, List.set_cons_succ, i64_w, i32_w]
          rfl
         exact norm_ (by simp only [putAll, Act.put, List.setIfInBounds_toArray, List.set_cons_zero, List.set_cons_succ]) (hCont (gb526) _ ⟨hHeld, (pk_ BK518), (pk_ BK526), GW526.out, GE526.out, NB518_526.out, NB526_518.out, (pb_ HB)⟩)
        ·
         skip
         refine box_step ?hg (N := 3) ?hd (cs := #[.bool false, .int .u64 0, .int .u64 0, .int .i64 0]) (t := 38) ?hr ?_; (case hd => rfl); (case hg => rfl); (case hr => first | (go_simp; done) | (go_simp; rfl))
         intro gb526 hg w20 hbox hb
         have BK526 := Aside0.mk (hbox)
         have GW526 := gw_ HB hg
         have GE526 := gw_ HB hg
         have NB518_526 := nl_ BK518 hg
         have NB526_518 := ng_ BK518 hg
         replace BK518 := bb_ BK518 hb
         replace HB := bs_ HB hb
         clear hb hbox hg
         refine hK.out _ _ ⟨kc_ BK518 0, kc_ BK518 1, kc_ BK518 2, kc_ BK518 3⟩ (fun hHeld => ?_)
         clear hK K
         refine norm_ (a' := ?_) ?_ ?_
         rotate_left
         ·
          show Act.put _ (some 3) _ = _
          simp only [Act.put, List.setIfInBounds_toArray, List.set_cons_zero, List.set_cons_succ, i64_w, i32_w]
          rfl
         refine one_ (i := 2) (N := some 14) (bm_ 9 71) rfl rfl (one_of HT_.out (by kernel_rfl)) (by decide) (fun K hK => ?_)
         refine gr_ Tryz.func49 #[.agg #[.bool t513, .int .u64 t514, .int .u64 t515, .int .i64 t516], .int .i64 24, .agg #[.int .u64 t519, .int .u64 t520]] ?_
         with_reducible refine (carve_Block.calls t513 t514 t515 t516 24 t519 t520 t521 t522 t523 t524 t525 _ A3.out).mono ?_
         rintro e w21 ⟨rfl, hb⟩
         refine ⟨_, rfl, ?_⟩
         replace BK518 := bb_ BK518 hb
         replace BK526 := bb_ BK526 hb
         replace HB := bs_ HB hb
         (try clear hb)
         (try clear hb2)
         (try clear hk)
         (try clear hi)
         refine hK.out _ _ ⟨kc_ BK518 0, kc_ BK518 1, kc_ BK518 2, kc_ BK518 3⟩ (fun hHeld => ?_)
         clear hK K
         refine norm_ (a' := ?_) ?_ ?_
         rotate_left
         ·
          show Act.put _ (some 14) _ = _
          simp only [Act.put, List.setIfInBounds_toArray, List.set_cons_zero, List.set_cons_succ, i64_w, i32_w]
          rfl
         refine pu_ 3 (some 11) (bm_ 9 79) rfl HT_ ⟨by rfl, by intro w'; go_simp; with_reducible rfl⟩ ?_
         refine pu_ 4 (some 15) (bm_ 9 95) rfl HT_ ⟨by rfl, by intro w'; go_simp; with_reducible rfl⟩ ?_
         refine pu_ 5 (some 16) (bm_ 9 127) rfl HT_ ⟨by rfl, by intro w'; go_simp; with_reducible rfl⟩ ?_
         exact norm_ (by simp only [putAll, Act.put, List.setIfInBounds_toArray, List.set_cons_zero, List.set_cons_succ]) (hCont (gb526) _ ⟨hHeld, (pk_ BK518), (pk_ BK526), GW526.out, GE526.out, NB518_526.out, NB526_518.out, (pb_ HB)⟩)
       ·
        skip
        refine box_step ?hg (N := 3) ?hd (cs := #[.bool false, .int .u64 0, .int .u64 0, .int .i64 0]) (t := 38) ?hr ?_; (case hd => rfl); (case hg => rfl); (case hr => first | (go_simp; done) | (go_simp; rfl))
        intro gb526 hg w19 hbox hb
        have BK526 := Aside0.mk (hbox)
        have GW526 := gw_ HB hg
        have GE526 := gw_ HB hg
        have NB518_526 := nl_ BK518 hg
        have NB526_518 := ng_ BK518 hg
        replace BK518 := bb_ BK518 hb
        replace HB := bs_ HB hb
        clear hb hbox hg
        refine hK.out _ _ ⟨kc_ BK518 0, kc_ BK518 1, kc_ BK518 2, kc_ BK518 3⟩ (fun hHeld => ?_)
        clear hK K
        refine norm_ (a' := ?_) ?_ ?_
        rotate_left
        ·
         show Act.put _ (some 3) _ = _
         simp only [Act.put, List.setIfInBounds_toArray, List.set_cons_zero, List.set_cons_succ, i64_w, i32_w]
         rfl
        refine one_ (i := 1) (N := some 13) (bm_ 9 67) rfl rfl (one_of HT_.out (by kernel_rfl)) (by decide) (fun K hK => ?_)
        refine gr_ Tryz.func59 #[.int .u64 257] ?_
        with_reducible refine (num_Of.calls 257 t519 t520 _ A2.out).mono ?_
        rintro e w20 ⟨rfl, hb⟩
        refine ⟨_, rfl, ?_⟩
        replace BK518 := bb_ BK518 hb
        replace BK526 := bb_ BK526 hb
        replace HB := bs_ HB hb
        (try clear hb)
        (try clear hb2)
        (try clear hk)
        (try clear hi)
        refine hK.out _ _ ⟨kc_ BK518 0, kc_ BK518 1, kc_ BK518 2, kc_ BK518 3⟩ (fun hHeld => ?_)
        clear hK K
        refine norm_ (a' := ?_) ?_ ?_
        rotate_left
        ·
         show Act.put _ (some 13) _ = _
         simp only [Act.put, List.setIfInBounds_toArray, List.set_cons_zero, List.set_cons_succ, i64_w, i32_w]
         rfl
        refine one_ (i := 2) (N := some 14) (bm_ 9 71) rfl rfl (one_of HT_.out (by kernel_rfl)) (by decide) (fun K hK => ?_)
        refine gr_ Tryz.func49 #[.agg #[.bool t513, .int .u64 t514, .int .u64 t515, .int .i64 t516], .int .i64 24, .agg #[.int .u64 t519, .int .u64 t520]] ?_
        with_reducible refine (carve_Block.calls t513 t514 t515 t516 24 t519 t520 t521 t522 t523 t524 t525 _ A3.out).mono ?_
        rintro e w21 ⟨rfl, hb⟩
        refine ⟨_, rfl, ?_⟩
        replace BK518 := bb_ BK518 hb
        replace BK526 := bb_ BK526 hb
        replace HB := bs_ HB hb
        (try clear hb)
        (try clear hb2)
        (try clear hk)
        (try clear hi)
        refine hK.out _ _ ⟨kc_ BK518 0, kc_ BK518 1, kc_ BK518 2, kc_ BK518 3⟩ (fun hHeld => ?_)
        clear hK K
        refine norm_ (a' := ?_) ?_ ?_
        rotate_left
        ·
         show Act.put _ (some 14) _ = _
         simp only [Act.put, List.setIfInBounds_toArray, List.set_cons_zero, List.set_cons_succ, i64_w, i32_w]
         rfl
        refine pu_ 3 (some 11) (bm_ 9 79) rfl HT_ ⟨by rfl, by intro w'; go_simp; with_reducible rfl⟩ ?_
        refine pu_ 4 (some 15) (bm_ 9 95) rfl HT_ ⟨by rfl, by intro w'; go_simp; with_reducible rfl⟩ ?_
        refine pu_ 5 (some 16) (bm_ 9 127) rfl HT_ ⟨by rfl, by intro w'; go_simp; with_reducible rfl⟩ ?_
        exact norm_ (by simp only [putAll, Act.put, List.setIfInBounds_toArray, List.set_cons_zero, List.set_cons_succ]) (hCont (gb526) _ ⟨hHeld, (pk_ BK518), (pk_ BK526), GW526.out, GE526.out, NB518_526.out, NB526_518.out, (pb_ HB)⟩)
      rintro gb526 w22 ⟨hS_, h0_, h1_, h2_, h3_, h4_, h5_, h6_⟩
      have n0_ : Aside0 (w22.heap[gb518]? = some (.cells #[.bool t513, .int .u64 t514, .int .u64 t515, .int .i64 t516] 38 (0, 0))) := ⟨h0_⟩
      have n1_ : Aside0 (w22.heap[gb526]? = some (.cells #[.bool false, .int .u64 0, .int .u64 0, .int .i64 0] 38 (0, 0))) := ⟨h1_⟩
      have n2_ : Aside0 (w.heap.size ≤ gb526) := ⟨h2_⟩
      have n3_ : Aside0 (w.heap.size ≤ gb526) := ⟨h3_⟩
      have n4_ : Aside0 (gb518 ≠ gb526) := ⟨h4_⟩
      have n5_ : Aside0 (gb526 ≠ gb518) := ⟨h5_⟩
      have n6_ : Aside0 (Below w.heap.size w w22) := ⟨h6_⟩
      clear BK518
      clear HB
      clear h0_ h1_ h2_ h3_ h4_ h5_ h6_
      have BK518 := n0_
      have BK526 := n1_
      have GW526 := n2_
      have GE526 := n3_
      have NB518_526 := n4_
      have NB526_518 := n5_
      have HB := n6_
      clear n0_ n1_ n2_ n3_ n4_ n5_ n6_
      have hHeld : w22.cell? ⟨gb518, 0, none⟩ = some (.bool t513) ∧ w22.cell? ⟨gb518, 1, none⟩ = some (.int .u64 t514) ∧ w22.cell? ⟨gb518, 2, none⟩ = some (.int .u64 t515) ∧ w22.cell? ⟨gb518, 3, none⟩ = some (.int .i64 t516) := hS_
      refine norm_ (a' := ?_) ?_ ?_
      rotate_left
      ·
       simp only [putAll, Act.put, List.setIfInBounds_toArray, List.set_cons_zero, List.set_cons_succ]
       rfl
      refine one_ (i := 7) (N := none) (bm_ 9 255) rfl rfl (one_of HT_.out (by kernel_rfl)) (by decide) (fun K hK => ?_)
      have hs23 : w22.cell? ⟨gb526, 0, none⟩ = some (.bool false) := kc_ BK526 0
      have hfs23 := blk_frozen BK526.out 0
      have hns23_0 := NB518_526.out
      have hms23_0 := NB526_518.out
      have hs24 : w22.cell? ⟨gb526, 1, none⟩ = some (.int .u64 0) := kc_ BK526 1
      have hfs24 := blk_frozen BK526.out 1
      have hns24_0 := NB518_526.out
      have hms24_0 := NB526_518.out
      have hs25 : w22.cell? ⟨gb526, 2, none⟩ = some (.int .u64 0) := kc_ BK526 2
      have hfs25 := blk_frozen BK526.out 2
      have hns25_0 := NB518_526.out
      have hms25_0 := NB526_518.out
      have hs26 : w22.cell? ⟨gb526, 3, none⟩ = some (.int .i64 0) := kc_ BK526 3
      have hfs26 := blk_frozen BK526.out 3
      have hns26_0 := NB518_526.out
      have hms26_0 := NB526_518.out
      refine skip_ (w1 := ?_) (by rfl) rfl ?_ ?_
      rotate_left
      ·
       go_simp
       rfl
      refine hK.out _ _ ⟨((cell_far (p := ⟨gb526, _, none⟩) NB518_526.out _).trans (((cell_far (p := ⟨gb526, _, none⟩) NB518_526.out _).trans (((cell_far (p := ⟨gb526, _, none⟩) NB518_526.out _).trans (((cell_far (p := ⟨gb526, _, none⟩) NB518_526.out _).trans (hHeld.1)))))))), ((cell_far (p := ⟨gb526, _, none⟩) NB518_526.out _).trans (((cell_far (p := ⟨gb526, _, none⟩) NB518_526.out _).trans (((cell_far (p := ⟨gb526, _, none⟩) NB518_526.out _).trans (((cell_far (p := ⟨gb526, _, none⟩) NB518_526.out _).trans (hHeld.2.1)))))))), ((cell_far (p := ⟨gb526, _, none⟩) NB518_526.out _).trans (((cell_far (p := ⟨gb526, _, none⟩) NB518_526.out _).trans (((cell_far (p := ⟨gb526, _, none⟩) NB518_526.out _).trans (((cell_far (p := ⟨gb526, _, none⟩) NB518_526.out _).trans (hHeld.2.2.1)))))))), ((cell_far (p := ⟨gb526, _, none⟩) NB518_526.out _).trans (((cell_far (p := ⟨gb526, _, none⟩) NB518_526.out _).trans (((cell_far (p := ⟨gb526, _, none⟩) NB518_526.out _).trans (((cell_far (p := ⟨gb526, _, none⟩) NB518_526.out _).trans (hHeld.2.2.2))))))))⟩ (fun hHeld => ?_)
      clear hK K
      refine pu_ 8 (some 4) (bm_ 9 511) rfl HT_ ⟨by rfl, by intro w'; go_simp; with_reducible rfl⟩ ?_
      refine done_ (done_of HT_.out (by kernel_rfl)) ?_
      try go_wp2_with (first | ((with_reducible refine gate_callee (f := 88) rfl ?_); refine gl_ (some 18) Tryz.func88 #[.int .u32 167772161] ?_; (with_reducible refine (addr_V4.calls 167772161 t527 t528 t529 _ A4.out).mono ?_); rintro e w27 ⟨rfl, hb⟩; refine ⟨_, rfl, ?_⟩; replace BK518 := Aside0.mk (blk_below (g := gb518) (o := .cells #[.bool t513, .int .u64 t514, .int .u64 t515, .int .i64 t516] 38 (0, 0)) (by refine pw_ ?_; refine blk_far ?_ NB518_526.out _; refine pw_ ?_; refine blk_far ?_ NB518_526.out _; refine pw_ ?_; refine blk_far ?_ NB518_526.out _; refine pw_ ?_; refine blk_far ?_ NB518_526.out _; refine pw_ ?_; exact BK518.out) hb); replace BK526 := Aside0.mk (blk_below (g := gb526) (o := .cells #[.bool t521, .int .u64 t522, .int .u64 t523, .int .i64 t524] 38 (0, 0)) (by refine pw_ ?_; refine blk_put (cs := #[.bool t521, .int .u64 t522, .int .u64 t523, .int .i64 0]) ?_ 3 _ rfl; refine pw_ ?_; refine blk_put (cs := #[.bool t521, .int .u64 t522, .int .u64 0, .int .i64 0]) ?_ 2 _ rfl; refine pw_ ?_; refine blk_put (cs := #[.bool t521, .int .u64 0, .int .u64 0, .int .i64 0]) ?_ 1 _ rfl; refine pw_ ?_; refine blk_put (cs := #[.bool false, .int .u64 0, .int .u64 0, .int .i64 0]) ?_ 0 _ rfl; refine pw_ ?_; exact BK526.out) hb); replace HB := bs_ HB hb; (try clear hb); (try clear hb2); (try clear hk); (try clear hi)) | ((with_reducible refine gate_callee (f := 88) rfl ?_); refine gl_ (some 19) Tryz.func88 #[.int .u32 167772164] ?_; (with_reducible refine (addr_V4.calls 167772164 t530 t531 t532 _ A5.out).mono ?_); rintro e w28 ⟨rfl, hb⟩; refine ⟨_, rfl, ?_⟩; replace BK518 := bb_ BK518 hb; replace BK526 := bb_ BK526 hb; replace HB := bs_ HB hb; (try clear hb); (try clear hb2); (try clear hk); (try clear hi)) | ((with_reducible refine gate_callee (f := 58) rfl ?_); refine gl_ (some 20) Tryz.func58 #[.agg #[.bool t527, .int .u64 t528, .int .u64 t529], .agg #[.bool t530, .int .u64 t531, .int .u64 t532]] ?_; (with_reducible refine (carve_Spread.calls k t527 t528 t529 t530 t531 t532 t533 t536 _ A6.out).mono ?_); rintro e w29 ⟨v534, rfl, ho0, hb⟩; refine ⟨_, rfl, ?_⟩; have HO535 := Aside0.mk (Kd.R_lower (Kd.R_newB (Kd.R_newB ho0 (g := gb518) (o := .cells #[.bool t513, .int .u64 t514, .int .u64 t515, .int .i64 t516] 38 (0, 0)) (pk_ BK518)) (g := gb526) (o := .cells #[.bool t521, .int .u64 t522, .int .u64 t523, .int .i64 t524] 38 (0, 0)) (pk_ BK526)) (below_size (pb_ HB))); replace BK518 := bb_ BK518 hb; replace BK526 := bb_ BK526 hb; replace HB := bs_ HB hb; (try clear hb); (try clear hb2); (try clear hk); (try clear hi); (try clear ho0); have hnb30 := NB526_518.out; have hnc30 := NB518_526.out; obtain ⟨hcz31_0, hcz31_1, hcz31_2, hcz31_3, hfz31_0, hfz31_1, hfz31_2, hfz31_3⟩ := c4_ BK526) | (go_at_call 27; (with_reducible refine (prefix_Print.calls t521 t522 t523 t524 t537 _ ?side1 A8.out).mono ?_); (case side1 => exact glob_keep HGLB.out (pb_ HB)); rintro e w32 ⟨rfl, hb⟩; replace HO535 := Aside0.mk (Kd.R_below (by (with_reducible repeat (first | apply Kd.R_alloc | apply Kd.R_drewN | apply Kd.R_drew)); exact HO535.out) hb); replace BK518 := bb_ BK518 hb; replace BK526 := bb_ BK526 hb; replace HB := bs_ HB hb; (try clear hb); (try clear hb2); (try clear hk); (try clear hi); obtain ⟨Ao33, co33, eo33⟩ := Kd.R_slice HO535.out; subst eo33; have p538 : 0 ≤ (1 : Int) := (by omega); have q538 : 1 < (t533.length : Int) := of_decide_eq_true (by first | (with_reducible assumption) | assumption); obtain ⟨ad538, e538, hx538_0, hx538_1, hx538_2, hx538_3⟩ := at_T38 (Kd.R_reads' HO535.out).2.2 1 p538 q538; cases e538; (try simp only [show (1 : Int).toNat = 1 from rfl, Nat.reduceMul, Nat.reduceEqDiff, Go.Addr.add, ↓reduceIte] at hx538_0); (try simp only [show (1 : Int).toNat = 1 from rfl, Nat.reduceMul, Nat.reduceEqDiff, Go.Addr.add, ↓reduceIte] at hx538_1); (try simp only [show (1 : Int).toNat = 1 from rfl, Nat.reduceMul, Nat.reduceEqDiff, Go.Addr.add, ↓reduceIte] at hx538_2); (try simp only [show (1 : Int).toNat = 1 from rfl, Nat.reduceMul, Nat.reduceEqDiff, Go.Addr.add, ↓reduceIte] at hx538_3); have qi538 : (1 < t533.length) = True := eq_true (by omega); (try rw [show ((1 : Int)).toNat = 1 from rfl] at hx538_0); (try rw [show 1 * 4 = 4 from rfl] at hx538_0); (try rw [show ((1 : Int)).toNat = 1 from rfl] at hx538_1); (try rw [show 1 * 4 = 4 from rfl] at hx538_1); (try rw [show ((1 : Int)).toNat = 1 from rfl] at hx538_2); (try rw [show 1 * 4 = 4 from rfl] at hx538_2); (try rw [show ((1 : Int)).toNat = 1 from rfl] at hx538_3); (try rw [show 1 * 4 = 4 from rfl] at hx538_3); replace p538 := eq_true p538; replace q538 := eq_true q538) | (go_at_call 27; (with_reducible refine (prefix_Print.calls ((rd_T38 t533 1).f0.f0) ((rd_T38 t533 1).f0.f1.f0) ((rd_T38 t533 1).f0.f1.f1) ((rd_T38 t533 1).f1) t539 _ ?side1 A13.out).mono ?_); (case side1 => exact glob_keep HGLB.out (pb_ HB)); rintro e w34 ⟨rfl, hb⟩; replace HO535 := Aside0.mk (Kd.R_below (by (with_reducible repeat (first | apply Kd.R_alloc | apply Kd.R_drewN | apply Kd.R_drew)); exact HO535.out) hb); replace BK518 := bb_ BK518 hb; replace BK526 := bb_ BK526 hb; replace HB := bs_ HB hb; (try clear hb); (try clear hb2); (try clear hk); (try clear hi)))
      go_ret
      exact ⟨by first | rfl | (simp [errW_none, errW_some] <;> rfl) | (simp [*, errW_none, errW_some] <;> rfl), pb_ HB⟩
     ·
      rw [if_neg c12] at H
      exact absurd H (by simp)
    ·
     rw [if_neg c11] at H
     have c11b0 : ((t533.length : Int) == 3) = false := beq_eq_false_iff_ne.mpr c11
     have c11b1 : ((t533.length : Int) != 3) = true := bne_iff_ne.mpr c11
     obtain rfl := Option.some.inj H
     exact absurd HRT.out (by decide)
   ·
    rw [if_neg c10] at H
    have c10b0 : (t536 == 0) = false := beq_eq_false_iff_ne.mpr c10
    have c10b1 : (t536 != 0) = true := bne_iff_ne.mpr c10
    obtain rfl := Option.some.inj H
    exact absurd HRT.out (by decide)
  ·
   rw [if_neg c9] at H
   have c9b0 : (t537.toList == ([49, 48, 46, 49, 46, 49, 46, 48, 47, 50, 52] : List UInt8)) = false := beq_eq_false_iff_ne.mpr c9
   have c9b1 : (t537.toList != ([49, 48, 46, 49, 46, 49, 46, 48, 47, 50, 52] : List UInt8)) = true := bne_iff_ne.mpr c9
   obtain rfl := Option.some.inj H
   exact absurd HRT.out (by decide)
 ·
  rw [if_neg c7] at H
  have c7b0 : (t525 == 0) = false := beq_eq_false_iff_ne.mpr c7
  have c7b1 : (t525 != 0) = true := bne_iff_ne.mpr c7
  obtain rfl := Option.some.inj H
  exact absurd HRT.out (by decide)

def carve_power.f (a0 : Int) : Option (Int × Int × Bool) := if a0 ≥ 128 then (some (0, 0, false)) else ((num_Of.f 1).bind fun bt541 => ((num_Shl.f bt541.1 bt541.2 a0).bind fun bt543 => (some (bt543.1, bt543.2, true))))
set_option maxHeartbeats 8000000 in
set_option maxRecDepth 100000 in
theorem carve_power.calls (a0 : Int) (r1 : Int) (r2 : Int) (r3 : Bool) (w : World) (h : carve_power.f a0 = some (r1, r2, r3)) :
  Calls Tryz.prog 90 #[.int .i64 a0] w fun e w' => e = .returned (.tuple #[.agg #[.int .u64 r1, .int .u64 r2], .bool r3]) ∧ Below w.heap.size w w' := by
 have hu24 := Tryz.underlying24
 have HB := Aside0.mk (Below.refl w.heap.size w)
 have H : (if a0 ≥ 128 then (some (0, 0, false)) else ((num_Of.f 1).bind fun bt541 => ((num_Shl.f bt541.1 bt541.2 a0).bind fun bt543 => (some (bt543.1, bt543.2, true))))) = some (r1, r2, r3) := h
 clear h
 by_cases c2 : a0 ≥ 128
 ·
  rw [if_pos c2] at H
  have c2b0 : decide (128 ≤ a0) = true := decide_eq_true c2
  clear c2
  simp only [Option.some.injEq, Prod.mk.injEq] at H
  obtain ⟨rfl, rfl, rfl⟩ := H
  go_enter Tryz.func90, Tryz.ntmps90
  go_wp2_with (first | ((with_reducible refine gate_dst (N := 2) rfl ?_); refine bx_ 2 #[.int .u64 0, .int .u64 0] 24 ?_; intro gb540 hg w3 hbox hb; have BK540 := Aside0.mk (hbox); have GW540 := gw_ HB hg; have GE540 := gw_ HB hg; replace HB := bs_ HB hb; clear hb hbox hg; obtain ⟨hcz4_0, hcz4_1, hfz4_0, hfz4_1⟩ := c2_ BK540))
  refine bodyPost_ret (results_ct rfl _ _ gb540 24 #[.int .u64 0, .int .u64 0] (0, 0) _ rfl (by refine pw_ ?_; refine blk_put (cs := #[.int .u64 0, .int .u64 0]) ?_ 1 _ rfl; refine pw_ ?_; refine blk_put (cs := #[.int .u64 0, .int .u64 0]) ?_ 0 _ rfl; refine pw_ ?_; exact BK540.out) Tryz.underlying24 rfl (by kernel_rfl)) rfl ?_
  exact ⟨by first | rfl | (simp [errW_none, errW_some] <;> rfl) | (simp [*, errW_none, errW_some] <;> rfl), pb_ HB⟩
 ·
  rw [if_neg c2] at H
  have c2b0 : decide (128 ≤ a0) = false := decide_eq_false c2
  clear c2
  replace H := Option.bind_eq_some_iff.mp H
  obtain ⟨⟨t541, t542⟩, A50, H⟩ := H
  replace H : ((num_Shl.f t541 t542 a0).bind fun bt543 => (some (bt543.1, bt543.2, true))) = some (r1, r2, r3) := H
  have A5 := Aside0.mk A50
  clear A50
  replace H := Option.bind_eq_some_iff.mp H
  obtain ⟨⟨t543, t544⟩, A60, H⟩ := H
  replace H : (some (t543, t544, true)) = some (r1, r2, r3) := H
  have A6 := Aside0.mk A60
  clear A60
  simp only [Option.some.injEq, Prod.mk.injEq] at H
  obtain ⟨rfl, rfl, rfl⟩ := H
  go_enter Tryz.func90, Tryz.ntmps90
  go_wp2_with (first | ((with_reducible refine gate_dst (N := 2) rfl ?_); refine bx_ 2 #[.int .u64 0, .int .u64 0] 24 ?_; intro gb540 hg w7 hbox hb; have BK540 := Aside0.mk (hbox); have GW540 := gw_ HB hg; have GE540 := gw_ HB hg; replace HB := bs_ HB hb; clear hb hbox hg) | ((with_reducible refine gate_callee (f := 59) rfl ?_); refine gl_ (some 7) Tryz.func59 #[.int .u64 1] ?_; (with_reducible refine (num_Of.calls 1 t541 t542 _ A5.out).mono ?_); rintro e w8 ⟨rfl, hb⟩; refine ⟨_, rfl, ?_⟩; replace BK540 := bb_ BK540 hb; replace HB := bs_ HB hb; (try clear hb); (try clear hb2); (try clear hk); (try clear hi)) | ((with_reducible refine gate_callee (f := 84) rfl ?_); refine gl_ (some 9) Tryz.func84 #[.agg #[.int .u64 t541, .int .u64 t542], .int .i64 a0] ?_; (with_reducible refine (num_Shl.calls t541 t542 a0 t543 t544 _ A6.out).mono ?_); rintro e w9 ⟨rfl, hb⟩; refine ⟨_, rfl, ?_⟩; replace BK540 := bb_ BK540 hb; replace HB := bs_ HB hb; (try clear hb); (try clear hb2); (try clear hk); (try clear hi); obtain ⟨hcz10_0, hcz10_1, hfz10_0, hfz10_1⟩ := c2_ BK540))
  refine bodyPost_ret (results_ct rfl _ _ gb540 24 #[.int .u64 t543, .int .u64 t544] (0, 0) _ rfl (by refine pw_ ?_; refine blk_put (cs := #[.int .u64 t543, .int .u64 0]) ?_ 1 _ rfl; refine pw_ ?_; refine blk_put (cs := #[.int .u64 0, .int .u64 0]) ?_ 0 _ rfl; refine pw_ ?_; exact BK540.out) Tryz.underlying24 rfl (by kernel_rfl)) rfl ?_
  exact ⟨by first | rfl | (simp [errW_none, errW_some] <;> rfl) | (simp [*, errW_none, errW_some] <;> rfl), pb_ HB⟩

def carve_Blocks.f (a0_0 : Bool) (a0_1 : Int) (a0_2 : Int) (a0_3 : Int) (a1 : Int) : Option (Int × Int × Bool × Int) := (carve_cuts.f a0_0 a0_1 a0_2 a0_3 a1).bind fun t547 => (if t547 = true then ((carve_power.f (wrap64 (a1 - a0_3))).bind fun bt548 => (some (bt548.1, bt548.2.1, bt548.2.2, 0))) else (some (0, 0, false, 1)))
set_option maxHeartbeats 8000000 in
set_option maxRecDepth 100000 in
theorem carve_Blocks.calls (a0_0 : Bool) (a0_1 : Int) (a0_2 : Int) (a0_3 : Int) (a1 : Int) (r1 : Int) (r2 : Int) (r3 : Bool) (r4 : Int) (w : World) (h : carve_Blocks.f a0_0 a0_1 a0_2 a0_3 a1 = some (r1, r2, r3, r4)) :
  Calls Tryz.prog 47 #[.agg #[.bool a0_0, .int .u64 a0_1, .int .u64 a0_2, .int .i64 a0_3], .int .i64 a1] w fun e w' => e = .returned (.tuple #[.agg #[.int .u64 r1, .int .u64 r2], .bool r3, .int .i64 r4]) ∧ Below w.heap.size w w' := by
 have hu38 := Tryz.underlying38
 have hu24 := Tryz.underlying24
 have HB := Aside0.mk (Below.refl w.heap.size w)
 have H : ((carve_cuts.f a0_0 a0_1 a0_2 a0_3 a1).bind fun t547 => (if t547 = true then ((carve_power.f (wrap64 (a1 - a0_3))).bind fun bt548 => (some (bt548.1, bt548.2.1, bt548.2.2, 0))) else (some (0, 0, false, 1)))) = some (r1, r2, r3, r4) := h
 clear h
 replace H := Option.bind_eq_some_iff.mp H
 obtain ⟨t547, A30, H⟩ := H
 replace H : (if t547 = true then ((carve_power.f (wrap64 (a1 - a0_3))).bind fun bt548 => (some (bt548.1, bt548.2.1, bt548.2.2, 0))) else (some (0, 0, false, 1))) = some (r1, r2, r3, r4) := H
 have A3 := Aside0.mk A30
 clear A30
 by_cases c4 : t547 = true
 ·
  subst c4
  rw [if_pos rfl] at H
  replace H := Option.bind_eq_some_iff.mp H
  obtain ⟨⟨t548, t549, t550⟩, A50, H⟩ := H
  replace H : (some (t548, t549, t550, 0)) = some (r1, r2, r3, r4) := H
  have A5 := Aside0.mk A50
  clear A50
  simp only [Option.some.injEq, Prod.mk.injEq] at H
  obtain ⟨rfl, rfl, rfl, rfl⟩ := H
  go_enter Tryz.func47, Tryz.ntmps47
  go_wp2_with (first | ((with_reducible refine gate_dst (N := 2) rfl ?_); refine bx_ 2 #[.bool a0_0, .int .u64 a0_1, .int .u64 a0_2, .int .i64 a0_3] 38 ?_; intro gb545 hg w6 hbox hb; have BK545 := Aside0.mk (hbox); have GW545 := gw_ HB hg; have GE545 := gw_ HB hg; replace HB := bs_ HB hb; clear hb hbox hg) | ((with_reducible refine gate_dst (N := 4) rfl ?_); refine bx_ 4 #[.int .u64 0, .int .u64 0] 24 ?_; intro gb546 hg w7 hbox hb; have BK546 := Aside0.mk (hbox); have GW546 := gw_ HB hg; have GE546 := gw_ HB hg; have NB545_546 := nl_ BK545 hg; have NB546_545 := ng_ BK545 hg; replace BK545 := bb_ BK545 hb; replace HB := bs_ HB hb; clear hb hbox hg; have hnb8 := NB545_546.out; have hnc8 := NB546_545.out; obtain ⟨hcz9_0, hcz9_1, hcz9_2, hcz9_3, hfz9_0, hfz9_1, hfz9_2, hfz9_3⟩ := c4_ BK545) | ((with_reducible refine gate_callee (f := 89) rfl ?_); refine gl_ (some 11) Tryz.func89 #[.agg #[.bool a0_0, .int .u64 a0_1, .int .u64 a0_2, .int .i64 a0_3], .int .i64 a1] ?_; (with_reducible refine (carve_cuts.calls a0_0 a0_1 a0_2 a0_3 a1 true _ A3.out).mono ?_); rintro e w10 ⟨rfl, hb⟩; refine ⟨_, rfl, ?_⟩; replace BK545 := bb_ BK545 hb; replace BK546 := bb_ BK546 hb; replace HB := bs_ HB hb; (try clear hb); (try clear hb2); (try clear hk); (try clear hi); obtain ⟨hcz11_0, hcz11_1, hcz11_2, hcz11_3, hfz11_0, hfz11_1, hfz11_2, hfz11_3⟩ := c4_ BK545) | ((with_reducible refine gate_callee (f := 90) rfl ?_); refine gl_ (some 19) Tryz.func90 #[.int .i64 (wrap64 (a1 - a0_3))] ?_; (with_reducible refine (carve_power.calls (wrap64 (a1 - a0_3)) t548 t549 t550 _ A5.out).mono ?_); rintro e w12 ⟨rfl, hb⟩; refine ⟨_, rfl, ?_⟩; replace BK545 := bb_ BK545 hb; replace BK546 := bb_ BK546 hb; replace HB := bs_ HB hb; (try clear hb); (try clear hb2); (try clear hk); (try clear hi)) | ((with_reducible refine gate_dst (N := 7) rfl ?_); refine bx_ 7 #[.int .u64 0, .int .u64 0] 24 ?_; intro gb551 hg w13 hbox hb; have BK551 := Aside0.mk (hbox); have GW551 := gw_ HB hg; have GE551 := gw_ HB hg; have NB545_551 := nl_ BK545 hg; have NB551_545 := ng_ BK545 hg; have NB546_551 := nl_ BK546 hg; have NB551_546 := ng_ BK546 hg; replace BK545 := bb_ BK545 hb; replace BK546 := bb_ BK546 hb; replace HB := bs_ HB hb; clear hb hbox hg; have hnb14 := NB551_545.out; have hnc14 := NB545_551.out; have hnb15 := NB551_546.out; have hnc15 := NB546_551.out; obtain ⟨hcz16_0, hcz16_1, hfz16_0, hfz16_1⟩ := c2_ BK551; obtain ⟨hcz17_0, hcz17_1, hfz17_0, hfz17_1⟩ := c2_ BK546))
  refine bodyPost_ret (results_ctt rfl _ _ gb546 24 #[.int .u64 t548, .int .u64 t549] (0, 0) _ rfl (by refine pw_ ?_; refine blk_put (cs := #[.int .u64 t548, .int .u64 0]) ?_ 1 _ rfl; refine pw_ ?_; refine blk_put (cs := #[.int .u64 0, .int .u64 0]) ?_ 0 _ rfl; refine pw_ ?_; refine blk_far ?_ NB546_551.out _; refine pw_ ?_; refine blk_far ?_ NB546_551.out _; refine pw_ ?_; exact BK546.out) Tryz.underlying24 rfl (by kernel_rfl)) rfl ?_
  exact ⟨by first | rfl | (simp [errW_none, errW_some] <;> rfl) | (simp [*, errW_none, errW_some] <;> rfl), pb_ HB⟩
 ·
  replace c4 := Bool.eq_false_iff.mpr c4
  subst c4
  have H1 : (some (0, 0, false, 1)) = some (r1, r2, r3, r4) := by rw [if_neg (show ¬ (false = true) by decide)] at H; exact H
  clear H
  have H := H1
  clear H1
  simp only [Option.some.injEq, Prod.mk.injEq] at H
  obtain ⟨rfl, rfl, rfl, rfl⟩ := H
  go_enter Tryz.func47, Tryz.ntmps47
  go_wp2_with (first | ((with_reducible refine gate_dst (N := 2) rfl ?_); refine bx_ 2 #[.bool a0_0, .int .u64 a0_1, .int .u64 a0_2, .int .i64 a0_3] 38 ?_; intro gb545 hg w18 hbox hb; have BK545 := Aside0.mk (hbox); have GW545 := gw_ HB hg; have GE545 := gw_ HB hg; replace HB := bs_ HB hb; clear hb hbox hg) | ((with_reducible refine gate_dst (N := 4) rfl ?_); refine bx_ 4 #[.int .u64 0, .int .u64 0] 24 ?_; intro gb546 hg w19 hbox hb; have BK546 := Aside0.mk (hbox); have GW546 := gw_ HB hg; have GE546 := gw_ HB hg; have NB545_546 := nl_ BK545 hg; have NB546_545 := ng_ BK545 hg; replace BK545 := bb_ BK545 hb; replace HB := bs_ HB hb; clear hb hbox hg; have hnb20 := NB545_546.out; have hnc20 := NB546_545.out; obtain ⟨hcz21_0, hcz21_1, hcz21_2, hcz21_3, hfz21_0, hfz21_1, hfz21_2, hfz21_3⟩ := c4_ BK545) | ((with_reducible refine gate_callee (f := 89) rfl ?_); refine gl_ (some 11) Tryz.func89 #[.agg #[.bool a0_0, .int .u64 a0_1, .int .u64 a0_2, .int .i64 a0_3], .int .i64 a1] ?_; (with_reducible refine (carve_cuts.calls a0_0 a0_1 a0_2 a0_3 a1 false _ A3.out).mono ?_); rintro e w22 ⟨rfl, hb⟩; refine ⟨_, rfl, ?_⟩; replace BK545 := bb_ BK545 hb; replace BK546 := bb_ BK546 hb; replace HB := bs_ HB hb; (try clear hb); (try clear hb2); (try clear hk); (try clear hi); obtain ⟨hcz23_0, hcz23_1, hfz23_0, hfz23_1⟩ := c2_ BK546))
  refine bodyPost_ret (results_ctt rfl _ _ gb546 24 #[.int .u64 0, .int .u64 0] (0, 0) _ rfl (by refine pw_ ?_; refine blk_put (cs := #[.int .u64 0, .int .u64 0]) ?_ 1 _ rfl; refine pw_ ?_; refine blk_put (cs := #[.int .u64 0, .int .u64 0]) ?_ 0 _ rfl; refine pw_ ?_; exact BK546.out) Tryz.underlying24 rfl (by kernel_rfl)) rfl ?_
  exact ⟨by first | rfl | (simp [errW_none, errW_some] <;> rfl) | (simp [*, errW_none, errW_some] <;> rfl), pb_ HB⟩

def platbookref04_Cuts.f (k : Nat) (a0_0 : Bool) (a0_1 : Int) (a0_2 : Int) (a0_3 : Int) (a1 : Int) : Option (Bool) := (platbookref03_Right.f k a0_0 a0_1 a0_2 a0_3).bind fun t553 => (if t553 = true then (if a1 ≥ a0_3 then ((platbookref02_Width.f a0_0 a0_1 a0_2).bind fun t554 => (some (decide (a1 ≤ t554)))) else (some false)) else (some false))
set_option maxHeartbeats 8000000 in
set_option maxRecDepth 100000 in
theorem platbookref04_Cuts.calls (k : Nat) (a0_0 : Bool) (a0_1 : Int) (a0_2 : Int) (a0_3 : Int) (a1 : Int) (r : Bool) (w : World) (h : platbookref04_Cuts.f k a0_0 a0_1 a0_2 a0_3 a1 = some r) :
  Calls Tryz.prog 55 #[.agg #[.bool a0_0, .int .u64 a0_1, .int .u64 a0_2, .int .i64 a0_3], .int .i64 a1] w fun e w' => e = .returned (.bool r) ∧ Below w.heap.size w w' := by
 have hu38 := Tryz.underlying38
 have hu26 := Tryz.underlying26
 have HB := Aside0.mk (Below.refl w.heap.size w)
 have H : ((platbookref03_Right.f k a0_0 a0_1 a0_2 a0_3).bind fun t553 => (if t553 = true then (if a1 ≥ a0_3 then ((platbookref02_Width.f a0_0 a0_1 a0_2).bind fun t554 => (some (decide (a1 ≤ t554)))) else (some false)) else (some false))) = some r := h
 clear h
 replace H := Option.bind_eq_some_iff.mp H
 obtain ⟨t553, A30, H⟩ := H
 replace H : (if t553 = true then (if a1 ≥ a0_3 then ((platbookref02_Width.f a0_0 a0_1 a0_2).bind fun t554 => (some (decide (a1 ≤ t554)))) else (some false)) else (some false)) = some r := H
 have A3 := Aside0.mk A30
 clear A30
 by_cases c4 : t553 = true
 ·
  subst c4
  rw [if_pos rfl] at H
  by_cases c5 : a1 ≥ a0_3
  ·
   rw [if_pos c5] at H
   have c5b0 : decide (a0_3 ≤ a1) = true := decide_eq_true c5
   clear c5
   replace H := Option.bind_eq_some_iff.mp H
   obtain ⟨t554, A60, H⟩ := H
   replace H : (some (decide (a1 ≤ t554))) = some r := H
   have A6 := Aside0.mk A60
   clear A60
   obtain rfl := Option.some.inj H
   go_enter Tryz.func55, Tryz.ntmps55
   go_wp2_with (first | ((with_reducible refine gate_dst (N := 2) rfl ?_); refine bx_ 2 #[.bool a0_0, .int .u64 a0_1, .int .u64 a0_2, .int .i64 a0_3] 38 ?_; intro gb552 hg w7 hbox hb; have BK552 := Aside0.mk (hbox); have GW552 := gw_ HB hg; have GE552 := gw_ HB hg; replace HB := bs_ HB hb; clear hb hbox hg; obtain ⟨hcz8_0, hcz8_1, hcz8_2, hcz8_3, hfz8_0, hfz8_1, hfz8_2, hfz8_3⟩ := c4_ BK552) | ((with_reducible refine gate_callee (f := 29) rfl ?_); refine gl_ (some 6) Tryz.func29 #[.agg #[.bool a0_0, .int .u64 a0_1, .int .u64 a0_2, .int .i64 a0_3]] ?_; (with_reducible refine (platbookref03_Right.calls k a0_0 a0_1 a0_2 a0_3 true _ A3.out).mono ?_); rintro e w9 ⟨rfl, hb⟩; refine ⟨_, rfl, ?_⟩; replace BK552 := bb_ BK552 hb; replace HB := bs_ HB hb; (try clear hb); (try clear hb2); (try clear hk); (try clear hi); obtain ⟨hcz10_0, hcz10_1, hcz10_2, hcz10_3, hfz10_0, hfz10_1, hfz10_2, hfz10_3⟩ := c4_ BK552) | (go_at_call 23; (with_reducible refine (platbookref02_Width.calls a0_0 a0_1 a0_2 t554 _ A6.out).mono ?_); rintro e w11 ⟨rfl, hb⟩; replace BK552 := bb_ BK552 hb; replace HB := bs_ HB hb; (try clear hb); (try clear hb2); (try clear hk); (try clear hi)))
   go_ret
   exact ⟨by first | rfl | (simp [errW_none, errW_some] <;> rfl) | (simp [*, errW_none, errW_some] <;> rfl), pb_ HB⟩
  ·
   rw [if_neg c5] at H
   have c5b0 : decide (a0_3 ≤ a1) = false := decide_eq_false c5
   clear c5
   obtain rfl := Option.some.inj H
   go_enter Tryz.func55, Tryz.ntmps55
   go_wp2_with (first | ((with_reducible refine gate_dst (N := 2) rfl ?_); refine bx_ 2 #[.bool a0_0, .int .u64 a0_1, .int .u64 a0_2, .int .i64 a0_3] 38 ?_; intro gb552 hg w12 hbox hb; have BK552 := Aside0.mk (hbox); have GW552 := gw_ HB hg; have GE552 := gw_ HB hg; replace HB := bs_ HB hb; clear hb hbox hg; obtain ⟨hcz13_0, hcz13_1, hcz13_2, hcz13_3, hfz13_0, hfz13_1, hfz13_2, hfz13_3⟩ := c4_ BK552) | ((with_reducible refine gate_callee (f := 29) rfl ?_); refine gl_ (some 6) Tryz.func29 #[.agg #[.bool a0_0, .int .u64 a0_1, .int .u64 a0_2, .int .i64 a0_3]] ?_; (with_reducible refine (platbookref03_Right.calls k a0_0 a0_1 a0_2 a0_3 true _ A3.out).mono ?_); rintro e w14 ⟨rfl, hb⟩; refine ⟨_, rfl, ?_⟩; replace BK552 := bb_ BK552 hb; replace HB := bs_ HB hb; (try clear hb); (try clear hb2); (try clear hk); (try clear hi); obtain ⟨hcz15_0, hcz15_1, hcz15_2, hcz15_3, hfz15_0, hfz15_1, hfz15_2, hfz15_3⟩ := c4_ BK552))
   go_ret
   exact ⟨by first | rfl | (simp [errW_none, errW_some] <;> rfl) | (simp [*, errW_none, errW_some] <;> rfl), pb_ HB⟩
 ·
  replace c4 := Bool.eq_false_iff.mpr c4
  subst c4
  have H1 : (some false) = some r := by rw [if_neg (show ¬ (false = true) by decide)] at H; exact H
  clear H
  have H := H1
  clear H1
  obtain rfl := Option.some.inj H
  go_enter Tryz.func55, Tryz.ntmps55
  go_wp2_with (first | ((with_reducible refine gate_dst (N := 2) rfl ?_); refine bx_ 2 #[.bool a0_0, .int .u64 a0_1, .int .u64 a0_2, .int .i64 a0_3] 38 ?_; intro gb552 hg w16 hbox hb; have BK552 := Aside0.mk (hbox); have GW552 := gw_ HB hg; have GE552 := gw_ HB hg; replace HB := bs_ HB hb; clear hb hbox hg; obtain ⟨hcz17_0, hcz17_1, hcz17_2, hcz17_3, hfz17_0, hfz17_1, hfz17_2, hfz17_3⟩ := c4_ BK552) | ((with_reducible refine gate_callee (f := 29) rfl ?_); refine gl_ (some 6) Tryz.func29 #[.agg #[.bool a0_0, .int .u64 a0_1, .int .u64 a0_2, .int .i64 a0_3]] ?_; (with_reducible refine (platbookref03_Right.calls k a0_0 a0_1 a0_2 a0_3 false _ A3.out).mono ?_); rintro e w18 ⟨rfl, hb⟩; refine ⟨_, rfl, ?_⟩; replace BK552 := bb_ BK552 hb; replace HB := bs_ HB hb; (try clear hb); (try clear hb2); (try clear hk); (try clear hi)))
  go_ret
  exact ⟨by first | rfl | (simp [errW_none, errW_some] <;> rfl) | (simp [*, errW_none, errW_some] <;> rfl), pb_ HB⟩

def platbookref04_Count.l0 : Nat → Int → Int → Int → Int → Option (Int × Int × Bool)
 | 0, _, _, _, _ => none
 | k + 1, x0, x5, x557000, x557001 => if x5 < x0 then ((platbookref01_Add.f x557000 x557001 x557000 x557001).bind fun bt557 => (platbookref04_Count.l0 k x0 (wrap64 (x5 + 1)) bt557.1 bt557.2.1)) else (some (x557000, x557001, true))
def platbookref04_Count.f (k : Nat) (a0 : Int) : Option (Int × Int × Bool) := if a0 = 128 then (some (0, 0, false)) else (platbookref04_Count.l0 k a0 0 0 1)
set_option maxHeartbeats 8000000 in
set_option maxRecDepth 100000 in
theorem platbookref04_Count.calls (k : Nat) (a0 : Int) (r1 : Int) (r2 : Int) (r3 : Bool) (w : World) (h : platbookref04_Count.f k a0 = some (r1, r2, r3)) :
  Calls Tryz.prog 91 #[.int .i64 a0] w fun e w' => e = .returned (.tuple #[.agg #[.int .u64 r1, .int .u64 r2], .bool r3]) ∧ Below w.heap.size w w' := by
 have hu24 := Tryz.underlying24
 have HB := Aside0.mk (Below.refl w.heap.size w)
 have H : (if a0 = 128 then (some (0, 0, false)) else (platbookref04_Count.l0 k a0 0 0 1)) = some (r1, r2, r3) := h
 clear h
 by_cases c2 : a0 = 128
 ·
  rw [if_pos c2] at H
  have c2b0 : (a0 == 128) = true := beq_iff_eq.mpr c2
  have c2b1 : (a0 != 128) = false := bne_eq_false_iff_eq.mpr c2
  clear c2
  simp only [Option.some.injEq, Prod.mk.injEq] at H
  obtain ⟨rfl, rfl, rfl⟩ := H
  go_enter Tryz.func91, Tryz.ntmps91
  go_wp2_with (first | ((with_reducible refine gate_dst (N := 2) rfl ?_); refine bx_ 2 #[.int .u64 0, .int .u64 0] 24 ?_; intro gb555 hg w3 hbox hb; have BK555 := Aside0.mk (hbox); have GW555 := gw_ HB hg; have GE555 := gw_ HB hg; replace HB := bs_ HB hb; clear hb hbox hg; obtain ⟨hcz4_0, hcz4_1, hfz4_0, hfz4_1⟩ := c2_ BK555))
  refine bodyPost_ret (results_ct rfl _ _ gb555 24 #[.int .u64 0, .int .u64 0] (0, 0) _ rfl (by refine pw_ ?_; refine blk_put (cs := #[.int .u64 0, .int .u64 0]) ?_ 1 _ rfl; refine pw_ ?_; refine blk_put (cs := #[.int .u64 0, .int .u64 0]) ?_ 0 _ rfl; refine pw_ ?_; exact BK555.out) Tryz.underlying24 rfl (by kernel_rfl)) rfl ?_
  exact ⟨by first | rfl | (simp [errW_none, errW_some] <;> rfl) | (simp [*, errW_none, errW_some] <;> rfl), pb_ HB⟩
 ·
  rw [if_neg c2] at H
  have c2b0 : (a0 == 128) = false := beq_eq_false_iff_ne.mpr c2
  have c2b1 : (a0 != 128) = true := bne_iff_ne.mpr c2
  have H' := Aside0.mk H
  clear H
  go_enter Tryz.func91, Tryz.ntmps91
  go_wp2_with (first | ((with_reducible refine gate_dst (N := 2) rfl ?_); refine bx_ 2 #[.int .u64 0, .int .u64 0] 24 ?_; intro gb555 hg w5 hbox hb; have BK555 := Aside0.mk (hbox); have GW555 := gw_ HB hg; have GE555 := gw_ HB hg; replace HB := bs_ HB hb; clear hb hbox hg) | ((with_reducible refine gate_dst (N := 4) rfl ?_); refine bx_ 4 #[.int .u64 0, .int .u64 0] 24 ?_; intro gb556 hg w6 hbox hb; have BK556 := Aside0.mk (hbox); have GW556 := gw_ HB hg; have GE556 := gw_ HB hg; have NB555_556 := nl_ BK555 hg; have NB556_555 := ng_ BK555 hg; replace BK555 := bb_ BK555 hb; replace HB := bs_ HB hb; clear hb hbox hg; have hnb7 := NB556_555.out; have hnc7 := NB555_556.out; obtain ⟨hcz8_0, hcz8_1, hfz8_0, hfz8_1⟩ := c2_ BK556))
  go_loopg [5] k (fun kq v5 w' => ∃ (x5_1 : Int) (x557000_1 : Int) (x557001_1 : Int), v5 = .int .i64 x5_1 ∧ Aside0 (platbookref04_Count.l0 kq a0 x5_1 x557000_1 x557001_1 = some (r1, r2, r3)) ∧ Aside0 (kq ≤ k) ∧ Aside0 (w'.heap[gb555]? = some (.cells #[.int .u64 0, .int .u64 0] 24 (0, 0))) ∧ Aside0 (w'.heap[gb556]? = some (.cells #[.int .u64 x557000_1, .int .u64 x557001_1] 24 (0, 0))) ∧ Aside0 (Below w.heap.size w w'))
  case atStart => exact ⟨(0), (0), (1), (by first | rfl | (simp; done) | (simp [*]; done)), H', ⟨Nat.le_refl _⟩, ⟨by refine pw_ ?_; refine blk_far ?_ NB555_556.out _; refine pw_ ?_; refine blk_far ?_ NB555_556.out _; refine pw_ ?_; exact BK555.out⟩, ⟨by refine pw_ ?_; refine blk_put (cs := #[.int .u64 0, .int .u64 0]) ?_ 1 _ rfl; refine pw_ ?_; refine blk_put (cs := #[.int .u64 0, .int .u64 0]) ?_ 0 _ rfl; refine pw_ ?_; exact BK556.out⟩, ⟨pb_ HB⟩⟩
  case round =>
   clear H'
   try clear c2
   try clear c2b0
   try clear c2b1
   try clear p2
   try clear c7
   try clear hcz4_0
   try clear hcz4_1
   try clear hcz8_0
   try clear hcz8_1
   try clear hfz4_0
   try clear hfz4_1
   try clear hfz8_0
   try clear hfz8_1
   obtain ⟨x5_1, x557000_1, x557001_1, rfl, HA, HK1, BK555, BK556, HB⟩ := hrel
   cases gk with
   | zero => exact absurd HA.out (by simp [platbookref04_Count.l0])
   | succ k1 =>
    have H := HA.out
    clear HA
    simp only [platbookref04_Count.l0] at H
    by_cases c9 : x5_1 < a0
    ·
     rw [if_pos c9] at H
     have c9b0 : decide (x5_1 < a0) = true := decide_eq_true c9
     clear c9
     replace H := Option.bind_eq_some_iff.mp H
     obtain ⟨⟨t557, t558, t559⟩, A100, H⟩ := H
     replace H : (platbookref04_Count.l0 k1 a0 (wrap64 (x5_1 + 1)) t557 t558) = some (r1, r2, r3) := H
     have A10 := Aside0.mk A100
     clear A100
     have H' := Aside0.mk H
     clear H
     have hnb11 := NB556_555.out
     have hnc11 := NB555_556.out
     obtain ⟨hcz12_0, hcz12_1, hfz12_0, hfz12_1⟩ := c2_ BK556
     go_wp2_with (first | ((with_reducible refine gate_callee (f := 67) rfl ?_); refine gl_ (some 18) Tryz.func67 #[.agg #[.int .u64 x557000_1, .int .u64 x557001_1], .agg #[.int .u64 x557000_1, .int .u64 x557001_1]] ?_; (with_reducible refine (platbookref01_Add.calls x557000_1 x557001_1 x557000_1 x557001_1 t557 t558 t559 _ A10.out).mono ?_); rintro e w13 ⟨rfl, hb⟩; refine ⟨_, rfl, ?_⟩; replace BK555 := bb_ BK555 hb; replace BK556 := bb_ BK556 hb; replace HB := bs_ HB hb; (try clear hb); (try clear hb2); (try clear hk); (try clear hi); obtain ⟨hcz14_0, hcz14_1, hfz14_0, hfz14_1⟩ := c2_ BK556))
     go_roundg k1
     case measure => have := HK1.out; omega
     case rel => exact ⟨(wrap64 (x5_1 + 1)), (t557), (t558), (by first | rfl | (simp; done) | (simp [*]; done)), H', ⟨by have := HK1.out; omega⟩, ⟨by refine pw_ ?_; refine blk_far ?_ NB555_556.out _; refine pw_ ?_; refine blk_far ?_ NB555_556.out _; refine pw_ ?_; exact BK555.out⟩, ⟨by refine pw_ ?_; refine blk_put (cs := #[.int .u64 t557, .int .u64 x557001_1]) ?_ 1 _ rfl; refine pw_ ?_; refine blk_put (cs := #[.int .u64 x557000_1, .int .u64 x557001_1]) ?_ 0 _ rfl; refine pw_ ?_; exact BK556.out⟩, ⟨pb_ HB⟩⟩
    ·
     rw [if_neg c9] at H
     have c9b0 : decide (x5_1 < a0) = false := decide_eq_false c9
     clear c9
     simp only [Option.some.injEq, Prod.mk.injEq] at H
     obtain ⟨rfl, rfl, rfl⟩ := H
     have hnb15 := NB556_555.out
     have hnc15 := NB555_556.out
     obtain ⟨hcz16_0, hcz16_1, hfz16_0, hfz16_1⟩ := c2_ BK556
     obtain ⟨hcz17_0, hcz17_1, hfz17_0, hfz17_1⟩ := c2_ BK555
     go_wp2
     refine bodyPost_ret (results_ct rfl _ _ gb555 24 #[.int .u64 x557000_1, .int .u64 x557001_1] (0, 0) _ rfl (by refine pw_ ?_; refine blk_put (cs := #[.int .u64 x557000_1, .int .u64 0]) ?_ 1 _ rfl; refine pw_ ?_; refine blk_put (cs := #[.int .u64 0, .int .u64 0]) ?_ 0 _ rfl; refine pw_ ?_; exact BK555.out) Tryz.underlying24 rfl (by kernel_rfl)) rfl ?_
     exact ⟨by first | rfl | (simp [errW_none, errW_some] <;> rfl) | (simp [*, errW_none, errW_some] <;> rfl), pb_ HB⟩

def platbookref04_Blocks.f (k : Nat) (a0_0 : Bool) (a0_1 : Int) (a0_2 : Int) (a0_3 : Int) (a1 : Int) : Option (Int × Int × Bool × Int) := (platbookref04_Cuts.f k a0_0 a0_1 a0_2 a0_3 a1).bind fun t562 => (if t562 = true then ((platbookref04_Count.f k (wrap64 (a1 - a0_3))).bind fun bt563 => (some (bt563.1, bt563.2.1, bt563.2.2, 0))) else (some (0, 0, false, 1)))
set_option maxHeartbeats 8000000 in
set_option maxRecDepth 100000 in
theorem platbookref04_Blocks.calls (k : Nat) (a0_0 : Bool) (a0_1 : Int) (a0_2 : Int) (a0_3 : Int) (a1 : Int) (r1 : Int) (r2 : Int) (r3 : Bool) (r4 : Int) (w : World) (h : platbookref04_Blocks.f k a0_0 a0_1 a0_2 a0_3 a1 = some (r1, r2, r3, r4)) :
  Calls Tryz.prog 48 #[.agg #[.bool a0_0, .int .u64 a0_1, .int .u64 a0_2, .int .i64 a0_3], .int .i64 a1] w fun e w' => e = .returned (.tuple #[.agg #[.int .u64 r1, .int .u64 r2], .bool r3, .int .i64 r4]) ∧ Below w.heap.size w w' := by
 have hu38 := Tryz.underlying38
 have hu24 := Tryz.underlying24
 have HB := Aside0.mk (Below.refl w.heap.size w)
 have H : ((platbookref04_Cuts.f k a0_0 a0_1 a0_2 a0_3 a1).bind fun t562 => (if t562 = true then ((platbookref04_Count.f k (wrap64 (a1 - a0_3))).bind fun bt563 => (some (bt563.1, bt563.2.1, bt563.2.2, 0))) else (some (0, 0, false, 1)))) = some (r1, r2, r3, r4) := h
 clear h
 replace H := Option.bind_eq_some_iff.mp H
 obtain ⟨t562, A30, H⟩ := H
 replace H : (if t562 = true then ((platbookref04_Count.f k (wrap64 (a1 - a0_3))).bind fun bt563 => (some (bt563.1, bt563.2.1, bt563.2.2, 0))) else (some (0, 0, false, 1))) = some (r1, r2, r3, r4) := H
 have A3 := Aside0.mk A30
 clear A30
 by_cases c4 : t562 = true
 ·
  subst c4
  rw [if_pos rfl] at H
  replace H := Option.bind_eq_some_iff.mp H
  obtain ⟨⟨t563, t564, t565⟩, A50, H⟩ := H
  replace H : (some (t563, t564, t565, 0)) = some (r1, r2, r3, r4) := H
  have A5 := Aside0.mk A50
  clear A50
  simp only [Option.some.injEq, Prod.mk.injEq] at H
  obtain ⟨rfl, rfl, rfl, rfl⟩ := H
  go_enter Tryz.func48, Tryz.ntmps48
  go_wp2_with (first | ((with_reducible refine gate_dst (N := 2) rfl ?_); refine bx_ 2 #[.bool a0_0, .int .u64 a0_1, .int .u64 a0_2, .int .i64 a0_3] 38 ?_; intro gb560 hg w6 hbox hb; have BK560 := Aside0.mk (hbox); have GW560 := gw_ HB hg; have GE560 := gw_ HB hg; replace HB := bs_ HB hb; clear hb hbox hg) | ((with_reducible refine gate_dst (N := 4) rfl ?_); refine bx_ 4 #[.int .u64 0, .int .u64 0] 24 ?_; intro gb561 hg w7 hbox hb; have BK561 := Aside0.mk (hbox); have GW561 := gw_ HB hg; have GE561 := gw_ HB hg; have NB560_561 := nl_ BK560 hg; have NB561_560 := ng_ BK560 hg; replace BK560 := bb_ BK560 hb; replace HB := bs_ HB hb; clear hb hbox hg; have hnb8 := NB560_561.out; have hnc8 := NB561_560.out; obtain ⟨hcz9_0, hcz9_1, hcz9_2, hcz9_3, hfz9_0, hfz9_1, hfz9_2, hfz9_3⟩ := c4_ BK560) | ((with_reducible refine gate_callee (f := 55) rfl ?_); refine gl_ (some 11) Tryz.func55 #[.agg #[.bool a0_0, .int .u64 a0_1, .int .u64 a0_2, .int .i64 a0_3], .int .i64 a1] ?_; (with_reducible refine (platbookref04_Cuts.calls k a0_0 a0_1 a0_2 a0_3 a1 true _ A3.out).mono ?_); rintro e w10 ⟨rfl, hb⟩; refine ⟨_, rfl, ?_⟩; replace BK560 := bb_ BK560 hb; replace BK561 := bb_ BK561 hb; replace HB := bs_ HB hb; (try clear hb); (try clear hb2); (try clear hk); (try clear hi); obtain ⟨hcz11_0, hcz11_1, hcz11_2, hcz11_3, hfz11_0, hfz11_1, hfz11_2, hfz11_3⟩ := c4_ BK560) | ((with_reducible refine gate_callee (f := 91) rfl ?_); refine gl_ (some 19) Tryz.func91 #[.int .i64 (wrap64 (a1 - a0_3))] ?_; (with_reducible refine (platbookref04_Count.calls k (wrap64 (a1 - a0_3)) t563 t564 t565 _ A5.out).mono ?_); rintro e w12 ⟨rfl, hb⟩; refine ⟨_, rfl, ?_⟩; replace BK560 := bb_ BK560 hb; replace BK561 := bb_ BK561 hb; replace HB := bs_ HB hb; (try clear hb); (try clear hb2); (try clear hk); (try clear hi)) | ((with_reducible refine gate_dst (N := 7) rfl ?_); refine bx_ 7 #[.int .u64 0, .int .u64 0] 24 ?_; intro gb566 hg w13 hbox hb; have BK566 := Aside0.mk (hbox); have GW566 := gw_ HB hg; have GE566 := gw_ HB hg; have NB560_566 := nl_ BK560 hg; have NB566_560 := ng_ BK560 hg; have NB561_566 := nl_ BK561 hg; have NB566_561 := ng_ BK561 hg; replace BK560 := bb_ BK560 hb; replace BK561 := bb_ BK561 hb; replace HB := bs_ HB hb; clear hb hbox hg; have hnb14 := NB566_560.out; have hnc14 := NB560_566.out; have hnb15 := NB566_561.out; have hnc15 := NB561_566.out; obtain ⟨hcz16_0, hcz16_1, hfz16_0, hfz16_1⟩ := c2_ BK566; obtain ⟨hcz17_0, hcz17_1, hfz17_0, hfz17_1⟩ := c2_ BK561))
  refine bodyPost_ret (results_ctt rfl _ _ gb561 24 #[.int .u64 t563, .int .u64 t564] (0, 0) _ rfl (by refine pw_ ?_; refine blk_put (cs := #[.int .u64 t563, .int .u64 0]) ?_ 1 _ rfl; refine pw_ ?_; refine blk_put (cs := #[.int .u64 0, .int .u64 0]) ?_ 0 _ rfl; refine pw_ ?_; refine blk_far ?_ NB561_566.out _; refine pw_ ?_; refine blk_far ?_ NB561_566.out _; refine pw_ ?_; exact BK561.out) Tryz.underlying24 rfl (by kernel_rfl)) rfl ?_
  exact ⟨by first | rfl | (simp [errW_none, errW_some] <;> rfl) | (simp [*, errW_none, errW_some] <;> rfl), pb_ HB⟩
 ·
  replace c4 := Bool.eq_false_iff.mpr c4
  subst c4
  have H1 : (some (0, 0, false, 1)) = some (r1, r2, r3, r4) := by rw [if_neg (show ¬ (false = true) by decide)] at H; exact H
  clear H
  have H := H1
  clear H1
  simp only [Option.some.injEq, Prod.mk.injEq] at H
  obtain ⟨rfl, rfl, rfl, rfl⟩ := H
  go_enter Tryz.func48, Tryz.ntmps48
  go_wp2_with (first | ((with_reducible refine gate_dst (N := 2) rfl ?_); refine bx_ 2 #[.bool a0_0, .int .u64 a0_1, .int .u64 a0_2, .int .i64 a0_3] 38 ?_; intro gb560 hg w18 hbox hb; have BK560 := Aside0.mk (hbox); have GW560 := gw_ HB hg; have GE560 := gw_ HB hg; replace HB := bs_ HB hb; clear hb hbox hg) | ((with_reducible refine gate_dst (N := 4) rfl ?_); refine bx_ 4 #[.int .u64 0, .int .u64 0] 24 ?_; intro gb561 hg w19 hbox hb; have BK561 := Aside0.mk (hbox); have GW561 := gw_ HB hg; have GE561 := gw_ HB hg; have NB560_561 := nl_ BK560 hg; have NB561_560 := ng_ BK560 hg; replace BK560 := bb_ BK560 hb; replace HB := bs_ HB hb; clear hb hbox hg; have hnb20 := NB560_561.out; have hnc20 := NB561_560.out; obtain ⟨hcz21_0, hcz21_1, hcz21_2, hcz21_3, hfz21_0, hfz21_1, hfz21_2, hfz21_3⟩ := c4_ BK560) | ((with_reducible refine gate_callee (f := 55) rfl ?_); refine gl_ (some 11) Tryz.func55 #[.agg #[.bool a0_0, .int .u64 a0_1, .int .u64 a0_2, .int .i64 a0_3], .int .i64 a1] ?_; (with_reducible refine (platbookref04_Cuts.calls k a0_0 a0_1 a0_2 a0_3 a1 false _ A3.out).mono ?_); rintro e w22 ⟨rfl, hb⟩; refine ⟨_, rfl, ?_⟩; replace BK560 := bb_ BK560 hb; replace BK561 := bb_ BK561 hb; replace HB := bs_ HB hb; (try clear hb); (try clear hb2); (try clear hk); (try clear hi); obtain ⟨hcz23_0, hcz23_1, hfz23_0, hfz23_1⟩ := c2_ BK561))
  refine bodyPost_ret (results_ctt rfl _ _ gb561 24 #[.int .u64 0, .int .u64 0] (0, 0) _ rfl (by refine pw_ ?_; refine blk_put (cs := #[.int .u64 0, .int .u64 0]) ?_ 1 _ rfl; refine pw_ ?_; refine blk_put (cs := #[.int .u64 0, .int .u64 0]) ?_ 0 _ rfl; refine pw_ ?_; exact BK561.out) Tryz.underlying24 rfl (by kernel_rfl)) rfl ?_
  exact ⟨by first | rfl | (simp [errW_none, errW_some] <;> rfl) | (simp [*, errW_none, errW_some] <;> rfl), pb_ HB⟩

end Go.Proofs.YtgdgklibilddgaaGreatDoor.PPr

namespace Go.Proofs.YtgdgklibilddgaaGreatDoor.PPr
open Go.RowKit Go.Proofs.YtgdgklibilddgaaGreatDoorW.PrintWords Go.Proofs.YtgdgklibilddgaaGreatDoorW.PrintLast Go.Proofs.YtgdgklibilddgaaGreatDoorW.PrintMore
attribute [local go_sem] max2_int min2_int max_two min_two max_three min_three max_four min_four   -- for this text's walks alone

mutual
def platbookref04_Block.j0 : Nat → Int → Bool → Bool → Int → Int → Int → Int → Int → Option (Bool × Int × Int × Int × Int)
 | 0, _, _, _, _, _, _, _, _ => none
 | k + 1, x1, x32, x568000, x568001, x568002, x568003, x569000, x569001 => if x32 = true then (some (false, 0, 0, 0, 12)) else ((platbookref03_Row.f k x568000 x568001 x568002).bind fun t576 => ((platbookref01_Bits.f k x569000 x569001).bind fun t579 => (platbookref04_Block.l0 k x1 t576 t579 0 x568000 x568001 x568002 x568003)))
def platbookref04_Block.l0 : Nat → Int → List Int → List Int → Int → Bool → Int → Int → Int → Option (Bool × Int × Int × Int × Int)
 | 0, _, _, _, _, _, _, _, _ => none
 | k + 1, x1, x10, x11, x12, x568000, x568001, x568002, x568003 => if x12 < (wrap64 (x1 - x568003)) then (if 0 ≤ x12 then (if x12 < (x11.length : Int) then (if 0 ≤ (wrap64 ((wrap64 (x1 - 1)) - x12)) then (if (wrap64 ((wrap64 (x1 - 1)) - x12)) < (x10.length : Int) then (platbookref04_Block.l0 k x1 (x10.set ((wrap64 ((wrap64 (x1 - 1)) - x12)) : Int).toNat (rd x11 x12)) x11 (wrap64 (x12 + 1)) x568000 x568001 x568002 x568003) else (none)) else (none)) else (none)) else (none)) else ((platbookref03_Addr.f k x568000 x10).bind fun bt584 => (some (bt584.1, bt584.2.1, bt584.2.2, x1, 0)))
end
def platbookref04_Block.f (k : Nat) (a0_0 : Bool) (a0_1 : Int) (a0_2 : Int) (a0_3 : Int) (a1 : Int) (a2_0 : Int) (a2_1 : Int) : Option (Bool × Int × Int × Int × Int) := (platbookref04_Cuts.f k a0_0 a0_1 a0_2 a0_3 a1).bind fun t570 => (if t570 = true then ((platbookref04_Count.f k (wrap64 (a1 - a0_3))).bind fun bt571 => (if bt571.2.2 = true then ((platbookref01_Cmp.f a2_0 a2_1 bt571.1 bt571.2.1).bind fun t575 => (platbookref04_Block.j0 k a1 (decide (t575 ≥ 0)) a0_0 a0_1 a0_2 a0_3 a2_0 a2_1)) else (platbookref04_Block.j0 k a1 false a0_0 a0_1 a0_2 a0_3 a2_0 a2_1))) else (some (false, 0, 0, 0, 1)))
set_option maxHeartbeats 8000000 in
set_option maxRecDepth 100000 in
theorem platbookref04_Block.calls (k : Nat) (a0_0 : Bool) (a0_1 : Int) (a0_2 : Int) (a0_3 : Int) (a1 : Int) (a2_0 : Int) (a2_1 : Int) (r1 : Bool) (r2 : Int) (r3 : Int) (r4 : Int) (r5 : Int) (w : World) (h : platbookref04_Block.f k a0_0 a0_1 a0_2 a0_3 a1 a2_0 a2_1 = some (r1, r2, r3, r4, r5)) :
  Calls Tryz.prog 50 #[.agg #[.bool a0_0, .int .u64 a0_1, .int .u64 a0_2, .int .i64 a0_3], .int .i64 a1, .agg #[.int .u64 a2_0, .int .u64 a2_1]] w fun e w' => e = .returned (.tuple #[.agg #[.bool r1, .int .u64 r2, .int .u64 r3, .int .i64 r4], .int .i64 r5]) ∧ Below w.heap.size w w' := by
 have hu38 := Tryz.underlying38
 have hu24 := Tryz.underlying24
 have hu26 := Tryz.underlying26
 have HB := Aside0.mk (Below.refl w.heap.size w)
 have H : ((platbookref04_Cuts.f k a0_0 a0_1 a0_2 a0_3 a1).bind fun t570 => (if t570 = true then ((platbookref04_Count.f k (wrap64 (a1 - a0_3))).bind fun bt571 => (if bt571.2.2 = true then ((platbookref01_Cmp.f a2_0 a2_1 bt571.1 bt571.2.1).bind fun t575 => (platbookref04_Block.j0 k a1 (decide (t575 ≥ 0)) a0_0 a0_1 a0_2 a0_3 a2_0 a2_1)) else (platbookref04_Block.j0 k a1 false a0_0 a0_1 a0_2 a0_3 a2_0 a2_1))) else (some (false, 0, 0, 0, 1)))) = some (r1, r2, r3, r4, r5) := h
 clear h
 replace H := Option.bind_eq_some_iff.mp H
 obtain ⟨t570, A40, H⟩ := H
 replace H : (if t570 = true then ((platbookref04_Count.f k (wrap64 (a1 - a0_3))).bind fun bt571 => (if bt571.2.2 = true then ((platbookref01_Cmp.f a2_0 a2_1 bt571.1 bt571.2.1).bind fun t575 => (platbookref04_Block.j0 k a1 (decide (t575 ≥ 0)) a0_0 a0_1 a0_2 a0_3 a2_0 a2_1)) else (platbookref04_Block.j0 k a1 false a0_0 a0_1 a0_2 a0_3 a2_0 a2_1))) else (some (false, 0, 0, 0, 1))) = some (r1, r2, r3, r4, r5) := H
 have A4 := Aside0.mk A40
 clear A40
 by_cases c5 : t570 = true
 ·
  subst c5
  rw [if_pos rfl] at H
  replace H := Option.bind_eq_some_iff.mp H
  obtain ⟨⟨t571, t572, t573⟩, A60, H⟩ := H
  replace H : (if t573 = true then ((platbookref01_Cmp.f a2_0 a2_1 t571 t572).bind fun t575 => (platbookref04_Block.j0 k a1 (decide (t575 ≥ 0)) a0_0 a0_1 a0_2 a0_3 a2_0 a2_1)) else (platbookref04_Block.j0 k a1 false a0_0 a0_1 a0_2 a0_3 a2_0 a2_1)) = some (r1, r2, r3, r4, r5) := H
  have A6 := Aside0.mk A60
  clear A60
  have HC7 := Aside0.mk H
  clear H
  go_enter Tryz.func50, Tryz.ntmps50
  go_upto_region 4 with (first | ((with_reducible refine gate_dst (N := 3) rfl ?_); refine bx_ 3 #[.bool a0_0, .int .u64 a0_1, .int .u64 a0_2, .int .i64 a0_3] 38 ?_; intro gb567 hg w8 hbox hb; have BK567 := Aside0.mk (hbox); have GW567 := gw_ HB hg; have GE567 := gw_ HB hg; replace HB := bs_ HB hb; clear hb hbox hg) | ((with_reducible refine gate_dst (N := 5) rfl ?_); refine bx_ 5 #[.int .u64 a2_0, .int .u64 a2_1] 24 ?_; intro gb568 hg w9 hbox hb; have BK568 := Aside0.mk (hbox); have GW568 := gw_ HB hg; have GE568 := gw_ HB hg; have NB567_568 := nl_ BK567 hg; have NB568_567 := ng_ BK567 hg; replace BK567 := bb_ BK567 hb; replace HB := bs_ HB hb; clear hb hbox hg) | ((with_reducible refine gate_dst (N := 6) rfl ?_); refine bx_ 6 #[.bool false, .int .u64 0, .int .u64 0, .int .i64 0] 38 ?_; intro gb569 hg w10 hbox hb; have BK569 := Aside0.mk (hbox); have GW569 := gw_ HB hg; have GE569 := gw_ HB hg; have NB567_569 := nl_ BK567 hg; have NB569_567 := ng_ BK567 hg; have NB568_569 := nl_ BK568 hg; have NB569_568 := ng_ BK568 hg; replace BK567 := bb_ BK567 hb; replace BK568 := bb_ BK568 hb; replace HB := bs_ HB hb; clear hb hbox hg; have hnb11 := NB567_568.out; have hnc11 := NB568_567.out; have hnb12 := NB567_569.out; have hnc12 := NB569_567.out; obtain ⟨hcz13_0, hcz13_1, hcz13_2, hcz13_3, hfz13_0, hfz13_1, hfz13_2, hfz13_3⟩ := c4_ BK567) | ((with_reducible refine gate_callee (f := 55) rfl ?_); refine gl_ (some 15) Tryz.func55 #[.agg #[.bool a0_0, .int .u64 a0_1, .int .u64 a0_2, .int .i64 a0_3], .int .i64 a1] ?_; (with_reducible refine (platbookref04_Cuts.calls k a0_0 a0_1 a0_2 a0_3 a1 true _ A4.out).mono ?_); rintro e w14 ⟨rfl, hb⟩; refine ⟨_, rfl, ?_⟩; replace BK567 := bb_ BK567 hb; replace BK568 := bb_ BK568 hb; replace BK569 := bb_ BK569 hb; replace HB := bs_ HB hb; (try clear hb); (try clear hb2); (try clear hk); (try clear hi); obtain ⟨hcz15_0, hcz15_1, hcz15_2, hcz15_3, hfz15_0, hfz15_1, hfz15_2, hfz15_3⟩ := c4_ BK567) | ((with_reducible refine gate_callee (f := 91) rfl ?_); refine gl_ (some 23) Tryz.func91 #[.int .i64 (wrap64 (a1 - a0_3))] ?_; (with_reducible refine (platbookref04_Count.calls k (wrap64 (a1 - a0_3)) t571 t572 t573 _ A6.out).mono ?_); rintro e w16 ⟨rfl, hb⟩; refine ⟨_, rfl, ?_⟩; replace BK567 := bb_ BK567 hb; replace BK568 := bb_ BK568 hb; replace BK569 := bb_ BK569 hb; replace HB := bs_ HB hb; (try clear hb); (try clear hb2); (try clear hk); (try clear hi)) | ((with_reducible refine gate_dst (N := 8) rfl ?_); refine bx_ 8 #[.int .u64 0, .int .u64 0] 24 ?_; intro gb574 hg w17 hbox hb; have BK574 := Aside0.mk (hbox); have GW574 := gw_ HB hg; have GE574 := gw_ HB hg; have NB567_574 := nl_ BK567 hg; have NB574_567 := ng_ BK567 hg; have NB568_574 := nl_ BK568 hg; have NB574_568 := ng_ BK568 hg; have NB569_574 := nl_ BK569 hg; have NB574_569 := ng_ BK569 hg; replace BK567 := bb_ BK567 hb; replace BK568 := bb_ BK568 hb; replace BK569 := bb_ BK569 hb; replace HB := bs_ HB hb; clear hb hbox hg; have hnb18 := NB574_567.out; have hnc18 := NB567_574.out; have hnb19 := NB574_568.out; have hnc19 := NB568_574.out; have hnb20 := NB574_569.out; have hnc20 := NB569_574.out; obtain ⟨hcz21_0, hcz21_1, hfz21_0, hfz21_1⟩ := c2_ BK574))
  (try simp only [Act.put, List.setIfInBounds_toArray, List.set_cons_zero, List.set_cons_succ])
  go_cut [32] (fun v32 wc => ∃ (kq : Nat) (x32_6 : Bool), v32 = .bool x32_6 ∧ Aside0 (platbookref04_Block.j0 kq a1 x32_6 a0_0 a0_1 a0_2 a0_3 a2_0 a2_1 = some (r1, r2, r3, r4, r5)) ∧ Aside0 (kq ≤ k) ∧ Aside0 (wc.heap[gb567]? = some (.cells #[.bool a0_0, .int .u64 a0_1, .int .u64 a0_2, .int .i64 a0_3] 38 (0, 0))) ∧ Aside0 (wc.heap[gb568]? = some (.cells #[.int .u64 a2_0, .int .u64 a2_1] 24 (0, 0))) ∧ Aside0 (wc.heap[gb569]? = some (.cells #[.bool false, .int .u64 0, .int .u64 0, .int .i64 0] 38 (0, 0))) ∧ Aside0 (wc.heap[gb574]? = some (.cells #[.int .u64 t571, .int .u64 t572] 24 (0, 0))) ∧ Aside0 (Below w.heap.size w wc))
  case first =>
   have H := HC7.out
   clear HC7
   by_cases c22 : t573 = true
   ·
    subst c22
    rw [if_pos rfl] at H
    replace H := Option.bind_eq_some_iff.mp H
    obtain ⟨t575, A230, H⟩ := H
    replace H : (platbookref04_Block.j0 k a1 (decide (t575 ≥ 0)) a0_0 a0_1 a0_2 a0_3 a2_0 a2_1) = some (r1, r2, r3, r4, r5) := H
    have A23 := Aside0.mk A230
    clear A230
    have H' := Aside0.mk H
    clear H
    have hnb24 := NB568_567.out
    have hnc24 := NB567_568.out
    have hnb25 := NB568_569.out
    have hnc25 := NB569_568.out
    have hnb26 := NB568_574.out
    have hnc26 := NB574_568.out
    obtain ⟨hcz27_0, hcz27_1, hfz27_0, hfz27_1⟩ := c2_ BK568
    have hnb28 := NB574_567.out
    have hnc28 := NB567_574.out
    have hnb29 := NB574_569.out
    have hnc29 := NB569_574.out
    obtain ⟨hcz30_0, hcz30_1, hfz30_0, hfz30_1⟩ := c2_ BK574
    go_wp2_with (first | (go_at_call 71; (with_reducible refine (platbookref01_Cmp.calls a2_0 a2_1 t571 t572 t575 _ A23.out).mono ?_); rintro e w31 ⟨rfl, hb⟩; replace BK567 := Aside0.mk (blk_below (g := gb567) (o := .cells #[.bool a0_0, .int .u64 a0_1, .int .u64 a0_2, .int .i64 a0_3] 38 (0, 0)) (by refine pw_ ?_; refine blk_far ?_ NB567_574.out _; refine pw_ ?_; refine blk_far ?_ NB567_574.out _; refine pw_ ?_; exact BK567.out) hb); replace BK568 := Aside0.mk (blk_below (g := gb568) (o := .cells #[.int .u64 a2_0, .int .u64 a2_1] 24 (0, 0)) (by refine pw_ ?_; refine blk_far ?_ NB568_574.out _; refine pw_ ?_; refine blk_far ?_ NB568_574.out _; refine pw_ ?_; exact BK568.out) hb); replace BK569 := Aside0.mk (blk_below (g := gb569) (o := .cells #[.bool false, .int .u64 0, .int .u64 0, .int .i64 0] 38 (0, 0)) (by refine pw_ ?_; refine blk_far ?_ NB569_574.out _; refine pw_ ?_; refine blk_far ?_ NB569_574.out _; refine pw_ ?_; exact BK569.out) hb); replace BK574 := Aside0.mk (blk_below (g := gb574) (o := .cells #[.int .u64 t571, .int .u64 t572] 24 (0, 0)) (by refine pw_ ?_; refine blk_put (cs := #[.int .u64 t571, .int .u64 0]) ?_ 1 _ rfl; refine pw_ ?_; refine blk_put (cs := #[.int .u64 0, .int .u64 0]) ?_ 0 _ rfl; refine pw_ ?_; exact BK574.out) hb); replace HB := bs_ HB hb; (try clear hb); (try clear hb2); (try clear hk); (try clear hi)))
    go_meet
    case rel => exact ⟨_, (decide (t575 ≥ 0)), (by first | rfl | (simp; done) | (simp [*]; done)), H', ⟨by first | omega | exact Nat.le_refl _⟩, ⟨by refine pw_ ?_; exact BK567.out⟩, ⟨by refine pw_ ?_; exact BK568.out⟩, ⟨by refine pw_ ?_; exact BK569.out⟩, ⟨by refine pw_ ?_; exact BK574.out⟩, ⟨pb_ HB⟩⟩
   ·
    replace c22 := Bool.eq_false_iff.mpr c22
    subst c22
    have H1 : (platbookref04_Block.j0 k a1 false a0_0 a0_1 a0_2 a0_3 a2_0 a2_1) = some (r1, r2, r3, r4, r5) := by rw [if_neg (show ¬ (false = true) by decide)] at H; exact H
    clear H
    have H := H1
    clear H1
    have H' := Aside0.mk H
    clear H
    go_wp2
    go_meet
    case rel => exact ⟨_, (false), (by first | rfl | (simp; done) | (simp [*]; done)), H', ⟨by first | omega | exact Nat.le_refl _⟩, ⟨by refine pw_ ?_; refine blk_far ?_ NB567_574.out _; refine pw_ ?_; refine blk_far ?_ NB567_574.out _; refine pw_ ?_; exact BK567.out⟩, ⟨by refine pw_ ?_; refine blk_far ?_ NB568_574.out _; refine pw_ ?_; refine blk_far ?_ NB568_574.out _; refine pw_ ?_; exact BK568.out⟩, ⟨by refine pw_ ?_; refine blk_far ?_ NB569_574.out _; refine pw_ ?_; refine blk_far ?_ NB569_574.out _; refine pw_ ?_; exact BK569.out⟩, ⟨by refine pw_ ?_; refine blk_put (cs := #[.int .u64 t571, .int .u64 0]) ?_ 1 _ rfl; refine pw_ ?_; refine blk_put (cs := #[.int .u64 0, .int .u64 0]) ?_ 0 _ rfl; refine pw_ ?_; exact BK574.out⟩, ⟨pb_ HB⟩⟩
  case rest =>
   clear HC7
   try clear c1
   try clear c2
   try clear p2
   try clear c5
   try clear p6
   try clear c9
   try clear c11
   try clear c12
   try clear c18
   try clear c19
   try clear c20
   try clear c22
   try clear c24
   try clear c25
   try clear c26
   try clear c28
   try clear c29
   try clear hcz13_0
   try clear hcz13_1
   try clear hcz13_2
   try clear hcz13_3
   try clear hcz15_0
   try clear hcz15_1
   try clear hcz15_2
   try clear hcz15_3
   try clear hcz21_0
   try clear hcz21_1
   try clear hcz27_0
   try clear hcz27_1
   try clear hcz30_0
   try clear hcz30_1
   try clear hfz13_0
   try clear hfz13_1
   try clear hfz13_2
   try clear hfz13_3
   try clear hfz15_0
   try clear hfz15_1
   try clear hfz15_2
   try clear hfz15_3
   try clear hfz21_0
   try clear hfz21_1
   try clear hfz27_0
   try clear hfz27_1
   try clear hfz30_0
   try clear hfz30_1
   obtain ⟨kq, x32_6, rfl, HA, HJ6, BK567, BK568, BK569, BK574, HB⟩ := hcut
   cases kq with
   | zero => exact absurd HA.out (by simp [platbookref04_Block.j0])
   | succ kj6 =>
    have H := HA.out
    clear HA
    simp only [platbookref04_Block.j0] at H
    by_cases c32 : x32_6 = true
    ·
     subst c32
     rw [if_pos rfl] at H
     simp only [Option.some.injEq, Prod.mk.injEq] at H
     obtain ⟨rfl, rfl, rfl, rfl, rfl⟩ := H
     have hnb33 := NB569_567.out
     have hnc33 := NB567_569.out
     have hnb34 := NB569_568.out
     have hnc34 := NB568_569.out
     have hnb35 := NB569_574.out
     have hnc35 := NB574_569.out
     obtain ⟨hcz36_0, hcz36_1, hcz36_2, hcz36_3, hfz36_0, hfz36_1, hfz36_2, hfz36_3⟩ := c4_ BK569
     go_wp2
     refine bodyPost_ret (results_ct rfl _ _ gb569 38 #[.bool false, .int .u64 0, .int .u64 0, .int .i64 0] (0, 0) _ rfl (by refine pw_ ?_; refine blk_put (cs := #[.bool false, .int .u64 0, .int .u64 0, .int .i64 0]) ?_ 3 _ rfl; refine pw_ ?_; refine blk_put (cs := #[.bool false, .int .u64 0, .int .u64 0, .int .i64 0]) ?_ 2 _ rfl; refine pw_ ?_; refine blk_put (cs := #[.bool false, .int .u64 0, .int .u64 0, .int .i64 0]) ?_ 1 _ rfl; refine pw_ ?_; refine blk_put (cs := #[.bool false, .int .u64 0, .int .u64 0, .int .i64 0]) ?_ 0 _ rfl; refine pw_ ?_; exact BK569.out) Tryz.underlying38 rfl (by kernel_rfl)) rfl ?_
     exact ⟨by first | rfl | (simp [errW_none, errW_some] <;> rfl) | (simp [*, errW_none, errW_some] <;> rfl), pb_ HB⟩
    ·
     replace c32 := Bool.eq_false_iff.mpr c32
     subst c32
     have H1 : ((platbookref03_Row.f kj6 a0_0 a0_1 a0_2).bind fun t576 => ((platbookref01_Bits.f kj6 a2_0 a2_1).bind fun t579 => (platbookref04_Block.l0 kj6 a1 t576 t579 0 a0_0 a0_1 a0_2 a0_3))) = some (r1, r2, r3, r4, r5) := by rw [if_neg (show ¬ (false = true) by decide)] at H; exact H
     clear H
     have H := H1
     clear H1
     replace H := Option.bind_eq_some_iff.mp H
     obtain ⟨t576, A370, H⟩ := H
     replace H : ((platbookref01_Bits.f kj6 a2_0 a2_1).bind fun t579 => (platbookref04_Block.l0 kj6 a1 t576 t579 0 a0_0 a0_1 a0_2 a0_3)) = some (r1, r2, r3, r4, r5) := H
     have A37 := Aside0.mk A370
     clear A370
     replace H := Option.bind_eq_some_iff.mp H
     obtain ⟨t579, A380, H⟩ := H
     replace H : (platbookref04_Block.l0 kj6 a1 t576 t579 0 a0_0 a0_1 a0_2 a0_3) = some (r1, r2, r3, r4, r5) := H
     have A38 := Aside0.mk A380
     clear A380
     have H' := Aside0.mk H
     clear H
     have hnb39 := NB567_568.out
     have hnc39 := NB568_567.out
     have hnb40 := NB567_569.out
     have hnc40 := NB569_567.out
     have hnb41 := NB567_574.out
     have hnc41 := NB574_567.out
     obtain ⟨hcz42_0, hcz42_1, hcz42_2, hcz42_3, hfz42_0, hfz42_1, hfz42_2, hfz42_3⟩ := c4_ BK567
     go_wp2_with (first | ((with_reducible refine gate_callee (f := 83) rfl ?_); refine gl_ (some 36) Tryz.func83 #[.agg #[.bool a0_0, .int .u64 a0_1, .int .u64 a0_2]] ?_; (with_reducible refine (platbookref03_Row.calls kj6 a0_0 a0_1 a0_2 t576 _ A37.out).mono ?_); rintro e w43 ⟨v577, rfl, ho0, hb⟩; refine ⟨_, rfl, ?_⟩; have HO578 := Aside0.mk (Kd.R_lower ho0 (below_size (pb_ HB))); replace BK567 := bb_ BK567 hb; replace BK568 := bb_ BK568 hb; replace BK569 := bb_ BK569 hb; replace BK574 := bb_ BK574 hb; replace HB := bs_ HB hb; (try clear hb); (try clear hb2); (try clear hk); (try clear hi); (try clear ho0); have hnb44 := NB568_569.out; have hnc44 := NB569_568.out; have hnb45 := NB568_574.out; have hnc45 := NB574_568.out; obtain ⟨hcz46_0, hcz46_1, hfz46_0, hfz46_1⟩ := c2_ BK568) | ((with_reducible refine gate_callee (f := 92) rfl ?_); refine gl_ (some 38) Tryz.func92 #[.agg #[.int .u64 a2_0, .int .u64 a2_1]] ?_; (with_reducible refine (platbookref01_Bits.calls kj6 a2_0 a2_1 t579 _ A38.out).mono ?_); rintro e w47 ⟨v580, rfl, ho0, hb⟩; refine ⟨_, rfl, ?_⟩; have HO581 := Aside0.mk (Kd.R_lower (Kd.R_new' ho0 (Kd.R_lt (by (with_reducible repeat (first | apply Kd.R_alloc | apply Kd.R_drewN | apply Kd.R_drew)); exact HO578.out))) (below_size (pb_ HB))); replace HO578 := Aside0.mk (Kd.R_elder' (by (with_reducible repeat (first | apply Kd.R_alloc | apply Kd.R_drewN | apply Kd.R_drew)); exact HO578.out) (Kd.R_base ho0) hb); replace BK567 := bb_ BK567 hb; replace BK568 := bb_ BK568 hb; replace BK569 := bb_ BK569 hb; replace BK574 := bb_ BK574 hb; replace HB := bs_ HB hb; (try clear hb); (try clear hb2); (try clear hk); (try clear hi); (try clear ho0)))
     go_loopg [12] kj6 (fun kq v12 w' => ∃ (x10_2 : List Int) (x12_2 : Int), v12 = .int .i64 x12_2 ∧ Aside0 (platbookref04_Block.l0 kq a1 x10_2 t579 x12_2 a0_0 a0_1 a0_2 a0_3 = some (r1, r2, r3, r4, r5)) ∧ Aside0 (kq ≤ kj6) ∧ Aside0 (Kd.R (Kd.int .i64) 3 w' w.heap.size (fun k_ => some k_ ≠ (v580 : Value).ownBlock) v577 x10_2) ∧ Aside0 (Kd.R (Kd.int .i64) 3 w' w.heap.size (fun k_ => some k_ ≠ (v577 : Value).ownBlock) v580 t579) ∧ Aside0 (w'.heap[gb567]? = some (.cells #[.bool a0_0, .int .u64 a0_1, .int .u64 a0_2, .int .i64 a0_3] 38 (0, 0))) ∧ Aside0 (w'.heap[gb568]? = some (.cells #[.int .u64 a2_0, .int .u64 a2_1] 24 (0, 0))) ∧ Aside0 (w'.heap[gb569]? = some (.cells #[.bool false, .int .u64 0, .int .u64 0, .int .i64 0] 38 (0, 0))) ∧ Aside0 (w'.heap[gb574]? = some (.cells #[.int .u64 t571, .int .u64 t572] 24 (0, 0))) ∧ Aside0 (Below w.heap.size w w'))
     case atStart => exact ⟨(t576), (0), (by first | rfl | (simp; done) | (simp [*]; done)), H', ⟨Nat.le_refl _⟩, ⟨by (with_reducible repeat (first | apply Kd.R_alloc | apply Kd.R_drewN | apply Kd.R_drew)); exact Kd.R_mono HO578.out (fun _ hk => hk.2)⟩, ⟨by (with_reducible repeat (first | apply Kd.R_alloc | apply Kd.R_drewN | apply Kd.R_drew)); exact Kd.R_mono HO581.out (fun _ hk => hk.2)⟩, ⟨by refine pw_ ?_; exact BK567.out⟩, ⟨by refine pw_ ?_; exact BK568.out⟩, ⟨by refine pw_ ?_; exact BK569.out⟩, ⟨by refine pw_ ?_; exact BK574.out⟩, ⟨pb_ HB⟩⟩
     case round =>
      clear H'
      try clear c1
      try clear c2
      try clear p2
      try clear c3
      try clear c4
      try clear c5
      try clear p6
      try clear c8
      try clear c9
      try clear c11
      try clear c12
      try clear c18
      try clear c19
      try clear c20
      try clear c22
      try clear c24
      try clear c25
      try clear c26
      try clear c28
      try clear c29
      try clear c32
      try clear c33
      try clear c34
      try clear c35
      try clear c39
      try clear c40
      try clear c41
      try clear c44
      try clear c45
      try clear hcz13_0
      try clear hcz13_1
      try clear hcz13_2
      try clear hcz13_3
      try clear hcz15_0
      try clear hcz15_1
      try clear hcz15_2
      try clear hcz15_3
      try clear hcz21_0
      try clear hcz21_1
      try clear hcz27_0
      try clear hcz27_1
      try clear hcz30_0
      try clear hcz30_1
      try clear hcz36_0
      try clear hcz36_1
      try clear hcz36_2
      try clear hcz36_3
      try clear hcz42_0
      try clear hcz42_1
      try clear hcz42_2
      try clear hcz42_3
      try clear hcz46_0
      try clear hcz46_1
      try clear hfz13_0
      try clear hfz13_1
      try clear hfz13_2
      try clear hfz13_3
      try clear hfz15_0
      try clear hfz15_1
      try clear hfz15_2
      try clear hfz15_3
      try clear hfz21_0
      try clear hfz21_1
      try clear hfz27_0
      try clear hfz27_1
      try clear hfz30_0
      try clear hfz30_1
      try clear hfz36_0
      try clear hfz36_1
      try clear hfz36_2
      try clear hfz36_3
      try clear hfz42_0
      try clear hfz42_1
      try clear hfz42_2
      try clear hfz42_3
      try clear hfz46_0
      try clear hfz46_1
      try clear p2
      try clear p6
      obtain ⟨x10_2, x12_2, rfl, HA, HK2, HO_10, HO_11, BK567, BK568, BK569, BK574, HB⟩ := hrel
      cases gk with
      | zero => exact absurd HA.out (by simp [platbookref04_Block.l0])
      | succ k2 =>
       have H := HA.out
       clear HA
       simp only [platbookref04_Block.l0] at H
       by_cases c48 : x12_2 < (wrap64 (a1 - a0_3))
       ·
        rw [if_pos c48] at H
        have c48b0 : decide (x12_2 < (wrap64 (a1 - a0_3))) = true := decide_eq_true c48
        clear c48
        by_cases c49 : 0 ≤ x12_2
        ·
         rw [if_pos c49] at H
         have c49b0 : decide (0 ≤ x12_2) = true := decide_eq_true c49
         clear c49
         by_cases c50 : x12_2 < (t579.length : Int)
         ·
          rw [if_pos c50] at H
          have c50b0 : decide (x12_2 < (t579.length : Int)) = true := decide_eq_true c50
          clear c50
          obtain ⟨ji51, hji51⟩ : ∃ j_ : Int, (wrap64 ((wrap64 (a1 - 1)) - x12_2)) = j_ := ⟨_, rfl⟩
          replace H : (if 0 ≤ (ji51) then (if (ji51) < (x10_2.length : Int) then (platbookref04_Block.l0 k2 a1 (x10_2.set ((ji51) : Int).toNat (rd t579 x12_2)) t579 (wrap64 (x12_2 + 1)) a0_0 a0_1 a0_2 a0_3) else (none)) else (none)) = some (r1, r2, r3, r4, r5) := by first | (rw [hji51] at H; exact H) | (simp only [hji51] at H ⊢; exact H)
          have hji51w : (IntKind.i64.wrap ((wrap64 (a1 - 1)) - x12_2)) = ji51 := (i64_w _).trans hji51
          by_cases c52 : 0 ≤ (ji51)
          ·
           rw [if_pos c52] at H
           have c52b0 : decide (0 ≤ (ji51)) = true := decide_eq_true c52
           clear c52
           by_cases c53 : (ji51) < (x10_2.length : Int)
           ·
            rw [if_pos c53] at H
            have c53b0 : decide ((ji51) < (x10_2.length : Int)) = true := decide_eq_true c53
            clear c53
            obtain ⟨y583, hy583⟩ : ∃ y_ : List Int, y_ = (x10_2.set ((ji51) : Int).toNat (rd t579 x12_2)) := ⟨_, rfl⟩
            replace H : (platbookref04_Block.l0 k2 a1 y583 t579 (wrap64 (x12_2 + 1)) a0_0 a0_1 a0_2 a0_3) = some (r1, r2, r3, r4, r5) := by first | (rw [hy583]; with_reducible exact H) | (have H2_ := (Option.bind_some _ _).symm.trans H; rw [hy583]; with_reducible exact H2_) | (have H2_ := (Option.bind_some _ _).symm.trans H; with_reducible exact H2_) | with_reducible exact H | (rw [hy583]; exact H) | exact H
            have Ny583 := Aside0.mk hy583
            clear hy583
            have H' := Aside0.mk H
            clear H
            have hnb55 := NB567_568.out
            have hnc55 := NB568_567.out
            have hnb56 := NB567_569.out
            have hnc56 := NB569_567.out
            have hnb57 := NB567_574.out
            have hnc57 := NB574_567.out
            obtain ⟨hcz58_0, hcz58_1, hcz58_2, hcz58_3, hfz58_0, hfz58_1, hfz58_2, hfz58_3⟩ := c4_ BK567
            obtain ⟨Ao59, co59, eo59⟩ := Kd.R_slice HO_11.out
            subst eo59
            have p582 : 0 ≤ (x12_2 : Int) := of_decide_eq_true (by first | (with_reducible assumption) | assumption)
            have q582 : x12_2 < (t579.length : Int) := of_decide_eq_true (by first | (with_reducible assumption) | assumption)
            obtain ⟨ad582, e582, hx582_0⟩ := Kd.at_int (Kd.R_reads' HO_11.out).2.2 x12_2 p582 q582
            cases e582
            replace p582 := eq_true p582
            replace q582 := eq_true q582
            have p54 : 0 ≤ ((ji51) : Int) := of_decide_eq_true (by first | (with_reducible assumption) | assumption)
            have q54 : ((ji51) : Int) < ((x10_2.length : Int) : Int) := of_decide_eq_true (by first | (with_reducible assumption) | assumption)
            obtain ⟨go54, co54, eo54, gb54, gl54, cl54, HG54⟩ := Kd.R_form HO_10.out (by omega)
            (first | cases eo54 | (injection eo54 with ea_ en_ ec_; (first | subst ea_ | (injection ea_ with ea_; subst ea_)); subst ec_; clear en_))
            have GB54 := Aside0.mk gb54
            have GG54 := Aside0.mk HG54
            clear gb54 gl54 HG54
            obtain ⟨hx54_0, hf54_0⟩ := Kd.R_celln 0 HO_10.out ((ji51) : Int) p54 q54
            replace p54 := eq_true p54
            replace q54 := eq_true q54
            have HP60 := Kd.R_putg HO_10.out ((ji51) : Int) (rd t579 x12_2)
            go_wp2_with (first | ((with_reducible refine gate_store (t := 3) (p := 56) rfl ?_); refine store_event (t := 3) (p := 56) (v := ?vo_w61) (w1 := (wr.setCell ⟨go54, ((ji51) : Int).toNat, none⟩ (.int .i64 (rd t579 x12_2)))) ?hg ?ho ?hn ?hr ?_; (case ho => rfl); (case hg => rfl); (case hn => rfl); (case hr => first | (go_simp; done) | (go_simp; rfl)); intro w61 hw; have hg : wr.grownBy w61 (some go54) := (by rw [hw]; exact HP60.2); have hp_ : Kd.R (Kd.int .i64) 3 w61 w.heap.size (fun k_ => some k_ ≠ (.slice (some ad582) t579.length co59 : Value).ownBlock) (.slice (some ⟨go54, 0, none⟩) x10_2.length co54) y583 := (by rw [hw, Ny583.out]; exact HP60.1); clear HP60; have n0_ := Aside0.mk (hp_); have n1_ := Aside0.mk (Kd.R_after (v := (.slice (some ⟨go54, 0, none⟩) x10_2.length co54)) (v1 := (.slice (some ⟨go54, 0, none⟩) x10_2.length co54)) (ok := (fun _ => True)) (by (with_reducible repeat (first | apply Kd.R_alloc | apply Kd.R_drewN | apply Kd.R_drew)); exact Kd.R_mono HO_11.out (fun _ hk => ⟨trivial, hk⟩)) hg (.inl rfl)); have n2_ := Aside0.mk (blk_grown (g := gb567) (o := .cells #[.bool a0_0, .int .u64 a0_1, .int .u64 a0_2, .int .i64 a0_3] 38 (0, 0)) (pk_ BK567) hg (Kd.R_ne HO_10.out BK567.out (by decide))); have n3_ := Aside0.mk (blk_grown (g := gb568) (o := .cells #[.int .u64 a2_0, .int .u64 a2_1] 24 (0, 0)) (pk_ BK568) hg (Kd.R_ne HO_10.out BK568.out (by decide))); have n4_ := Aside0.mk (blk_grown (g := gb569) (o := .cells #[.bool false, .int .u64 0, .int .u64 0, .int .i64 0] 38 (0, 0)) (pk_ BK569) hg (Kd.R_ne HO_10.out BK569.out (by decide))); have n5_ := Aside0.mk (blk_grown (g := gb574) (o := .cells #[.int .u64 t571, .int .u64 t572] 24 (0, 0)) (pk_ BK574) hg (Kd.R_ne HO_10.out BK574.out (by decide))); have n6_ := Aside0.mk ((by rw [hw]; exact below_set (HB.out) GB54.out : Below w.heap.size w w61)); clear HO_10; clear HO_11; clear BK567; clear BK568; clear BK569; clear BK574; clear HB; have HO_10 := n0_; have HO_11 := n1_; have BK567 := n2_; have BK568 := n3_; have BK569 := n4_; have BK574 := n5_; have HB := n6_; clear n0_ n1_ n2_ n3_ n4_ n5_ n6_; clear hg hw hp_))
            go_roundg k2
            case measure => have := HJ6.out; have := HK2.out; omega
            case rel => exact ⟨(y583), (wrap64 (x12_2 + 1)), (by first | rfl | (simp; done) | (simp [*]; done)), H', ⟨by have := HJ6.out; have := HK2.out; omega⟩, ⟨by (with_reducible repeat (first | apply Kd.R_alloc | apply Kd.R_drewN | apply Kd.R_drew)); exact HO_10.out⟩, ⟨by (with_reducible repeat (first | apply Kd.R_alloc | apply Kd.R_drewN | apply Kd.R_drew)); exact Kd.R_mono HO_11.out (fun _ hk => hk.2)⟩, ⟨by refine pw_ ?_; exact BK567.out⟩, ⟨by refine pw_ ?_; exact BK568.out⟩, ⟨by refine pw_ ?_; exact BK569.out⟩, ⟨by refine pw_ ?_; exact BK574.out⟩, ⟨pb_ HB⟩⟩
           ·
            rw [if_neg c53] at H
            exact absurd H (by simp)
          ·
           rw [if_neg c52] at H
           exact absurd H (by simp)
         ·
          rw [if_neg c50] at H
          exact absurd H (by simp)
        ·
         rw [if_neg c49] at H
         exact absurd H (by simp)
       ·
        rw [if_neg c48] at H
        have c48b0 : decide (x12_2 < (wrap64 (a1 - a0_3))) = false := decide_eq_false c48
        clear c48
        replace H := Option.bind_eq_some_iff.mp H
        obtain ⟨⟨t584, t585, t586⟩, A620, H⟩ := H
        replace H : (some (t584, t585, t586, a1, 0)) = some (r1, r2, r3, r4, r5) := H
        have A62 := Aside0.mk A620
        clear A620
        simp only [Option.some.injEq, Prod.mk.injEq] at H
        obtain ⟨rfl, rfl, rfl, rfl, rfl⟩ := H
        have hnb63 := NB567_568.out
        have hnc63 := NB568_567.out
        have hnb64 := NB567_569.out
        have hnc64 := NB569_567.out
        have hnb65 := NB567_574.out
        have hnc65 := NB574_567.out
        obtain ⟨hcz66_0, hcz66_1, hcz66_2, hcz66_3, hfz66_0, hfz66_1, hfz66_2, hfz66_3⟩ := c4_ BK567
        obtain ⟨Ao67, co67, eo67⟩ := Kd.R_slice HO_10.out
        subst eo67
        go_wp2_with (first | ((with_reducible refine gate_callee (f := 93) rfl ?_); refine gl_ (some 61) Tryz.func93 #[.bool a0_0, .slice Ao67 x10_2.length co67] ?_; (with_reducible refine (platbookref03_Addr.calls k2 a0_0 _ _ x10_2 t584 t585 t586 _ ?side1 ?side2 A62.out).mono ?_); (case side1 => repeat (first | exact (Kd.R_reads' HO_10.out).2.2 | (with_reducible refine Kd.C_alloc ?_ _) | (with_reducible refine Kd.C_drewN ?_ _) | (with_reducible refine Kd.C_drew ?_))); (case side2 => exact (Kd.R_reads' HO_10.out).2.1); rintro e w68 ⟨rfl, hb⟩; refine ⟨_, rfl, ?_⟩; replace HO_10 := Aside0.mk (Kd.R_below (by (with_reducible repeat (first | apply Kd.R_alloc | apply Kd.R_drewN | apply Kd.R_drew)); exact HO_10.out) hb); replace HO_11 := Aside0.mk (Kd.R_below (by (with_reducible repeat (first | apply Kd.R_alloc | apply Kd.R_drewN | apply Kd.R_drew)); exact HO_11.out) hb); replace BK567 := bb_ BK567 hb; replace BK568 := bb_ BK568 hb; replace BK569 := bb_ BK569 hb; replace BK574 := bb_ BK574 hb; replace HB := bs_ HB hb; (try clear hb); (try clear hb2); (try clear hk); (try clear hi); have hnb69 := NB569_568.out; have hnc69 := NB568_569.out; have hnb70 := NB569_574.out; have hnc70 := NB574_569.out; obtain ⟨hcz71_0, hcz71_1, hcz71_2, hcz71_3, hfz71_0, hfz71_1, hfz71_2, hfz71_3⟩ := c4_ BK569))
        refine bodyPost_ret (results_ct rfl _ _ gb569 38 #[.bool t584, .int .u64 t585, .int .u64 t586, .int .i64 a1] (0, 0) _ rfl (by refine pw_ ?_; refine blk_put (cs := #[.bool t584, .int .u64 t585, .int .u64 t586, .int .i64 0]) ?_ 3 _ rfl; refine pw_ ?_; refine blk_put (cs := #[.bool t584, .int .u64 t585, .int .u64 0, .int .i64 0]) ?_ 2 _ rfl; refine pw_ ?_; refine blk_put (cs := #[.bool t584, .int .u64 0, .int .u64 0, .int .i64 0]) ?_ 1 _ rfl; refine pw_ ?_; refine blk_put (cs := #[.bool false, .int .u64 0, .int .u64 0, .int .i64 0]) ?_ 0 _ rfl; refine pw_ ?_; exact BK569.out) Tryz.underlying38 rfl (by kernel_rfl)) rfl ?_
        exact ⟨by first | rfl | (simp [errW_none, errW_some] <;> rfl) | (simp [*, errW_none, errW_some] <;> rfl), pb_ HB⟩
 ·
  replace c5 := Bool.eq_false_iff.mpr c5
  subst c5
  have H1 : (some (false, 0, 0, 0, 1)) = some (r1, r2, r3, r4, r5) := by rw [if_neg (show ¬ (false = true) by decide)] at H; exact H
  clear H
  have H := H1
  clear H1
  simp only [Option.some.injEq, Prod.mk.injEq] at H
  obtain ⟨rfl, rfl, rfl, rfl, rfl⟩ := H
  go_enter Tryz.func50, Tryz.ntmps50
  go_wp2_with (first | ((with_reducible refine gate_dst (N := 3) rfl ?_); refine bx_ 3 #[.bool a0_0, .int .u64 a0_1, .int .u64 a0_2, .int .i64 a0_3] 38 ?_; intro gb567 hg w72 hbox hb; have BK567 := Aside0.mk (hbox); have GW567 := gw_ HB hg; have GE567 := gw_ HB hg; replace HB := bs_ HB hb; clear hb hbox hg) | ((with_reducible refine gate_dst (N := 5) rfl ?_); refine bx_ 5 #[.int .u64 a2_0, .int .u64 a2_1] 24 ?_; intro gb568 hg w73 hbox hb; have BK568 := Aside0.mk (hbox); have GW568 := gw_ HB hg; have GE568 := gw_ HB hg; have NB567_568 := nl_ BK567 hg; have NB568_567 := ng_ BK567 hg; replace BK567 := bb_ BK567 hb; replace HB := bs_ HB hb; clear hb hbox hg) | ((with_reducible refine gate_dst (N := 6) rfl ?_); refine bx_ 6 #[.bool false, .int .u64 0, .int .u64 0, .int .i64 0] 38 ?_; intro gb569 hg w74 hbox hb; have BK569 := Aside0.mk (hbox); have GW569 := gw_ HB hg; have GE569 := gw_ HB hg; have NB567_569 := nl_ BK567 hg; have NB569_567 := ng_ BK567 hg; have NB568_569 := nl_ BK568 hg; have NB569_568 := ng_ BK568 hg; replace BK567 := bb_ BK567 hb; replace BK568 := bb_ BK568 hb; replace HB := bs_ HB hb; clear hb hbox hg; have hnb75 := NB567_568.out; have hnc75 := NB568_567.out; have hnb76 := NB567_569.out; have hnc76 := NB569_567.out; obtain ⟨hcz77_0, hcz77_1, hcz77_2, hcz77_3, hfz77_0, hfz77_1, hfz77_2, hfz77_3⟩ := c4_ BK567) | ((with_reducible refine gate_callee (f := 55) rfl ?_); refine gl_ (some 15) Tryz.func55 #[.agg #[.bool a0_0, .int .u64 a0_1, .int .u64 a0_2, .int .i64 a0_3], .int .i64 a1] ?_; (with_reducible refine (platbookref04_Cuts.calls k a0_0 a0_1 a0_2 a0_3 a1 false _ A4.out).mono ?_); rintro e w78 ⟨rfl, hb⟩; refine ⟨_, rfl, ?_⟩; replace BK567 := bb_ BK567 hb; replace BK568 := bb_ BK568 hb; replace BK569 := bb_ BK569 hb; replace HB := bs_ HB hb; (try clear hb); (try clear hb2); (try clear hk); (try clear hi); have hnb79 := NB569_568.out; have hnc79 := NB568_569.out; obtain ⟨hcz80_0, hcz80_1, hcz80_2, hcz80_3, hfz80_0, hfz80_1, hfz80_2, hfz80_3⟩ := c4_ BK569))
  refine bodyPost_ret (results_ct rfl _ _ gb569 38 #[.bool false, .int .u64 0, .int .u64 0, .int .i64 0] (0, 0) _ rfl (by refine pw_ ?_; refine blk_put (cs := #[.bool false, .int .u64 0, .int .u64 0, .int .i64 0]) ?_ 3 _ rfl; refine pw_ ?_; refine blk_put (cs := #[.bool false, .int .u64 0, .int .u64 0, .int .i64 0]) ?_ 2 _ rfl; refine pw_ ?_; refine blk_put (cs := #[.bool false, .int .u64 0, .int .u64 0, .int .i64 0]) ?_ 1 _ rfl; refine pw_ ?_; refine blk_put (cs := #[.bool false, .int .u64 0, .int .u64 0, .int .i64 0]) ?_ 0 _ rfl; refine pw_ ?_; exact BK569.out) Tryz.underlying38 rfl (by kernel_rfl)) rfl ?_
  exact ⟨by first | rfl | (simp [errW_none, errW_some] <;> rfl) | (simp [*, errW_none, errW_some] <;> rfl), pb_ HB⟩

def carve_Hosts.f (a0_0 : Bool) (a0_1 : Int) (a0_2 : Int) (a0_3 : Int) : Option (Int × Int × Bool × Int) := (addr_Width.f a0_0 a0_1 a0_2).bind fun t589 => ((carve_Blocks.f a0_0 a0_1 a0_2 a0_3 t589).bind fun bt590 => (some (bt590.1, bt590.2.1, bt590.2.2.1, bt590.2.2.2)))
def carve_Hosts.T1 : Bool × List (List Nat × List Nat) := (true, [([], []), ([], []), ([1], [1]), ([2], [2]), ([0, 3, 3], [0, 3]), ([4], [4]), ([4], [4]), ([4], [4]), ([5, 4, 0, 1, 2, 3, 4, 5, 6, 7], [5]), ([6, 8, 0, 1, 2, 3, 4, 5, 6, 7, 8], [6]), ([7, 9, 0, 1, 2, 3, 4, 5, 6, 7, 8, 9], [7])])
def carve_Hosts.B1 : List Nat := [0, 0, 2, 6, 15, 31, 31, 31, 255, 511, 1023]
theorem carve_Hosts.tab1 : rtab .any (opsOf Tryz.f51 1) = carve_Hosts.T1 := by kernel_rfl
theorem carve_Hosts.bits1 : waitsOk carve_Hosts.T1.2 carve_Hosts.B1 = true := by kernel_rfl
set_option maxHeartbeats 8000000 in
set_option maxRecDepth 100000 in
theorem carve_Hosts.calls (a0_0 : Bool) (a0_1 : Int) (a0_2 : Int) (a0_3 : Int) (r1 : Int) (r2 : Int) (r3 : Bool) (r4 : Int) (w : World) (h : carve_Hosts.f a0_0 a0_1 a0_2 a0_3 = some (r1, r2, r3, r4)) :
  Calls Tryz.prog 51 #[.agg #[.bool a0_0, .int .u64 a0_1, .int .u64 a0_2, .int .i64 a0_3]] w fun e w' => e = .returned (.tuple #[.agg #[.int .u64 r1, .int .u64 r2], .bool r3, .int .i64 r4]) ∧ Below w.heap.size w w' := by
 have hu38 := Tryz.underlying38
 have hu24 := Tryz.underlying24
 have hu26 := Tryz.underlying26
 have HB := Aside0.mk (Below.refl w.heap.size w)
 have H : ((addr_Width.f a0_0 a0_1 a0_2).bind fun t589 => ((carve_Blocks.f a0_0 a0_1 a0_2 a0_3 t589).bind fun bt590 => (some (bt590.1, bt590.2.1, bt590.2.2.1, bt590.2.2.2)))) = some (r1, r2, r3, r4) := h
 clear h
 replace H := Option.bind_eq_some_iff.mp H
 obtain ⟨t589, A20, H⟩ := H
 replace H : ((carve_Blocks.f a0_0 a0_1 a0_2 a0_3 t589).bind fun bt590 => (some (bt590.1, bt590.2.1, bt590.2.2.1, bt590.2.2.2))) = some (r1, r2, r3, r4) := H
 have A2 := Aside0.mk A20
 clear A20
 replace H := Option.bind_eq_some_iff.mp H
 obtain ⟨⟨t590, t591, t592, t593⟩, A30, H⟩ := H
 replace H : (some (t590, t591, t592, t593)) = some (r1, r2, r3, r4) := H
 have A3 := Aside0.mk A30
 clear A30
 simp only [Option.some.injEq, Prod.mk.injEq] at H
 obtain ⟨rfl, rfl, rfl, rfl⟩ := H
 go_enter Tryz.func51, Tryz.ntmps51
 try go_wp2_with (first | ((with_reducible refine gate_dst (N := 1) rfl ?_); refine bx_ 1 #[.bool a0_0, .int .u64 a0_1, .int .u64 a0_2, .int .i64 a0_3] 38 ?_; intro gb587 hg w4 hbox hb; have BK587 := Aside0.mk (hbox); have GW587 := gw_ HB hg; have GE587 := gw_ HB hg; replace HB := bs_ HB hb; clear hb hbox hg) | ((with_reducible refine gate_dst (N := 2) rfl ?_); refine bx_ 2 #[.int .u64 0, .int .u64 0] 24 ?_; intro gb588 hg w5 hbox hb; have BK588 := Aside0.mk (hbox); have GW588 := gw_ HB hg; have GE588 := gw_ HB hg; have NB587_588 := nl_ BK587 hg; have NB588_587 := ng_ BK587 hg; replace BK587 := bb_ BK587 hb; replace HB := bs_ HB hb; clear hb hbox hg))
 replace BK587 := Aside0.mk (blk_drew BK587.out)
 replace BK588 := Aside0.mk (blk_drew BK588.out)
 replace HB := Aside0.mk (below_drew1 HB.out)
 refine start_ (n := 11) (S := fun w' => w'.cell? ⟨gb587, 0, none⟩ = some (.bool a0_0) ∧ w'.cell? ⟨gb587, 1, none⟩ = some (.int .u64 a0_1) ∧ w'.cell? ⟨gb587, 2, none⟩ = some (.int .u64 a0_2) ∧ w'.cell? ⟨gb587, 3, none⟩ = some (.int .i64 a0_3)) (ds := []) (bm_ 11 0) (by kernel_rfl) rfl rfl ⟨kc_ BK587 0, kc_ BK587 1, kc_ BK587 2, kc_ BK587 3⟩ (fun hHeld => ?_); refine with_tabW carve_Hosts.tab1 carve_Hosts.bits1 (fun HT_ HW_ => ?_)
 generalize w5.drew = w6 at BK587 BK588 HB hHeld ⊢
 refine pu_ 1 (some 6) (bm_ 11 2) rfl HT_ ⟨by rfl, by intro w'; go_simp; with_reducible rfl⟩ ?_
 refine ta_ 0 (some 5) (bm_ 11 3) rfl HT_ HW_ ⟨by rfl, by rintro w' ⟨s0, s1, s2, s3⟩; go_simp; with_reducible rfl⟩ hHeld ?_
 refine ta_ 2 (some 7) (bm_ 11 7) rfl HT_ HW_ ⟨by rfl, by rintro w' ⟨s0, s1, s2, s3⟩; go_simp; with_reducible rfl⟩ hHeld ?_
 refine one_ (i := 3) (N := some 8) (bm_ 11 15) rfl rfl (one_of HT_.out (by kernel_rfl)) (by decide) (fun K hK => ?_)
 refine gr_ Tryz.func22 #[.agg #[.bool a0_0, .int .u64 a0_1, .int .u64 a0_2]] ?_
 with_reducible refine (addr_Width.calls a0_0 a0_1 a0_2 t589 _ A2.out).mono ?_
 rintro e w7 ⟨rfl, hb⟩
 refine ⟨_, rfl, ?_⟩
 replace BK587 := bb_ BK587 hb
 replace BK588 := bb_ BK588 hb
 replace HB := bs_ HB hb
 (try clear hb)
 (try clear hb2)
 (try clear hk)
 (try clear hi)
 refine hK.out _ _ ⟨kc_ BK587 0, kc_ BK587 1, kc_ BK587 2, kc_ BK587 3⟩ (fun hHeld => ?_)
 clear hK K
 refine norm_ (a' := ?_) ?_ ?_
 rotate_left
 ·
  show Act.put _ (some 8) _ = _
  simp only [Act.put, List.setIfInBounds_toArray, List.set_cons_zero, List.set_cons_succ, i64_w, i32_w]
  rfl
 refine one_ (i := 4) (N := some 9) (bm_ 11 31) rfl rfl (one_of HT_.out (by kernel_rfl)) (by decide) (fun K hK => ?_)
 refine gr_ Tryz.func47 #[.agg #[.bool a0_0, .int .u64 a0_1, .int .u64 a0_2, .int .i64 a0_3], .int .i64 t589] ?_
 with_reducible refine (carve_Blocks.calls a0_0 a0_1 a0_2 a0_3 t589 t590 t591 t592 t593 _ A3.out).mono ?_
 rintro e w8 ⟨rfl, hb⟩
 refine ⟨_, rfl, ?_⟩
 replace BK587 := bb_ BK587 hb
 replace BK588 := bb_ BK588 hb
 replace HB := bs_ HB hb
 (try clear hb)
 (try clear hb2)
 (try clear hk)
 (try clear hi)
 refine hK.out _ _ ⟨kc_ BK587 0, kc_ BK587 1, kc_ BK587 2, kc_ BK587 3⟩ (fun hHeld => ?_)
 clear hK K
 refine norm_ (a' := ?_) ?_ ?_
 rotate_left
 ·
  show Act.put _ (some 9) _ = _
  simp only [Act.put, List.setIfInBounds_toArray, List.set_cons_zero, List.set_cons_succ, i64_w, i32_w]
  rfl
 refine pu_ 5 (some 10) (bm_ 11 63) rfl HT_ ⟨by rfl, by intro w'; go_simp; with_reducible rfl⟩ ?_
 refine pu_ 6 (some 11) (bm_ 11 127) rfl HT_ ⟨by rfl, by intro w'; go_simp; with_reducible rfl⟩ ?_
 refine pu_ 7 (some 12) (bm_ 11 255) rfl HT_ ⟨by rfl, by intro w'; go_simp; with_reducible rfl⟩ ?_
 refine one_ (i := 8) (N := none) (bm_ 11 511) rfl rfl (one_of HT_.out (by kernel_rfl)) (by decide) (fun K hK => ?_)
 have hs9 : w8.cell? ⟨gb588, 0, none⟩ = some (.int .u64 0) := kc_ BK588 0
 have hfs9 := blk_frozen BK588.out 0
 have hns9_0 := NB587_588.out
 have hms9_0 := NB588_587.out
 have hs10 : w8.cell? ⟨gb588, 1, none⟩ = some (.int .u64 0) := kc_ BK588 1
 have hfs10 := blk_frozen BK588.out 1
 have hns10_0 := NB587_588.out
 have hms10_0 := NB588_587.out
 refine skip_ (w1 := ?_) (by rfl) rfl ?_ ?_
 rotate_left
 ·
  go_simp
  rfl
 refine hK.out _ _ ⟨((cell_far (p := ⟨gb588, _, none⟩) NB587_588.out _).trans (((cell_far (p := ⟨gb588, _, none⟩) NB587_588.out _).trans (hHeld.1)))), ((cell_far (p := ⟨gb588, _, none⟩) NB587_588.out _).trans (((cell_far (p := ⟨gb588, _, none⟩) NB587_588.out _).trans (hHeld.2.1)))), ((cell_far (p := ⟨gb588, _, none⟩) NB587_588.out _).trans (((cell_far (p := ⟨gb588, _, none⟩) NB587_588.out _).trans (hHeld.2.2.1)))), ((cell_far (p := ⟨gb588, _, none⟩) NB587_588.out _).trans (((cell_far (p := ⟨gb588, _, none⟩) NB587_588.out _).trans (hHeld.2.2.2))))⟩ (fun hHeld => ?_)
 clear hK K
 refine pu_ 9 (some 3) (bm_ 11 1023) rfl HT_ ⟨by rfl, by intro w'; go_simp; with_reducible rfl⟩ ?_
 refine pu_ 10 (some 4) (bm_ 11 2047) rfl HT_ ⟨by rfl, by intro w'; go_simp; with_reducible rfl⟩ ?_
 refine done_ (done_of HT_.out (by kernel_rfl)) ?_
 try go_wp2
 refine bodyPost_ret (results_ctt rfl _ _ gb588 24 #[.int .u64 t590, .int .u64 t591] (0, 0) _ rfl (by refine pw_ ?_; refine blk_put (cs := #[.int .u64 t590, .int .u64 0]) ?_ 1 _ rfl; refine pw_ ?_; refine blk_put (cs := #[.int .u64 0, .int .u64 0]) ?_ 0 _ rfl; refine pw_ ?_; exact BK588.out) Tryz.underlying24 rfl (by kernel_rfl)) rfl ?_
 exact ⟨by first | rfl | (simp [errW_none, errW_some] <;> rfl) | (simp [*, errW_none, errW_some] <;> rfl), pb_ HB⟩

end Go.Proofs.YtgdgklibilddgaaGreatDoor.PPr

namespace Go.Proofs.YtgdgklibilddgaaGreatDoor.PPr
open Go.RowKit Go.Proofs.YtgdgklibilddgaaGreatDoorW.PrintWords Go.Proofs.YtgdgklibilddgaaGreatDoorW.PrintLast Go.Proofs.YtgdgklibilddgaaGreatDoorW.PrintMore
attribute [local go_sem] max2_int min2_int max_two min_two max_three min_three max_four min_four   -- for this text's walks alone

def carve_Host.f (a0_0 : Bool) (a0_1 : Int) (a0_2 : Int) (a0_3 : Int) (a1_0 : Int) (a1_1 : Int) : Option (Bool × Int × Int × Int) := (addr_Width.f a0_0 a0_1 a0_2).bind fun t597 => ((carve_Block.f a0_0 a0_1 a0_2 a0_3 t597 a1_0 a1_1).bind fun bt598 => (some (bt598.1, bt598.2.1, bt598.2.2.1, bt598.2.2.2.2)))
def carve_Host.T1 : Bool × List (List Nat × List Nat) := (true, [([], []), ([], []), ([1], [1]), ([2], [2]), ([], []), ([0, 3, 4, 3], [0, 3, 4]), ([5], [5]), ([6], [6]), ([6], [6]), ([], []), ([9, 7, 5, 0, 1, 2, 3, 4, 5, 6, 7, 9], [7, 9]), ([8, 10, 0, 1, 2, 3, 4, 5, 6, 7, 8, 9, 10], [8])])
def carve_Host.B1 : List Nat := [0, 0, 2, 6, 0, 31, 63, 127, 127, 0, 767, 2047]
theorem carve_Host.tab1 : rtab .any (opsOf Tryz.f52 1) = carve_Host.T1 := by kernel_rfl
theorem carve_Host.bits1 : waitsOk carve_Host.T1.2 carve_Host.B1 = true := by kernel_rfl
set_option maxHeartbeats 8000000 in
set_option maxRecDepth 100000 in
theorem carve_Host.calls (a0_0 : Bool) (a0_1 : Int) (a0_2 : Int) (a0_3 : Int) (a1_0 : Int) (a1_1 : Int) (r1 : Bool) (r2 : Int) (r3 : Int) (r4 : Int) (w : World) (h : carve_Host.f a0_0 a0_1 a0_2 a0_3 a1_0 a1_1 = some (r1, r2, r3, r4)) :
  Calls Tryz.prog 52 #[.agg #[.bool a0_0, .int .u64 a0_1, .int .u64 a0_2, .int .i64 a0_3], .agg #[.int .u64 a1_0, .int .u64 a1_1]] w fun e w' => e = .returned (.tuple #[.agg #[.bool r1, .int .u64 r2, .int .u64 r3], .int .i64 r4]) ∧ Below w.heap.size w w' := by
 have hu38 := Tryz.underlying38
 have hu24 := Tryz.underlying24
 have hu26 := Tryz.underlying26
 have HB := Aside0.mk (Below.refl w.heap.size w)
 have H : ((addr_Width.f a0_0 a0_1 a0_2).bind fun t597 => ((carve_Block.f a0_0 a0_1 a0_2 a0_3 t597 a1_0 a1_1).bind fun bt598 => (some (bt598.1, bt598.2.1, bt598.2.2.1, bt598.2.2.2.2)))) = some (r1, r2, r3, r4) := h
 clear h
 replace H := Option.bind_eq_some_iff.mp H
 obtain ⟨t597, A30, H⟩ := H
 replace H : ((carve_Block.f a0_0 a0_1 a0_2 a0_3 t597 a1_0 a1_1).bind fun bt598 => (some (bt598.1, bt598.2.1, bt598.2.2.1, bt598.2.2.2.2))) = some (r1, r2, r3, r4) := H
 have A3 := Aside0.mk A30
 clear A30
 replace H := Option.bind_eq_some_iff.mp H
 obtain ⟨⟨t598, t599, t600, t601, t602⟩, A40, H⟩ := H
 replace H : (some (t598, t599, t600, t602)) = some (r1, r2, r3, r4) := H
 have A4 := Aside0.mk A40
 clear A40
 simp only [Option.some.injEq, Prod.mk.injEq] at H
 obtain ⟨rfl, rfl, rfl, rfl⟩ := H
 go_enter Tryz.func52, Tryz.ntmps52
 try go_wp2_with (first | ((with_reducible refine gate_dst (N := 2) rfl ?_); refine bx_ 2 #[.bool a0_0, .int .u64 a0_1, .int .u64 a0_2, .int .i64 a0_3] 38 ?_; intro gb594 hg w5 hbox hb; have BK594 := Aside0.mk (hbox); have GW594 := gw_ HB hg; have GE594 := gw_ HB hg; replace HB := bs_ HB hb; clear hb hbox hg) | ((with_reducible refine gate_dst (N := 3) rfl ?_); refine bx_ 3 #[.int .u64 a1_0, .int .u64 a1_1] 24 ?_; intro gb595 hg w6 hbox hb; have BK595 := Aside0.mk (hbox); have GW595 := gw_ HB hg; have GE595 := gw_ HB hg; have NB594_595 := nl_ BK594 hg; have NB595_594 := ng_ BK594 hg; replace BK594 := bb_ BK594 hb; replace HB := bs_ HB hb; clear hb hbox hg) | ((with_reducible refine gate_dst (N := 4) rfl ?_); refine bx_ 4 #[.bool false, .int .u64 0, .int .u64 0] 26 ?_; intro gb596 hg w7 hbox hb; have BK596 := Aside0.mk (hbox); have GW596 := gw_ HB hg; have GE596 := gw_ HB hg; have NB594_596 := nl_ BK594 hg; have NB596_594 := ng_ BK594 hg; have NB595_596 := nl_ BK595 hg; have NB596_595 := ng_ BK595 hg; replace BK594 := bb_ BK594 hb; replace BK595 := bb_ BK595 hb; replace HB := bs_ HB hb; clear hb hbox hg))
 replace BK594 := Aside0.mk (blk_drew BK594.out)
 replace BK595 := Aside0.mk (blk_drew BK595.out)
 replace BK596 := Aside0.mk (blk_drew BK596.out)
 replace HB := Aside0.mk (below_drew1 HB.out)
 refine start_ (n := 12) (S := fun w' => w'.cell? ⟨gb594, 0, none⟩ = some (.bool a0_0) ∧ w'.cell? ⟨gb594, 1, none⟩ = some (.int .u64 a0_1) ∧ w'.cell? ⟨gb594, 2, none⟩ = some (.int .u64 a0_2) ∧ w'.cell? ⟨gb594, 3, none⟩ = some (.int .i64 a0_3) ∧ w'.cell? ⟨gb595, 0, none⟩ = some (.int .u64 a1_0) ∧ w'.cell? ⟨gb595, 1, none⟩ = some (.int .u64 a1_1)) (ds := []) (bm_ 12 0) (by kernel_rfl) rfl rfl ⟨kc_ BK594 0, kc_ BK594 1, kc_ BK594 2, kc_ BK594 3, kc_ BK595 0, kc_ BK595 1⟩ (fun hHeld => ?_); refine with_tabW carve_Host.tab1 carve_Host.bits1 (fun HT_ HW_ => ?_)
 generalize w7.drew = w8 at BK594 BK595 BK596 HB hHeld ⊢
 refine pu_ 1 (some 10) (bm_ 12 2) rfl HT_ ⟨by rfl, by intro w'; go_simp; with_reducible rfl⟩ ?_
 refine ta_ 0 (some 9) (bm_ 12 3) rfl HT_ HW_ ⟨by rfl, by rintro w' ⟨s0, s1, s2, s3, s4, s5⟩; go_simp; with_reducible rfl⟩ hHeld ?_
 refine ta_ 2 (some 11) (bm_ 12 7) rfl HT_ HW_ ⟨by rfl, by rintro w' ⟨s0, s1, s2, s3, s4, s5⟩; go_simp; with_reducible rfl⟩ hHeld ?_
 refine ta_ 4 (some 13) (bm_ 12 23) rfl HT_ HW_ ⟨by rfl, by rintro w' ⟨s0, s1, s2, s3, s4, s5⟩; go_simp; with_reducible rfl⟩ hHeld ?_
 refine join_ (σ := Nat) 2 (bm_ 12 1023) (fun s_ => [(12, .int .i64 t597), (14, .tuple #[.agg #[.bool t598, .int .u64 t599, .int .u64 t600, .int .i64 t601], .int .i64 t602]), (6, .pointer (some ⟨s_, 0, none⟩)), (8, .tuple #[.agg #[.bool t598, .int .u64 t599, .int .u64 t600, .int .i64 t601], .int .i64 t602]), (15, .agg #[.bool t598, .int .u64 t599, .int .u64 t600, .int .i64 t601]), (16, .int .i64 t602)]) (fun s_ w' => (w'.cell? ⟨gb594, 0, none⟩ = some (.bool a0_0) ∧ w'.cell? ⟨gb594, 1, none⟩ = some (.int .u64 a0_1) ∧ w'.cell? ⟨gb594, 2, none⟩ = some (.int .u64 a0_2) ∧ w'.cell? ⟨gb594, 3, none⟩ = some (.int .i64 a0_3) ∧ w'.cell? ⟨gb595, 0, none⟩ = some (.int .u64 a1_0) ∧ w'.cell? ⟨gb595, 1, none⟩ = some (.int .u64 a1_1)) ∧ (w'.heap[gb594]? = some (.cells #[.bool a0_0, .int .u64 a0_1, .int .u64 a0_2, .int .i64 a0_3] 38 (0, 0))) ∧ (w'.heap[gb595]? = some (.cells #[.int .u64 a1_0, .int .u64 a1_1] 24 (0, 0))) ∧ (w'.heap[gb596]? = some (.cells #[.bool false, .int .u64 0, .int .u64 0] 26 (0, 0))) ∧ (w'.heap[s_]? = some (.cells #[.bool false, .int .u64 0, .int .u64 0, .int .i64 0] 38 (0, 0))) ∧ (w.heap.size ≤ s_) ∧ (w.heap.size ≤ s_) ∧ (gb594 ≠ s_) ∧ (s_ ≠ gb594) ∧ (gb595 ≠ s_) ∧ (s_ ≠ gb595) ∧ (gb596 ≠ s_) ∧ (s_ ≠ gb596) ∧ (Below w.heap.size w w')) ?_ ?_
 rotate_left
 ·
  intro hCont
  refine two_ (i := 3) (j := 9) (Ni := some 12) (Nj := some 6) (bm_ 12 31) (bm_ 12 535) rfl rfl rfl rfl (two_of HT_.out (by kernel_rfl)) (by decide) (by decide) (fun K hK => ?_) (fun K hK => ?_)
  ·
   skip
   refine gr_ Tryz.func22 #[.agg #[.bool a0_0, .int .u64 a0_1, .int .u64 a0_2]] ?_
   with_reducible refine (addr_Width.calls a0_0 a0_1 a0_2 t597 _ A3.out).mono ?_
   rintro e w9 ⟨rfl, hb⟩
   refine ⟨_, rfl, ?_⟩
   replace BK594 := bb_ BK594 hb
   replace BK595 := bb_ BK595 hb
   replace BK596 := bb_ BK596 hb
   replace HB := bs_ HB hb
   (try clear hb)
   (try clear hb2)
   (try clear hk)
   (try clear hi)
   refine hK.out _ _ ⟨kc_ BK594 0, kc_ BK594 1, kc_ BK594 2, kc_ BK594 3, kc_ BK595 0, kc_ BK595 1⟩ (fun hHeld => ?_)
   clear hK K
   refine norm_ (a' := ?_) ?_ ?_
   rotate_left
   ·
    show Act.put _ (some 12) _ = _
    simp only [Act.put, List.setIfInBounds_toArray, List.set_cons_zero, List.set_cons_succ, i64_w, i32_w]
    rfl
   refine two_ (i := 5) (j := 9) (Ni := some 14) (Nj := some 6) (bm_ 12 63) (bm_ 12 543) rfl rfl rfl rfl (two_of HT_.out (by kernel_rfl)) (by decide) (by decide) (fun K hK => ?_) (fun K hK => ?_)
   ·
    skip
    refine gr_ Tryz.func49 #[.agg #[.bool a0_0, .int .u64 a0_1, .int .u64 a0_2, .int .i64 a0_3], .int .i64 t597, .agg #[.int .u64 a1_0, .int .u64 a1_1]] ?_
    with_reducible refine (carve_Block.calls a0_0 a0_1 a0_2 a0_3 t597 a1_0 a1_1 t598 t599 t600 t601 t602 _ A4.out).mono ?_
    rintro e w10 ⟨rfl, hb⟩
    refine ⟨_, rfl, ?_⟩
    replace BK594 := bb_ BK594 hb
    replace BK595 := bb_ BK595 hb
    replace BK596 := bb_ BK596 hb
    replace HB := bs_ HB hb
    (try clear hb)
    (try clear hb2)
    (try clear hk)
    (try clear hi)
    refine hK.out _ _ ⟨kc_ BK594 0, kc_ BK594 1, kc_ BK594 2, kc_ BK594 3, kc_ BK595 0, kc_ BK595 1⟩ (fun hHeld => ?_)
    clear hK K
    refine norm_ (a' := ?_) ?_ ?_
    rotate_left
    ·
     show Act.put _ (some 14) _ = _
     simp only [Act.put, List.setIfInBounds_toArray, List.set_cons_zero, List.set_cons_succ, i64_w, i32_w]
     rfl
    refine pu_ 6 (some 8) (bm_ 12 127) rfl HT_ ⟨by rfl, by intro w'; go_simp; with_reducible rfl⟩ ?_
    refine pu_ 7 (some 15) (bm_ 12 255) rfl HT_ ⟨by rfl, by intro w'; go_simp; with_reducible rfl⟩ ?_
    refine pu_ 8 (some 16) (bm_ 12 511) rfl HT_ ⟨by rfl, by intro w'; go_simp; with_reducible rfl⟩ ?_
    refine one_ (i := 9) (N := some 6) (bm_ 12 1023) rfl rfl (one_of HT_.out (by kernel_rfl)) (by decide) (fun K hK => ?_)
    refine box_step ?hg (N := 6) ?hd (cs := #[.bool false, .int .u64 0, .int .u64 0, .int .i64 0]) (t := 38) ?hr ?_; (case hd => rfl); (case hg => rfl); (case hr => first | (go_simp; done) | (go_simp; rfl))
    intro gb603 hg w11 hbox hb
    have BK603 := Aside0.mk (hbox)
    have GW603 := gw_ HB hg
    have GE603 := gw_ HB hg
    have NB594_603 := nl_ BK594 hg
    have NB603_594 := ng_ BK594 hg
    have NB595_603 := nl_ BK595 hg
    have NB603_595 := ng_ BK595 hg
    have NB596_603 := nl_ BK596 hg
    have NB603_596 := ng_ BK596 hg
    replace BK594 := bb_ BK594 hb
    replace BK595 := bb_ BK595 hb
    replace BK596 := bb_ BK596 hb
    replace HB := bs_ HB hb
    clear hb hbox hg
    refine hK.out _ _ ⟨kc_ BK594 0, kc_ BK594 1, kc_ BK594 2, kc_ BK594 3, kc_ BK595 0, kc_ BK595 1⟩ (fun hHeld => ?_)
    clear hK K
    refine norm_ (a' := ?_) ?_ ?_
    rotate_left
    ·
     show Act.put _ (some 6) _ = _
     simp only [Act.put, List.setIfInBounds_toArray, List.set_cons_zero, List.set_cons_succ, i64_w, i32_w]
     rfl
    exact norm_ (by simp only [putAll, Act.put, List.setIfInBounds_toArray, List.set_cons_zero, List.set_cons_succ]) (hCont (gb603) _ ⟨hHeld, (pk_ BK594), (pk_ BK595), (pk_ BK596), (pk_ BK603), GW603.out, GE603.out, NB594_603.out, NB603_594.out, NB595_603.out, NB603_595.out, NB596_603.out, NB603_596.out, (pb_ HB)⟩)
   ·
    skip
    refine box_step ?hg (N := 6) ?hd (cs := #[.bool false, .int .u64 0, .int .u64 0, .int .i64 0]) (t := 38) ?hr ?_; (case hd => rfl); (case hg => rfl); (case hr => first | (go_simp; done) | (go_simp; rfl))
    intro gb603 hg w10 hbox hb
    have BK603 := Aside0.mk (hbox)
    have GW603 := gw_ HB hg
    have GE603 := gw_ HB hg
    have NB594_603 := nl_ BK594 hg
    have NB603_594 := ng_ BK594 hg
    have NB595_603 := nl_ BK595 hg
    have NB603_595 := ng_ BK595 hg
    have NB596_603 := nl_ BK596 hg
    have NB603_596 := ng_ BK596 hg
    replace BK594 := bb_ BK594 hb
    replace BK595 := bb_ BK595 hb
    replace BK596 := bb_ BK596 hb
    replace HB := bs_ HB hb
    clear hb hbox hg
    refine hK.out _ _ ⟨kc_ BK594 0, kc_ BK594 1, kc_ BK594 2, kc_ BK594 3, kc_ BK595 0, kc_ BK595 1⟩ (fun hHeld => ?_)
    clear hK K
    refine norm_ (a' := ?_) ?_ ?_
    rotate_left
    ·
     show Act.put _ (some 6) _ = _
     simp only [Act.put, List.setIfInBounds_toArray, List.set_cons_zero, List.set_cons_succ, i64_w, i32_w]
     rfl
    refine one_ (i := 5) (N := some 14) (bm_ 12 575) rfl rfl (one_of HT_.out (by kernel_rfl)) (by decide) (fun K hK => ?_)
    refine gr_ Tryz.func49 #[.agg #[.bool a0_0, .int .u64 a0_1, .int .u64 a0_2, .int .i64 a0_3], .int .i64 t597, .agg #[.int .u64 a1_0, .int .u64 a1_1]] ?_
    with_reducible refine (carve_Block.calls a0_0 a0_1 a0_2 a0_3 t597 a1_0 a1_1 t598 t599 t600 t601 t602 _ A4.out).mono ?_
    rintro e w11 ⟨rfl, hb⟩
    refine ⟨_, rfl, ?_⟩
    replace BK594 := bb_ BK594 hb
    replace BK595 := bb_ BK595 hb
    replace BK596 := bb_ BK596 hb
    replace BK603 := bb_ BK603 hb
    replace HB := bs_ HB hb
    (try clear hb)
    (try clear hb2)
    (try clear hk)
    (try clear hi)
    refine hK.out _ _ ⟨kc_ BK594 0, kc_ BK594 1, kc_ BK594 2, kc_ BK594 3, kc_ BK595 0, kc_ BK595 1⟩ (fun hHeld => ?_)
    clear hK K
    refine norm_ (a' := ?_) ?_ ?_
    rotate_left
    ·
     show Act.put _ (some 14) _ = _
     simp only [Act.put, List.setIfInBounds_toArray, List.set_cons_zero, List.set_cons_succ, i64_w, i32_w]
     rfl
    refine pu_ 6 (some 8) (bm_ 12 639) rfl HT_ ⟨by rfl, by intro w'; go_simp; with_reducible rfl⟩ ?_
    refine pu_ 7 (some 15) (bm_ 12 767) rfl HT_ ⟨by rfl, by intro w'; go_simp; with_reducible rfl⟩ ?_
    refine pu_ 8 (some 16) (bm_ 12 1023) rfl HT_ ⟨by rfl, by intro w'; go_simp; with_reducible rfl⟩ ?_
    exact norm_ (by simp only [putAll, Act.put, List.setIfInBounds_toArray, List.set_cons_zero, List.set_cons_succ]) (hCont (gb603) _ ⟨hHeld, (pk_ BK594), (pk_ BK595), (pk_ BK596), (pk_ BK603), GW603.out, GE603.out, NB594_603.out, NB603_594.out, NB595_603.out, NB603_595.out, NB596_603.out, NB603_596.out, (pb_ HB)⟩)
  ·
   skip
   refine box_step ?hg (N := 6) ?hd (cs := #[.bool false, .int .u64 0, .int .u64 0, .int .i64 0]) (t := 38) ?hr ?_; (case hd => rfl); (case hg => rfl); (case hr => first | (go_simp; done) | (go_simp; rfl))
   intro gb603 hg w9 hbox hb
   have BK603 := Aside0.mk (hbox)
   have GW603 := gw_ HB hg
   have GE603 := gw_ HB hg
   have NB594_603 := nl_ BK594 hg
   have NB603_594 := ng_ BK594 hg
   have NB595_603 := nl_ BK595 hg
   have NB603_595 := ng_ BK595 hg
   have NB596_603 := nl_ BK596 hg
   have NB603_596 := ng_ BK596 hg
   replace BK594 := bb_ BK594 hb
   replace BK595 := bb_ BK595 hb
   replace BK596 := bb_ BK596 hb
   replace HB := bs_ HB hb
   clear hb hbox hg
   refine hK.out _ _ ⟨kc_ BK594 0, kc_ BK594 1, kc_ BK594 2, kc_ BK594 3, kc_ BK595 0, kc_ BK595 1⟩ (fun hHeld => ?_)
   clear hK K
   refine norm_ (a' := ?_) ?_ ?_
   rotate_left
   ·
    show Act.put _ (some 6) _ = _
    simp only [Act.put, List.setIfInBounds_toArray, List.set_cons_zero, List.set_cons_succ, i64_w, i32_w]
    rfl
   refine one_ (i := 3) (N := some 12) (bm_ 12 543) rfl rfl (one_of HT_.out (by kernel_rfl)) (by decide) (fun K hK => ?_)
   refine gr_ Tryz.func22 #[.agg #[.bool a0_0, .int .u64 a0_1, .int .u64 a0_2]] ?_
   with_reducible refine (addr_Width.calls a0_0 a0_1 a0_2 t597 _ A3.out).mono ?_
   rintro e w10 ⟨rfl, hb⟩
   refine ⟨_, rfl, ?_⟩
   replace BK594 := bb_ BK594 hb
   replace BK595 := bb_ BK595 hb
   replace BK596 := bb_ BK596 hb
   replace BK603 := bb_ BK603 hb
   replace HB := bs_ HB hb
   (try clear hb)
   (try clear hb2)
   (try clear hk)
   (try clear hi)
   refine hK.out _ _ ⟨kc_ BK594 0, kc_ BK594 1, kc_ BK594 2, kc_ BK594 3, kc_ BK595 0, kc_ BK595 1⟩ (fun hHeld => ?_)
   clear hK K
   refine norm_ (a' := ?_) ?_ ?_
   rotate_left
   ·
    show Act.put _ (some 12) _ = _
    simp only [Act.put, List.setIfInBounds_toArray, List.set_cons_zero, List.set_cons_succ, i64_w, i32_w]
    rfl
   refine one_ (i := 5) (N := some 14) (bm_ 12 575) rfl rfl (one_of HT_.out (by kernel_rfl)) (by decide) (fun K hK => ?_)
   refine gr_ Tryz.func49 #[.agg #[.bool a0_0, .int .u64 a0_1, .int .u64 a0_2, .int .i64 a0_3], .int .i64 t597, .agg #[.int .u64 a1_0, .int .u64 a1_1]] ?_
   with_reducible refine (carve_Block.calls a0_0 a0_1 a0_2 a0_3 t597 a1_0 a1_1 t598 t599 t600 t601 t602 _ A4.out).mono ?_
   rintro e w11 ⟨rfl, hb⟩
   refine ⟨_, rfl, ?_⟩
   replace BK594 := bb_ BK594 hb
   replace BK595 := bb_ BK595 hb
   replace BK596 := bb_ BK596 hb
   replace BK603 := bb_ BK603 hb
   replace HB := bs_ HB hb
   (try clear hb)
   (try clear hb2)
   (try clear hk)
   (try clear hi)
   refine hK.out _ _ ⟨kc_ BK594 0, kc_ BK594 1, kc_ BK594 2, kc_ BK594 3, kc_ BK595 0, kc_ BK595 1⟩ (fun hHeld => ?_)
   clear hK K
   refine norm_ (a' := ?_) ?_ ?_
   rotate_left
   ·
    show Act.put _ (some 14) _ = _
    simp only [Act.put, List.setIfInBounds_toArray, List.set_cons_zero, List.set_cons_succ, i64_w, i32_w]
    rfl
   refine pu_ 6 (some 8) (bm_ 12 639) rfl HT_ ⟨by rfl, by intro w'; go_simp; with_reducible rfl⟩ ?_
   refine pu_ 7 (some 15) (bm_ 12 767) rfl HT_ ⟨by rfl, by intro w'; go_simp; with_reducible rfl⟩ ?_
   refine pu_ 8 (some 16) (bm_ 12 1023) rfl HT_ ⟨by rfl, by intro w'; go_simp; with_reducible rfl⟩ ?_
   exact norm_ (by simp only [putAll, Act.put, List.setIfInBounds_toArray, List.set_cons_zero, List.set_cons_succ]) (hCont (gb603) _ ⟨hHeld, (pk_ BK594), (pk_ BK595), (pk_ BK596), (pk_ BK603), GW603.out, GE603.out, NB594_603.out, NB603_594.out, NB595_603.out, NB603_595.out, NB596_603.out, NB603_596.out, (pb_ HB)⟩)
 rintro gb603 w12 ⟨hS_, h0_, h1_, h2_, h3_, h4_, h5_, h6_, h7_, h8_, h9_, h10_, h11_, h12_⟩
 have n0_ : Aside0 (w12.heap[gb594]? = some (.cells #[.bool a0_0, .int .u64 a0_1, .int .u64 a0_2, .int .i64 a0_3] 38 (0, 0))) := ⟨h0_⟩
 have n1_ : Aside0 (w12.heap[gb595]? = some (.cells #[.int .u64 a1_0, .int .u64 a1_1] 24 (0, 0))) := ⟨h1_⟩
 have n2_ : Aside0 (w12.heap[gb596]? = some (.cells #[.bool false, .int .u64 0, .int .u64 0] 26 (0, 0))) := ⟨h2_⟩
 have n3_ : Aside0 (w12.heap[gb603]? = some (.cells #[.bool false, .int .u64 0, .int .u64 0, .int .i64 0] 38 (0, 0))) := ⟨h3_⟩
 have n4_ : Aside0 (w.heap.size ≤ gb603) := ⟨h4_⟩
 have n5_ : Aside0 (w.heap.size ≤ gb603) := ⟨h5_⟩
 have n6_ : Aside0 (gb594 ≠ gb603) := ⟨h6_⟩
 have n7_ : Aside0 (gb603 ≠ gb594) := ⟨h7_⟩
 have n8_ : Aside0 (gb595 ≠ gb603) := ⟨h8_⟩
 have n9_ : Aside0 (gb603 ≠ gb595) := ⟨h9_⟩
 have n10_ : Aside0 (gb596 ≠ gb603) := ⟨h10_⟩
 have n11_ : Aside0 (gb603 ≠ gb596) := ⟨h11_⟩
 have n12_ : Aside0 (Below w.heap.size w w12) := ⟨h12_⟩
 clear BK594
 clear BK595
 clear BK596
 clear HB
 clear h0_ h1_ h2_ h3_ h4_ h5_ h6_ h7_ h8_ h9_ h10_ h11_ h12_
 have BK594 := n0_
 have BK595 := n1_
 have BK596 := n2_
 have BK603 := n3_
 have GW603 := n4_
 have GE603 := n5_
 have NB594_603 := n6_
 have NB603_594 := n7_
 have NB595_603 := n8_
 have NB603_595 := n9_
 have NB596_603 := n10_
 have NB603_596 := n11_
 have HB := n12_
 clear n0_ n1_ n2_ n3_ n4_ n5_ n6_ n7_ n8_ n9_ n10_ n11_ n12_
 have hHeld : w12.cell? ⟨gb594, 0, none⟩ = some (.bool a0_0) ∧ w12.cell? ⟨gb594, 1, none⟩ = some (.int .u64 a0_1) ∧ w12.cell? ⟨gb594, 2, none⟩ = some (.int .u64 a0_2) ∧ w12.cell? ⟨gb594, 3, none⟩ = some (.int .i64 a0_3) ∧ w12.cell? ⟨gb595, 0, none⟩ = some (.int .u64 a1_0) ∧ w12.cell? ⟨gb595, 1, none⟩ = some (.int .u64 a1_1) := hS_
 refine norm_ (a' := ?_) ?_ ?_
 rotate_left
 ·
  simp only [putAll, Act.put, List.setIfInBounds_toArray, List.set_cons_zero, List.set_cons_succ]
  rfl
 refine one_ (i := 10) (N := none) (bm_ 12 2047) rfl rfl (one_of HT_.out (by kernel_rfl)) (by decide) (fun K hK => ?_)
 have hs13 : w12.cell? ⟨gb603, 0, none⟩ = some (.bool false) := kc_ BK603 0
 have hfs13 := blk_frozen BK603.out 0
 have hns13_0 := NB594_603.out
 have hns13_1 := NB595_603.out
 have hns13_2 := NB596_603.out
 have hms13_0 := NB603_594.out
 have hms13_1 := NB603_595.out
 have hms13_2 := NB603_596.out
 have hs14 : w12.cell? ⟨gb603, 1, none⟩ = some (.int .u64 0) := kc_ BK603 1
 have hfs14 := blk_frozen BK603.out 1
 have hns14_0 := NB594_603.out
 have hns14_1 := NB595_603.out
 have hns14_2 := NB596_603.out
 have hms14_0 := NB603_594.out
 have hms14_1 := NB603_595.out
 have hms14_2 := NB603_596.out
 have hs15 : w12.cell? ⟨gb603, 2, none⟩ = some (.int .u64 0) := kc_ BK603 2
 have hfs15 := blk_frozen BK603.out 2
 have hns15_0 := NB594_603.out
 have hns15_1 := NB595_603.out
 have hns15_2 := NB596_603.out
 have hms15_0 := NB603_594.out
 have hms15_1 := NB603_595.out
 have hms15_2 := NB603_596.out
 have hs16 : w12.cell? ⟨gb603, 3, none⟩ = some (.int .i64 0) := kc_ BK603 3
 have hfs16 := blk_frozen BK603.out 3
 have hns16_0 := NB594_603.out
 have hns16_1 := NB595_603.out
 have hns16_2 := NB596_603.out
 have hms16_0 := NB603_594.out
 have hms16_1 := NB603_595.out
 have hms16_2 := NB603_596.out
 refine skip_ (w1 := ?_) (by rfl) rfl ?_ ?_
 rotate_left
 ·
  go_simp
  rfl
 refine hK.out _ _ ⟨((cell_far (p := ⟨gb603, _, none⟩) NB594_603.out _).trans (((cell_far (p := ⟨gb603, _, none⟩) NB594_603.out _).trans (((cell_far (p := ⟨gb603, _, none⟩) NB594_603.out _).trans (((cell_far (p := ⟨gb603, _, none⟩) NB594_603.out _).trans (hHeld.1)))))))), ((cell_far (p := ⟨gb603, _, none⟩) NB594_603.out _).trans (((cell_far (p := ⟨gb603, _, none⟩) NB594_603.out _).trans (((cell_far (p := ⟨gb603, _, none⟩) NB594_603.out _).trans (((cell_far (p := ⟨gb603, _, none⟩) NB594_603.out _).trans (hHeld.2.1)))))))), ((cell_far (p := ⟨gb603, _, none⟩) NB594_603.out _).trans (((cell_far (p := ⟨gb603, _, none⟩) NB594_603.out _).trans (((cell_far (p := ⟨gb603, _, none⟩) NB594_603.out _).trans (((cell_far (p := ⟨gb603, _, none⟩) NB594_603.out _).trans (hHeld.2.2.1)))))))), ((cell_far (p := ⟨gb603, _, none⟩) NB594_603.out _).trans (((cell_far (p := ⟨gb603, _, none⟩) NB594_603.out _).trans (((cell_far (p := ⟨gb603, _, none⟩) NB594_603.out _).trans (((cell_far (p := ⟨gb603, _, none⟩) NB594_603.out _).trans (hHeld.2.2.2.1)))))))), ((cell_far (p := ⟨gb603, _, none⟩) NB595_603.out _).trans (((cell_far (p := ⟨gb603, _, none⟩) NB595_603.out _).trans (((cell_far (p := ⟨gb603, _, none⟩) NB595_603.out _).trans (((cell_far (p := ⟨gb603, _, none⟩) NB595_603.out _).trans (hHeld.2.2.2.2.1)))))))), ((cell_far (p := ⟨gb603, _, none⟩) NB595_603.out _).trans (((cell_far (p := ⟨gb603, _, none⟩) NB595_603.out _).trans (((cell_far (p := ⟨gb603, _, none⟩) NB595_603.out _).trans (((cell_far (p := ⟨gb603, _, none⟩) NB595_603.out _).trans (hHeld.2.2.2.2.2))))))))⟩ (fun hHeld => ?_)
 clear hK K
 refine pu_ 11 (some 7) (bm_ 12 4095) rfl HT_ ⟨by rfl, by intro w'; go_simp; with_reducible rfl⟩ ?_
 refine done_ (done_of HT_.out (by kernel_rfl)) ?_
 have hnb17 := NB603_594.out
 have hnc17 := NB594_603.out
 have hnb18 := NB603_595.out
 have hnc18 := NB595_603.out
 have hnb19 := NB603_596.out
 have hnc19 := NB596_603.out
 obtain ⟨hcz20_0, hcz20_1, hcz20_2, hcz20_3, hfz20_0, hfz20_1, hfz20_2, hfz20_3⟩ := c4_ BK603
 have hnb21 := NB596_594.out
 have hnc21 := NB594_596.out
 have hnb22 := NB596_595.out
 have hnc22 := NB595_596.out
 obtain ⟨hcz23_0, hcz23_1, hcz23_2, hfz23_0, hfz23_1, hfz23_2⟩ := c3_ BK596
 try go_wp2
 refine bodyPost_ret (results_ct rfl _ _ gb596 26 #[.bool t598, .int .u64 t599, .int .u64 t600] (0, 0) _ rfl (by refine pw_ ?_; refine blk_put (cs := #[.bool t598, .int .u64 t599, .int .u64 0]) ?_ 2 _ rfl; refine pw_ ?_; refine blk_put (cs := #[.bool t598, .int .u64 0, .int .u64 0]) ?_ 1 _ rfl; refine pw_ ?_; refine blk_put (cs := #[.bool false, .int .u64 0, .int .u64 0]) ?_ 0 _ rfl; refine pw_ ?_; refine blk_far ?_ NB596_603.out _; refine pw_ ?_; refine blk_far ?_ NB596_603.out _; refine pw_ ?_; refine blk_far ?_ NB596_603.out _; refine pw_ ?_; refine blk_far ?_ NB596_603.out _; refine pw_ ?_; exact BK596.out) Tryz.underlying26 rfl (by kernel_rfl)) rfl ?_
 exact ⟨by first | rfl | (simp [errW_none, errW_some] <;> rfl) | (simp [*, errW_none, errW_some] <;> rfl), pb_ HB⟩

end Go.Proofs.YtgdgklibilddgaaGreatDoor.PPr

namespace Go.Proofs.YtgdgklibilddgaaGreatDoor.PPr
open Go.RowKit Go.Proofs.YtgdgklibilddgaaGreatDoorW.PrintWords Go.Proofs.YtgdgklibilddgaaGreatDoorW.PrintLast Go.Proofs.YtgdgklibilddgaaGreatDoorW.PrintMore
attribute [local go_sem] max2_int min2_int max_two min_two max_three min_three max_four min_four   -- for this text's walks alone

attribute [local go_sem high] eqA24 eqA26 eqA38
def platbooklaw04_CarveBlocks.j0 : Nat → Bool → Bool → Int → Int → Int → Int → Int → Option (Bool)
 | 0, _, _, _, _, _, _, _ => none
 | k + 1, x80, x605000, x605001, x605002, x605003, x606000, x606001 => if x80 = true then (some false) else ((carve_Hosts.f x605000 x605001 x605002 x605003).bind fun bt629 => ((carve_Host.f x605000 x605001 x605002 x605003 x606000 x606001).bind fun bt634 => ((addr_Width.f x605000 x605001 x605002).bind fun t639 => ((platbookref04_Blocks.f k x605000 x605001 x605002 x605003 t639).bind fun bt640 => ((platbookref04_Block.f k x605000 x605001 x605002 x605003 t639 x606000 x606001).bind fun bt645 => (if (bt629.1 == bt640.1 && (bt629.2.1 == bt640.2.1)) = true then (if (bt629.2.2.1 == bt640.2.2.1) = true then (if bt629.2.2.2 = bt640.2.2.2 then (if (bt634.1 == bt645.1 && ((bt634.2.1 == bt645.2.1 && (bt634.2.2.1 == bt645.2.2.1)))) = true then (some (bt634.2.2.2 == bt645.2.2.2.2)) else (some false)) else (some false)) else (some false)) else (some false)))))))
def platbooklaw04_CarveBlocks.f (k : Nat) (a0_0 : Bool) (a0_1 : Int) (a0_2 : Int) (a0_3 : Int) (a1 : Int) (a2_0 : Int) (a2_1 : Int) : Option (Bool) := (platbooklaw04_awake.f k).bind fun t606 => (if t606 = true then ((carve_Blocks.f a0_0 a0_1 a0_2 a0_3 a1).bind fun bt607 => ((platbookref04_Blocks.f k a0_0 a0_1 a0_2 a0_3 a1).bind fun bt612 => ((carve_Block.f a0_0 a0_1 a0_2 a0_3 a1 a2_0 a2_1).bind fun bt617 => ((platbookref04_Block.f k a0_0 a0_1 a0_2 a0_3 a1 a2_0 a2_1).bind fun bt623 => (if (!(bt607.1 == bt612.1) || (!(bt607.2.1 == bt612.2.1))) = true then (platbooklaw04_CarveBlocks.j0 k true a0_0 a0_1 a0_2 a0_3 a2_0 a2_1) else (if (bt607.2.2.1 != bt612.2.2.1) = true then (platbooklaw04_CarveBlocks.j0 k true a0_0 a0_1 a0_2 a0_3 a2_0 a2_1) else (if bt607.2.2.2 = bt612.2.2.2 then (if ((!(bt617.1 == bt623.1) || ((!(bt617.2.1 == bt623.2.1) || (!(bt617.2.2.1 == bt623.2.2.1))))) || (!(bt617.2.2.2.1 == bt623.2.2.2.1))) = true then (platbooklaw04_CarveBlocks.j0 k true a0_0 a0_1 a0_2 a0_3 a2_0 a2_1) else (platbooklaw04_CarveBlocks.j0 k (bt617.2.2.2.2 != bt623.2.2.2.2) a0_0 a0_1 a0_2 a0_3 a2_0 a2_1)) else (platbooklaw04_CarveBlocks.j0 k true a0_0 a0_1 a0_2 a0_3 a2_0 a2_1)))))))) else (some false))
set_option maxHeartbeats 8000000 in
set_option maxRecDepth 100000 in
theorem platbooklaw04_CarveBlocks.calls (k : Nat) (a0_0 : Bool) (a0_1 : Int) (a0_2 : Int) (a0_3 : Int) (a1 : Int) (a2_0 : Int) (a2_1 : Int) (r : Bool) (w : World) (hG : Glob w) (hrt : r = true) (h : platbooklaw04_CarveBlocks.f k a0_0 a0_1 a0_2 a0_3 a1 a2_0 a2_1 = some r) :
  Calls Tryz.prog 8 #[.agg #[.bool a0_0, .int .u64 a0_1, .int .u64 a0_2, .int .i64 a0_3], .int .i64 a1, .agg #[.int .u64 a2_0, .int .u64 a2_1]] w fun e w' => e = .returned (.bool r) ∧ Below w.heap.size w w' := by
 have hu38 := Tryz.underlying38
 have hu24 := Tryz.underlying24
 have hu26 := Tryz.underlying26
 have HGLB := Aside0.mk hG
 clear hG
 have HRT := Aside0.mk hrt
 clear hrt
 have HB := Aside0.mk (Below.refl w.heap.size w)
 have H : ((platbooklaw04_awake.f k).bind fun t606 => (if t606 = true then ((carve_Blocks.f a0_0 a0_1 a0_2 a0_3 a1).bind fun bt607 => ((platbookref04_Blocks.f k a0_0 a0_1 a0_2 a0_3 a1).bind fun bt612 => ((carve_Block.f a0_0 a0_1 a0_2 a0_3 a1 a2_0 a2_1).bind fun bt617 => ((platbookref04_Block.f k a0_0 a0_1 a0_2 a0_3 a1 a2_0 a2_1).bind fun bt623 => (if (!(bt607.1 == bt612.1) || (!(bt607.2.1 == bt612.2.1))) = true then (platbooklaw04_CarveBlocks.j0 k true a0_0 a0_1 a0_2 a0_3 a2_0 a2_1) else (if (bt607.2.2.1 != bt612.2.2.1) = true then (platbooklaw04_CarveBlocks.j0 k true a0_0 a0_1 a0_2 a0_3 a2_0 a2_1) else (if bt607.2.2.2 = bt612.2.2.2 then (if ((!(bt617.1 == bt623.1) || ((!(bt617.2.1 == bt623.2.1) || (!(bt617.2.2.1 == bt623.2.2.1))))) || (!(bt617.2.2.2.1 == bt623.2.2.2.1))) = true then (platbooklaw04_CarveBlocks.j0 k true a0_0 a0_1 a0_2 a0_3 a2_0 a2_1) else (platbooklaw04_CarveBlocks.j0 k (bt617.2.2.2.2 != bt623.2.2.2.2) a0_0 a0_1 a0_2 a0_3 a2_0 a2_1)) else (platbooklaw04_CarveBlocks.j0 k true a0_0 a0_1 a0_2 a0_3 a2_0 a2_1)))))))) else (some false))) = some r := h
 clear h
 replace H := Option.bind_eq_some_iff.mp H
 obtain ⟨t606, A40, H⟩ := H
 replace H : (if t606 = true then ((carve_Blocks.f a0_0 a0_1 a0_2 a0_3 a1).bind fun bt607 => ((platbookref04_Blocks.f k a0_0 a0_1 a0_2 a0_3 a1).bind fun bt612 => ((carve_Block.f a0_0 a0_1 a0_2 a0_3 a1 a2_0 a2_1).bind fun bt617 => ((platbookref04_Block.f k a0_0 a0_1 a0_2 a0_3 a1 a2_0 a2_1).bind fun bt623 => (if (!(bt607.1 == bt612.1) || (!(bt607.2.1 == bt612.2.1))) = true then (platbooklaw04_CarveBlocks.j0 k true a0_0 a0_1 a0_2 a0_3 a2_0 a2_1) else (if (bt607.2.2.1 != bt612.2.2.1) = true then (platbooklaw04_CarveBlocks.j0 k true a0_0 a0_1 a0_2 a0_3 a2_0 a2_1) else (if bt607.2.2.2 = bt612.2.2.2 then (if ((!(bt617.1 == bt623.1) || ((!(bt617.2.1 == bt623.2.1) || (!(bt617.2.2.1 == bt623.2.2.1))))) || (!(bt617.2.2.2.1 == bt623.2.2.2.1))) = true then (platbooklaw04_CarveBlocks.j0 k true a0_0 a0_1 a0_2 a0_3 a2_0 a2_1) else (platbooklaw04_CarveBlocks.j0 k (bt617.2.2.2.2 != bt623.2.2.2.2) a0_0 a0_1 a0_2 a0_3 a2_0 a2_1)) else (platbooklaw04_CarveBlocks.j0 k true a0_0 a0_1 a0_2 a0_3 a2_0 a2_1)))))))) else (some false)) = some r := H
 have A4 := Aside0.mk A40
 clear A40
 by_cases c5 : t606 = true
 ·
  subst c5
  rw [if_pos rfl] at H
  replace H := Option.bind_eq_some_iff.mp H
  obtain ⟨⟨t607, t608, t609, t610⟩, A60, H⟩ := H
  replace H : ((platbookref04_Blocks.f k a0_0 a0_1 a0_2 a0_3 a1).bind fun bt612 => ((carve_Block.f a0_0 a0_1 a0_2 a0_3 a1 a2_0 a2_1).bind fun bt617 => ((platbookref04_Block.f k a0_0 a0_1 a0_2 a0_3 a1 a2_0 a2_1).bind fun bt623 => (if (!(t607 == bt612.1) || (!(t608 == bt612.2.1))) = true then (platbooklaw04_CarveBlocks.j0 k true a0_0 a0_1 a0_2 a0_3 a2_0 a2_1) else (if (t609 != bt612.2.2.1) = true then (platbooklaw04_CarveBlocks.j0 k true a0_0 a0_1 a0_2 a0_3 a2_0 a2_1) else (if t610 = bt612.2.2.2 then (if ((!(bt617.1 == bt623.1) || ((!(bt617.2.1 == bt623.2.1) || (!(bt617.2.2.1 == bt623.2.2.1))))) || (!(bt617.2.2.2.1 == bt623.2.2.2.1))) = true then (platbooklaw04_CarveBlocks.j0 k true a0_0 a0_1 a0_2 a0_3 a2_0 a2_1) else (platbooklaw04_CarveBlocks.j0 k (bt617.2.2.2.2 != bt623.2.2.2.2) a0_0 a0_1 a0_2 a0_3 a2_0 a2_1)) else (platbooklaw04_CarveBlocks.j0 k true a0_0 a0_1 a0_2 a0_3 a2_0 a2_1))))))) = some r := H
  have A6 := Aside0.mk A60
  clear A60
  replace H := Option.bind_eq_some_iff.mp H
  obtain ⟨⟨t612, t613, t614, t615⟩, A70, H⟩ := H
  replace H : ((carve_Block.f a0_0 a0_1 a0_2 a0_3 a1 a2_0 a2_1).bind fun bt617 => ((platbookref04_Block.f k a0_0 a0_1 a0_2 a0_3 a1 a2_0 a2_1).bind fun bt623 => (if (!(t607 == t612) || (!(t608 == t613))) = true then (platbooklaw04_CarveBlocks.j0 k true a0_0 a0_1 a0_2 a0_3 a2_0 a2_1) else (if (t609 != t614) = true then (platbooklaw04_CarveBlocks.j0 k true a0_0 a0_1 a0_2 a0_3 a2_0 a2_1) else (if t610 = t615 then (if ((!(bt617.1 == bt623.1) || ((!(bt617.2.1 == bt623.2.1) || (!(bt617.2.2.1 == bt623.2.2.1))))) || (!(bt617.2.2.2.1 == bt623.2.2.2.1))) = true then (platbooklaw04_CarveBlocks.j0 k true a0_0 a0_1 a0_2 a0_3 a2_0 a2_1) else (platbooklaw04_CarveBlocks.j0 k (bt617.2.2.2.2 != bt623.2.2.2.2) a0_0 a0_1 a0_2 a0_3 a2_0 a2_1)) else (platbooklaw04_CarveBlocks.j0 k true a0_0 a0_1 a0_2 a0_3 a2_0 a2_1)))))) = some r := H
  have A7 := Aside0.mk A70
  clear A70
  replace H := Option.bind_eq_some_iff.mp H
  obtain ⟨⟨t617, t618, t619, t620, t621⟩, A80, H⟩ := H
  replace H : ((platbookref04_Block.f k a0_0 a0_1 a0_2 a0_3 a1 a2_0 a2_1).bind fun bt623 => (if (!(t607 == t612) || (!(t608 == t613))) = true then (platbooklaw04_CarveBlocks.j0 k true a0_0 a0_1 a0_2 a0_3 a2_0 a2_1) else (if (t609 != t614) = true then (platbooklaw04_CarveBlocks.j0 k true a0_0 a0_1 a0_2 a0_3 a2_0 a2_1) else (if t610 = t615 then (if ((!(t617 == bt623.1) || ((!(t618 == bt623.2.1) || (!(t619 == bt623.2.2.1))))) || (!(t620 == bt623.2.2.2.1))) = true then (platbooklaw04_CarveBlocks.j0 k true a0_0 a0_1 a0_2 a0_3 a2_0 a2_1) else (platbooklaw04_CarveBlocks.j0 k (t621 != bt623.2.2.2.2) a0_0 a0_1 a0_2 a0_3 a2_0 a2_1)) else (platbooklaw04_CarveBlocks.j0 k true a0_0 a0_1 a0_2 a0_3 a2_0 a2_1))))) = some r := H
  have A8 := Aside0.mk A80
  clear A80
  replace H := Option.bind_eq_some_iff.mp H
  obtain ⟨⟨t623, t624, t625, t626, t627⟩, A90, H⟩ := H
  replace H : (if (!(t607 == t612) || (!(t608 == t613))) = true then (platbooklaw04_CarveBlocks.j0 k true a0_0 a0_1 a0_2 a0_3 a2_0 a2_1) else (if (t609 != t614) = true then (platbooklaw04_CarveBlocks.j0 k true a0_0 a0_1 a0_2 a0_3 a2_0 a2_1) else (if t610 = t615 then (if ((!(t617 == t623) || ((!(t618 == t624) || (!(t619 == t625))))) || (!(t620 == t626))) = true then (platbooklaw04_CarveBlocks.j0 k true a0_0 a0_1 a0_2 a0_3 a2_0 a2_1) else (platbooklaw04_CarveBlocks.j0 k (t621 != t627) a0_0 a0_1 a0_2 a0_3 a2_0 a2_1)) else (platbooklaw04_CarveBlocks.j0 k true a0_0 a0_1 a0_2 a0_3 a2_0 a2_1)))) = some r := H
  have A9 := Aside0.mk A90
  clear A90
  have HC10 := Aside0.mk H
  clear H
  go_enter Tryz.func8, Tryz.ntmps8
  go_upto_region 7 with (first | ((with_reducible refine gate_dst (N := 3) rfl ?_); refine bx_ 3 #[.bool a0_0, .int .u64 a0_1, .int .u64 a0_2, .int .i64 a0_3] 38 ?_; intro gb604 hg w11 hbox hb; have BK604 := Aside0.mk (hbox); have GW604 := gw_ HB hg; have GE604 := gw_ HB hg; replace HB := bs_ HB hb; clear hb hbox hg) | ((with_reducible refine gate_dst (N := 5) rfl ?_); refine bx_ 5 #[.int .u64 a2_0, .int .u64 a2_1] 24 ?_; intro gb605 hg w12 hbox hb; have BK605 := Aside0.mk (hbox); have GW605 := gw_ HB hg; have GE605 := gw_ HB hg; have NB604_605 := nl_ BK604 hg; have NB605_604 := ng_ BK604 hg; replace BK604 := bb_ BK604 hb; replace HB := bs_ HB hb; clear hb hbox hg) | ((with_reducible refine gate_callee (f := 46) rfl ?_); refine gl_ (some 28) Tryz.func46 #[] ?_; (with_reducible refine (platbooklaw04_awake.calls k  true _ ?side1 rfl A4.out).mono ?_); (case side1 => exact glob_keep HGLB.out (pb_ HB)); rintro e w13 ⟨rfl, hb⟩; refine ⟨_, rfl, ?_⟩; replace BK604 := bb_ BK604 hb; replace BK605 := bb_ BK605 hb; replace HB := bs_ HB hb; (try clear hb); (try clear hb2); (try clear hk); (try clear hi); have hnb14 := NB604_605.out; have hnc14 := NB605_604.out; obtain ⟨hcz15_0, hcz15_1, hcz15_2, hcz15_3, hfz15_0, hfz15_1, hfz15_2, hfz15_3⟩ := c4_ BK604) | ((with_reducible refine gate_callee (f := 47) rfl ?_); refine gl_ (some 33) Tryz.func47 #[.agg #[.bool a0_0, .int .u64 a0_1, .int .u64 a0_2, .int .i64 a0_3], .int .i64 a1] ?_; (with_reducible refine (carve_Blocks.calls a0_0 a0_1 a0_2 a0_3 a1 t607 t608 t609 t610 _ A6.out).mono ?_); rintro e w16 ⟨rfl, hb⟩; refine ⟨_, rfl, ?_⟩; replace BK604 := bb_ BK604 hb; replace BK605 := bb_ BK605 hb; replace HB := bs_ HB hb; (try clear hb); (try clear hb2); (try clear hk); (try clear hi)) | ((with_reducible refine gate_dst (N := 7) rfl ?_); refine bx_ 7 #[.int .u64 0, .int .u64 0] 24 ?_; intro gb611 hg w17 hbox hb; have BK611 := Aside0.mk (hbox); have GW611 := gw_ HB hg; have GE611 := gw_ HB hg; have NB604_611 := nl_ BK604 hg; have NB611_604 := ng_ BK604 hg; have NB605_611 := nl_ BK605 hg; have NB611_605 := ng_ BK605 hg; replace BK604 := bb_ BK604 hb; replace BK605 := bb_ BK605 hb; replace HB := bs_ HB hb; clear hb hbox hg; have hnb18 := NB611_604.out; have hnc18 := NB604_611.out; have hnb19 := NB611_605.out; have hnc19 := NB605_611.out; obtain ⟨hcz20_0, hcz20_1, hfz20_0, hfz20_1⟩ := c2_ BK611; obtain ⟨hcz21_0, hcz21_1, hcz21_2, hcz21_3, hfz21_0, hfz21_1, hfz21_2, hfz21_3⟩ := c4_ BK604) | ((with_reducible refine gate_callee (f := 48) rfl ?_); refine gl_ (some 40) Tryz.func48 #[.agg #[.bool a0_0, .int .u64 a0_1, .int .u64 a0_2, .int .i64 a0_3], .int .i64 a1] ?_; (with_reducible refine (platbookref04_Blocks.calls k a0_0 a0_1 a0_2 a0_3 a1 t612 t613 t614 t615 _ A7.out).mono ?_); rintro e w22 ⟨rfl, hb⟩; refine ⟨_, rfl, ?_⟩; replace BK604 := Aside0.mk (blk_below (g := gb604) (o := .cells #[.bool a0_0, .int .u64 a0_1, .int .u64 a0_2, .int .i64 a0_3] 38 (0, 0)) (by refine pw_ ?_; refine blk_far ?_ NB604_611.out _; refine pw_ ?_; refine blk_far ?_ NB604_611.out _; refine pw_ ?_; exact BK604.out) hb); replace BK605 := Aside0.mk (blk_below (g := gb605) (o := .cells #[.int .u64 a2_0, .int .u64 a2_1] 24 (0, 0)) (by refine pw_ ?_; refine blk_far ?_ NB605_611.out _; refine pw_ ?_; refine blk_far ?_ NB605_611.out _; refine pw_ ?_; exact BK605.out) hb); replace BK611 := Aside0.mk (blk_below (g := gb611) (o := .cells #[.int .u64 t607, .int .u64 t608] 24 (0, 0)) (by refine pw_ ?_; refine blk_put (cs := #[.int .u64 t607, .int .u64 0]) ?_ 1 _ rfl; refine pw_ ?_; refine blk_put (cs := #[.int .u64 0, .int .u64 0]) ?_ 0 _ rfl; refine pw_ ?_; exact BK611.out) hb); replace HB := bs_ HB hb; (try clear hb); (try clear hb2); (try clear hk); (try clear hi)) | ((with_reducible refine gate_dst (N := 10) rfl ?_); refine bx_ 10 #[.int .u64 0, .int .u64 0] 24 ?_; intro gb616 hg w23 hbox hb; have BK616 := Aside0.mk (hbox); have GW616 := gw_ HB hg; have GE616 := gw_ HB hg; have NB604_616 := nl_ BK604 hg; have NB616_604 := ng_ BK604 hg; have NB605_616 := nl_ BK605 hg; have NB616_605 := ng_ BK605 hg; have NB611_616 := nl_ BK611 hg; have NB616_611 := ng_ BK611 hg; replace BK604 := bb_ BK604 hb; replace BK605 := bb_ BK605 hb; replace BK611 := bb_ BK611 hb; replace HB := bs_ HB hb; clear hb hbox hg; have hnb24 := NB616_604.out; have hnc24 := NB604_616.out; have hnb25 := NB616_605.out; have hnc25 := NB605_616.out; have hnb26 := NB616_611.out; have hnc26 := NB611_616.out; obtain ⟨hcz27_0, hcz27_1, hfz27_0, hfz27_1⟩ := c2_ BK616; obtain ⟨hcz28_0, hcz28_1, hcz28_2, hcz28_3, hfz28_0, hfz28_1, hfz28_2, hfz28_3⟩ := c4_ BK604; obtain ⟨hcz29_0, hcz29_1, hfz29_0, hfz29_1⟩ := c2_ BK605) | ((with_reducible refine gate_callee (f := 49) rfl ?_); refine gl_ (some 48) Tryz.func49 #[.agg #[.bool a0_0, .int .u64 a0_1, .int .u64 a0_2, .int .i64 a0_3], .int .i64 a1, .agg #[.int .u64 a2_0, .int .u64 a2_1]] ?_; (with_reducible refine (carve_Block.calls a0_0 a0_1 a0_2 a0_3 a1 a2_0 a2_1 t617 t618 t619 t620 t621 _ A8.out).mono ?_); rintro e w30 ⟨rfl, hb⟩; refine ⟨_, rfl, ?_⟩; replace BK604 := Aside0.mk (blk_below (g := gb604) (o := .cells #[.bool a0_0, .int .u64 a0_1, .int .u64 a0_2, .int .i64 a0_3] 38 (0, 0)) (by refine pw_ ?_; refine blk_far ?_ NB604_616.out _; refine pw_ ?_; refine blk_far ?_ NB604_616.out _; refine pw_ ?_; exact BK604.out) hb); replace BK605 := Aside0.mk (blk_below (g := gb605) (o := .cells #[.int .u64 a2_0, .int .u64 a2_1] 24 (0, 0)) (by refine pw_ ?_; refine blk_far ?_ NB605_616.out _; refine pw_ ?_; refine blk_far ?_ NB605_616.out _; refine pw_ ?_; exact BK605.out) hb); replace BK611 := Aside0.mk (blk_below (g := gb611) (o := .cells #[.int .u64 t607, .int .u64 t608] 24 (0, 0)) (by refine pw_ ?_; refine blk_far ?_ NB611_616.out _; refine pw_ ?_; refine blk_far ?_ NB611_616.out _; refine pw_ ?_; exact BK611.out) hb); replace BK616 := Aside0.mk (blk_below (g := gb616) (o := .cells #[.int .u64 t612, .int .u64 t613] 24 (0, 0)) (by refine pw_ ?_; refine blk_put (cs := #[.int .u64 t612, .int .u64 0]) ?_ 1 _ rfl; refine pw_ ?_; refine blk_put (cs := #[.int .u64 0, .int .u64 0]) ?_ 0 _ rfl; refine pw_ ?_; exact BK616.out) hb); replace HB := bs_ HB hb; (try clear hb); (try clear hb2); (try clear hk); (try clear hi)) | ((with_reducible refine gate_dst (N := 13) rfl ?_); refine bx_ 13 #[.bool false, .int .u64 0, .int .u64 0, .int .i64 0] 38 ?_; intro gb622 hg w31 hbox hb; have BK622 := Aside0.mk (hbox); have GW622 := gw_ HB hg; have GE622 := gw_ HB hg; have NB604_622 := nl_ BK604 hg; have NB622_604 := ng_ BK604 hg; have NB605_622 := nl_ BK605 hg; have NB622_605 := ng_ BK605 hg; have NB611_622 := nl_ BK611 hg; have NB622_611 := ng_ BK611 hg; have NB616_622 := nl_ BK616 hg; have NB622_616 := ng_ BK616 hg; replace BK604 := bb_ BK604 hb; replace BK605 := bb_ BK605 hb; replace BK611 := bb_ BK611 hb; replace BK616 := bb_ BK616 hb; replace HB := bs_ HB hb; clear hb hbox hg; have hnb32 := NB622_604.out; have hnc32 := NB604_622.out; have hnb33 := NB622_605.out; have hnc33 := NB605_622.out; have hnb34 := NB622_611.out; have hnc34 := NB611_622.out; have hnb35 := NB622_616.out; have hnc35 := NB616_622.out; obtain ⟨hcz36_0, hcz36_1, hcz36_2, hcz36_3, hfz36_0, hfz36_1, hfz36_2, hfz36_3⟩ := c4_ BK622; obtain ⟨hcz37_0, hcz37_1, hcz37_2, hcz37_3, hfz37_0, hfz37_1, hfz37_2, hfz37_3⟩ := c4_ BK604; obtain ⟨hcz38_0, hcz38_1, hfz38_0, hfz38_1⟩ := c2_ BK605) | ((with_reducible refine gate_callee (f := 50) rfl ?_); refine gl_ (some 55) Tryz.func50 #[.agg #[.bool a0_0, .int .u64 a0_1, .int .u64 a0_2, .int .i64 a0_3], .int .i64 a1, .agg #[.int .u64 a2_0, .int .u64 a2_1]] ?_; (with_reducible refine (platbookref04_Block.calls k a0_0 a0_1 a0_2 a0_3 a1 a2_0 a2_1 t623 t624 t625 t626 t627 _ A9.out).mono ?_); rintro e w39 ⟨rfl, hb⟩; refine ⟨_, rfl, ?_⟩; replace BK604 := Aside0.mk (blk_below (g := gb604) (o := .cells #[.bool a0_0, .int .u64 a0_1, .int .u64 a0_2, .int .i64 a0_3] 38 (0, 0)) (by refine pw_ ?_; refine blk_far ?_ NB604_622.out _; refine pw_ ?_; refine blk_far ?_ NB604_622.out _; refine pw_ ?_; refine blk_far ?_ NB604_622.out _; refine pw_ ?_; refine blk_far ?_ NB604_622.out _; refine pw_ ?_; exact BK604.out) hb); replace BK605 := Aside0.mk (blk_below (g := gb605) (o := .cells #[.int .u64 a2_0, .int .u64 a2_1] 24 (0, 0)) (by refine pw_ ?_; refine blk_far ?_ NB605_622.out _; refine pw_ ?_; refine blk_far ?_ NB605_622.out _; refine pw_ ?_; refine blk_far ?_ NB605_622.out _; refine pw_ ?_; refine blk_far ?_ NB605_622.out _; refine pw_ ?_; exact BK605.out) hb); replace BK611 := Aside0.mk (blk_below (g := gb611) (o := .cells #[.int .u64 t607, .int .u64 t608] 24 (0, 0)) (by refine pw_ ?_; refine blk_far ?_ NB611_622.out _; refine pw_ ?_; refine blk_far ?_ NB611_622.out _; refine pw_ ?_; refine blk_far ?_ NB611_622.out _; refine pw_ ?_; refine blk_far ?_ NB611_622.out _; refine pw_ ?_; exact BK611.out) hb); replace BK616 := Aside0.mk (blk_below (g := gb616) (o := .cells #[.int .u64 t612, .int .u64 t613] 24 (0, 0)) (by refine pw_ ?_; refine blk_far ?_ NB616_622.out _; refine pw_ ?_; refine blk_far ?_ NB616_622.out _; refine pw_ ?_; refine blk_far ?_ NB616_622.out _; refine pw_ ?_; refine blk_far ?_ NB616_622.out _; refine pw_ ?_; exact BK616.out) hb); replace BK622 := Aside0.mk (blk_below (g := gb622) (o := .cells #[.bool t617, .int .u64 t618, .int .u64 t619, .int .i64 t620] 38 (0, 0)) (by refine pw_ ?_; refine blk_put (cs := #[.bool t617, .int .u64 t618, .int .u64 t619, .int .i64 0]) ?_ 3 _ rfl; refine pw_ ?_; refine blk_put (cs := #[.bool t617, .int .u64 t618, .int .u64 0, .int .i64 0]) ?_ 2 _ rfl; refine pw_ ?_; refine blk_put (cs := #[.bool t617, .int .u64 0, .int .u64 0, .int .i64 0]) ?_ 1 _ rfl; refine pw_ ?_; refine blk_put (cs := #[.bool false, .int .u64 0, .int .u64 0, .int .i64 0]) ?_ 0 _ rfl; refine pw_ ?_; exact BK622.out) hb); replace HB := bs_ HB hb; (try clear hb); (try clear hb2); (try clear hk); (try clear hi)) | ((with_reducible refine gate_dst (N := 15) rfl ?_); refine bx_ 15 #[.bool false, .int .u64 0, .int .u64 0, .int .i64 0] 38 ?_; intro gb628 hg w40 hbox hb; have BK628 := Aside0.mk (hbox); have GW628 := gw_ HB hg; have GE628 := gw_ HB hg; have NB604_628 := nl_ BK604 hg; have NB628_604 := ng_ BK604 hg; have NB605_628 := nl_ BK605 hg; have NB628_605 := ng_ BK605 hg; have NB611_628 := nl_ BK611 hg; have NB628_611 := ng_ BK611 hg; have NB616_628 := nl_ BK616 hg; have NB628_616 := ng_ BK616 hg; have NB622_628 := nl_ BK622 hg; have NB628_622 := ng_ BK622 hg; replace BK604 := bb_ BK604 hb; replace BK605 := bb_ BK605 hb; replace BK611 := bb_ BK611 hb; replace BK616 := bb_ BK616 hb; replace BK622 := bb_ BK622 hb; replace HB := bs_ HB hb; clear hb hbox hg; have hnb41 := NB628_604.out; have hnc41 := NB604_628.out; have hnb42 := NB628_605.out; have hnc42 := NB605_628.out; have hnb43 := NB628_611.out; have hnc43 := NB611_628.out; have hnb44 := NB628_616.out; have hnc44 := NB616_628.out; have hnb45 := NB628_622.out; have hnc45 := NB622_628.out; obtain ⟨hcz46_0, hcz46_1, hcz46_2, hcz46_3, hfz46_0, hfz46_1, hfz46_2, hfz46_3⟩ := c4_ BK628))
  (try simp only [Act.put, List.setIfInBounds_toArray, List.set_cons_zero, List.set_cons_succ])
  go_cut [80] (fun v80 wc => ∃ (kq : Nat) (x80_9 : Bool), v80 = .bool x80_9 ∧ Aside0 (platbooklaw04_CarveBlocks.j0 kq x80_9 a0_0 a0_1 a0_2 a0_3 a2_0 a2_1 = some r) ∧ Aside0 (kq ≤ k) ∧ Aside0 (wc.heap[gb604]? = some (.cells #[.bool a0_0, .int .u64 a0_1, .int .u64 a0_2, .int .i64 a0_3] 38 (0, 0))) ∧ Aside0 (wc.heap[gb605]? = some (.cells #[.int .u64 a2_0, .int .u64 a2_1] 24 (0, 0))) ∧ Aside0 (wc.heap[gb611]? = some (.cells #[.int .u64 t607, .int .u64 t608] 24 (0, 0))) ∧ Aside0 (wc.heap[gb616]? = some (.cells #[.int .u64 t612, .int .u64 t613] 24 (0, 0))) ∧ Aside0 (wc.heap[gb622]? = some (.cells #[.bool t617, .int .u64 t618, .int .u64 t619, .int .i64 t620] 38 (0, 0))) ∧ Aside0 (wc.heap[gb628]? = some (.cells #[.bool t623, .int .u64 t624, .int .u64 t625, .int .i64 t626] 38 (0, 0))) ∧ Aside0 (Below w.heap.size w wc))
  case first =>
   have H := HC10.out
   clear HC10
   by_cases c47 : (!(t607 == t612) || (!(t608 == t613))) = true
   ·
    rw [if_pos c47] at H
    have c47b0 : (!(t607 == t612) || (!(t608 == t613))) = true := c47
    clear c47
    (first | rw [c47b0] | (simp only [i64_w, i32_w]; rw [c47b0]) | skip)
    have H' := Aside0.mk H
    clear H
    have hnb48 := NB611_604.out
    have hnc48 := NB604_611.out
    have hnb49 := NB611_605.out
    have hnc49 := NB605_611.out
    have hnb50 := NB611_616.out
    have hnc50 := NB616_611.out
    have hnb51 := NB611_622.out
    have hnc51 := NB622_611.out
    have hnb52 := NB611_628.out
    have hnc52 := NB628_611.out
    obtain ⟨hcz53_0, hcz53_1, hfz53_0, hfz53_1⟩ := c2_ BK611
    have hnb54 := NB616_604.out
    have hnc54 := NB604_616.out
    have hnb55 := NB616_605.out
    have hnc55 := NB605_616.out
    have hnb56 := NB616_622.out
    have hnc56 := NB622_616.out
    have hnb57 := NB616_628.out
    have hnc57 := NB628_616.out
    obtain ⟨hcz58_0, hcz58_1, hfz58_0, hfz58_1⟩ := c2_ BK616
    go_wp2
    go_meet
    case rel => exact ⟨_, (true), (by first | rfl | (simp; done) | (simp [*]; done)), H', ⟨by first | omega | exact Nat.le_refl _⟩, ⟨by refine pw_ ?_; refine blk_far ?_ NB604_628.out _; refine pw_ ?_; refine blk_far ?_ NB604_628.out _; refine pw_ ?_; refine blk_far ?_ NB604_628.out _; refine pw_ ?_; refine blk_far ?_ NB604_628.out _; refine pw_ ?_; exact BK604.out⟩, ⟨by refine pw_ ?_; refine blk_far ?_ NB605_628.out _; refine pw_ ?_; refine blk_far ?_ NB605_628.out _; refine pw_ ?_; refine blk_far ?_ NB605_628.out _; refine pw_ ?_; refine blk_far ?_ NB605_628.out _; refine pw_ ?_; exact BK605.out⟩, ⟨by refine pw_ ?_; refine blk_far ?_ NB611_628.out _; refine pw_ ?_; refine blk_far ?_ NB611_628.out _; refine pw_ ?_; refine blk_far ?_ NB611_628.out _; refine pw_ ?_; refine blk_far ?_ NB611_628.out _; refine pw_ ?_; exact BK611.out⟩, ⟨by refine pw_ ?_; refine blk_far ?_ NB616_628.out _; refine pw_ ?_; refine blk_far ?_ NB616_628.out _; refine pw_ ?_; refine blk_far ?_ NB616_628.out _; refine pw_ ?_; refine blk_far ?_ NB616_628.out _; refine pw_ ?_; exact BK616.out⟩, ⟨by refine pw_ ?_; refine blk_far ?_ NB622_628.out _; refine pw_ ?_; refine blk_far ?_ NB622_628.out _; refine pw_ ?_; refine blk_far ?_ NB622_628.out _; refine pw_ ?_; refine blk_far ?_ NB622_628.out _; refine pw_ ?_; exact BK622.out⟩, ⟨by refine pw_ ?_; refine blk_put (cs := #[.bool t623, .int .u64 t624, .int .u64 t625, .int .i64 0]) ?_ 3 _ rfl; refine pw_ ?_; refine blk_put (cs := #[.bool t623, .int .u64 t624, .int .u64 0, .int .i64 0]) ?_ 2 _ rfl; refine pw_ ?_; refine blk_put (cs := #[.bool t623, .int .u64 0, .int .u64 0, .int .i64 0]) ?_ 1 _ rfl; refine pw_ ?_; refine blk_put (cs := #[.bool false, .int .u64 0, .int .u64 0, .int .i64 0]) ?_ 0 _ rfl; refine pw_ ?_; exact BK628.out⟩, ⟨pb_ HB⟩⟩
   ·
    rw [if_neg c47] at H
    have c47b0 : (!(t607 == t612) || (!(t608 == t613))) = false := by simpa using c47
    clear c47
    (first | rw [c47b0] | (simp only [i64_w, i32_w]; rw [c47b0]) | skip)
    by_cases c59 : (t609 != t614) = true
    ·
     rw [if_pos c59] at H
     have c59b0 : (t609 != t614) = true := c59
     (try (have c59b1 : decide (t609 = t614) = false := by simpa using c59))
     (try (have c59b2 : (t609 == t614) = false := by simpa using c59))
     (try (have c59b3 : ¬ (t609 = t614) := by simpa using c59))
     clear c59
     have H' := Aside0.mk H
     clear H
     have hnb60 := NB611_604.out
     have hnc60 := NB604_611.out
     have hnb61 := NB611_605.out
     have hnc61 := NB605_611.out
     have hnb62 := NB611_616.out
     have hnc62 := NB616_611.out
     have hnb63 := NB611_622.out
     have hnc63 := NB622_611.out
     have hnb64 := NB611_628.out
     have hnc64 := NB628_611.out
     obtain ⟨hcz65_0, hcz65_1, hfz65_0, hfz65_1⟩ := c2_ BK611
     have hnb66 := NB616_604.out
     have hnc66 := NB604_616.out
     have hnb67 := NB616_605.out
     have hnc67 := NB605_616.out
     have hnb68 := NB616_622.out
     have hnc68 := NB622_616.out
     have hnb69 := NB616_628.out
     have hnc69 := NB628_616.out
     obtain ⟨hcz70_0, hcz70_1, hfz70_0, hfz70_1⟩ := c2_ BK616
     go_wp2
     go_meet
     case rel => exact ⟨_, (true), (by first | rfl | (simp; done) | (simp [*]; done)), H', ⟨by first | omega | exact Nat.le_refl _⟩, ⟨by refine pw_ ?_; refine blk_far ?_ NB604_628.out _; refine pw_ ?_; refine blk_far ?_ NB604_628.out _; refine pw_ ?_; refine blk_far ?_ NB604_628.out _; refine pw_ ?_; refine blk_far ?_ NB604_628.out _; refine pw_ ?_; exact BK604.out⟩, ⟨by refine pw_ ?_; refine blk_far ?_ NB605_628.out _; refine pw_ ?_; refine blk_far ?_ NB605_628.out _; refine pw_ ?_; refine blk_far ?_ NB605_628.out _; refine pw_ ?_; refine blk_far ?_ NB605_628.out _; refine pw_ ?_; exact BK605.out⟩, ⟨by refine pw_ ?_; refine blk_far ?_ NB611_628.out _; refine pw_ ?_; refine blk_far ?_ NB611_628.out _; refine pw_ ?_; refine blk_far ?_ NB611_628.out _; refine pw_ ?_; refine blk_far ?_ NB611_628.out _; refine pw_ ?_; exact BK611.out⟩, ⟨by refine pw_ ?_; refine blk_far ?_ NB616_628.out _; refine pw_ ?_; refine blk_far ?_ NB616_628.out _; refine pw_ ?_; refine blk_far ?_ NB616_628.out _; refine pw_ ?_; refine blk_far ?_ NB616_628.out _; refine pw_ ?_; exact BK616.out⟩, ⟨by refine pw_ ?_; refine blk_far ?_ NB622_628.out _; refine pw_ ?_; refine blk_far ?_ NB622_628.out _; refine pw_ ?_; refine blk_far ?_ NB622_628.out _; refine pw_ ?_; refine blk_far ?_ NB622_628.out _; refine pw_ ?_; exact BK622.out⟩, ⟨by refine pw_ ?_; refine blk_put (cs := #[.bool t623, .int .u64 t624, .int .u64 t625, .int .i64 0]) ?_ 3 _ rfl; refine pw_ ?_; refine blk_put (cs := #[.bool t623, .int .u64 t624, .int .u64 0, .int .i64 0]) ?_ 2 _ rfl; refine pw_ ?_; refine blk_put (cs := #[.bool t623, .int .u64 0, .int .u64 0, .int .i64 0]) ?_ 1 _ rfl; refine pw_ ?_; refine blk_put (cs := #[.bool false, .int .u64 0, .int .u64 0, .int .i64 0]) ?_ 0 _ rfl; refine pw_ ?_; exact BK628.out⟩, ⟨pb_ HB⟩⟩
    ·
     rw [if_neg c59] at H
     have c59b0 : (t609 != t614) = false := by simpa using c59
     (try (have c59b1 : decide (t609 = t614) = true := by simpa using c59))
     (try (have c59b2 : (t609 == t614) = true := by simpa using c59))
     clear c59
     by_cases c71 : t610 = t615
     ·
      rw [if_pos c71] at H
      have c71b0 : (t610 == t615) = true := beq_iff_eq.mpr c71
      have c71b1 : (t610 != t615) = false := bne_eq_false_iff_eq.mpr c71
      clear c71
      by_cases c72 : ((!(t617 == t623) || ((!(t618 == t624) || (!(t619 == t625))))) || (!(t620 == t626))) = true
      ·
       rw [if_pos c72] at H
       have c72b0 : ((!(t617 == t623) || ((!(t618 == t624) || (!(t619 == t625))))) || (!(t620 == t626))) = true := c72
       clear c72
       have H' := Aside0.mk H
       clear H
       have hnb73 := NB611_604.out
       have hnc73 := NB604_611.out
       have hnb74 := NB611_605.out
       have hnc74 := NB605_611.out
       have hnb75 := NB611_616.out
       have hnc75 := NB616_611.out
       have hnb76 := NB611_622.out
       have hnc76 := NB622_611.out
       have hnb77 := NB611_628.out
       have hnc77 := NB628_611.out
       obtain ⟨hcz78_0, hcz78_1, hfz78_0, hfz78_1⟩ := c2_ BK611
       have hnb79 := NB616_604.out
       have hnc79 := NB604_616.out
       have hnb80 := NB616_605.out
       have hnc80 := NB605_616.out
       have hnb81 := NB616_622.out
       have hnc81 := NB622_616.out
       have hnb82 := NB616_628.out
       have hnc82 := NB628_616.out
       obtain ⟨hcz83_0, hcz83_1, hfz83_0, hfz83_1⟩ := c2_ BK616
       have hnb84 := NB622_604.out
       have hnc84 := NB604_622.out
       have hnb85 := NB622_605.out
       have hnc85 := NB605_622.out
       have hnb86 := NB622_628.out
       have hnc86 := NB628_622.out
       obtain ⟨hcz87_0, hcz87_1, hcz87_2, hcz87_3, hfz87_0, hfz87_1, hfz87_2, hfz87_3⟩ := c4_ BK622
       have hnb88 := NB628_604.out
       have hnc88 := NB604_628.out
       have hnb89 := NB628_605.out
       have hnc89 := NB605_628.out
       obtain ⟨hcz90_0, hcz90_1, hcz90_2, hcz90_3, hfz90_0, hfz90_1, hfz90_2, hfz90_3⟩ := c4_ BK628
       go_wp2
       go_meet
       case rel => exact ⟨_, (true), (by first | rfl | (simp; done) | (simp [*]; done)), H', ⟨by first | omega | exact Nat.le_refl _⟩, ⟨by refine pw_ ?_; refine blk_far ?_ NB604_628.out _; refine pw_ ?_; refine blk_far ?_ NB604_628.out _; refine pw_ ?_; refine blk_far ?_ NB604_628.out _; refine pw_ ?_; refine blk_far ?_ NB604_628.out _; refine pw_ ?_; exact BK604.out⟩, ⟨by refine pw_ ?_; refine blk_far ?_ NB605_628.out _; refine pw_ ?_; refine blk_far ?_ NB605_628.out _; refine pw_ ?_; refine blk_far ?_ NB605_628.out _; refine pw_ ?_; refine blk_far ?_ NB605_628.out _; refine pw_ ?_; exact BK605.out⟩, ⟨by refine pw_ ?_; refine blk_far ?_ NB611_628.out _; refine pw_ ?_; refine blk_far ?_ NB611_628.out _; refine pw_ ?_; refine blk_far ?_ NB611_628.out _; refine pw_ ?_; refine blk_far ?_ NB611_628.out _; refine pw_ ?_; exact BK611.out⟩, ⟨by refine pw_ ?_; refine blk_far ?_ NB616_628.out _; refine pw_ ?_; refine blk_far ?_ NB616_628.out _; refine pw_ ?_; refine blk_far ?_ NB616_628.out _; refine pw_ ?_; refine blk_far ?_ NB616_628.out _; refine pw_ ?_; exact BK616.out⟩, ⟨by refine pw_ ?_; refine blk_far ?_ NB622_628.out _; refine pw_ ?_; refine blk_far ?_ NB622_628.out _; refine pw_ ?_; refine blk_far ?_ NB622_628.out _; refine pw_ ?_; refine blk_far ?_ NB622_628.out _; refine pw_ ?_; exact BK622.out⟩, ⟨by refine pw_ ?_; refine blk_put (cs := #[.bool t623, .int .u64 t624, .int .u64 t625, .int .i64 0]) ?_ 3 _ rfl; refine pw_ ?_; refine blk_put (cs := #[.bool t623, .int .u64 t624, .int .u64 0, .int .i64 0]) ?_ 2 _ rfl; refine pw_ ?_; refine blk_put (cs := #[.bool t623, .int .u64 0, .int .u64 0, .int .i64 0]) ?_ 1 _ rfl; refine pw_ ?_; refine blk_put (cs := #[.bool false, .int .u64 0, .int .u64 0, .int .i64 0]) ?_ 0 _ rfl; refine pw_ ?_; exact BK628.out⟩, ⟨pb_ HB⟩⟩
      ·
       rw [if_neg c72] at H
       have c72b0 : ((!(t617 == t623) || ((!(t618 == t624) || (!(t619 == t625))))) || (!(t620 == t626))) = false := by simpa using c72
       clear c72
       have H' := Aside0.mk H
       clear H
       have hnb91 := NB611_604.out
       have hnc91 := NB604_611.out
       have hnb92 := NB611_605.out
       have hnc92 := NB605_611.out
       have hnb93 := NB611_616.out
       have hnc93 := NB616_611.out
       have hnb94 := NB611_622.out
       have hnc94 := NB622_611.out
       have hnb95 := NB611_628.out
       have hnc95 := NB628_611.out
       obtain ⟨hcz96_0, hcz96_1, hfz96_0, hfz96_1⟩ := c2_ BK611
       have hnb97 := NB616_604.out
       have hnc97 := NB604_616.out
       have hnb98 := NB616_605.out
       have hnc98 := NB605_616.out
       have hnb99 := NB616_622.out
       have hnc99 := NB622_616.out
       have hnb100 := NB616_628.out
       have hnc100 := NB628_616.out
       obtain ⟨hcz101_0, hcz101_1, hfz101_0, hfz101_1⟩ := c2_ BK616
       have hnb102 := NB622_604.out
       have hnc102 := NB604_622.out
       have hnb103 := NB622_605.out
       have hnc103 := NB605_622.out
       have hnb104 := NB622_628.out
       have hnc104 := NB628_622.out
       obtain ⟨hcz105_0, hcz105_1, hcz105_2, hcz105_3, hfz105_0, hfz105_1, hfz105_2, hfz105_3⟩ := c4_ BK622
       have hnb106 := NB628_604.out
       have hnc106 := NB604_628.out
       have hnb107 := NB628_605.out
       have hnc107 := NB605_628.out
       obtain ⟨hcz108_0, hcz108_1, hcz108_2, hcz108_3, hfz108_0, hfz108_1, hfz108_2, hfz108_3⟩ := c4_ BK628
       go_wp2
       go_meet
       case rel => exact ⟨_, ((t621 != t627)), (by first | rfl | (simp; done) | (simp [*]; done)), H', ⟨by first | omega | exact Nat.le_refl _⟩, ⟨by refine pw_ ?_; refine blk_far ?_ NB604_628.out _; refine pw_ ?_; refine blk_far ?_ NB604_628.out _; refine pw_ ?_; refine blk_far ?_ NB604_628.out _; refine pw_ ?_; refine blk_far ?_ NB604_628.out _; refine pw_ ?_; exact BK604.out⟩, ⟨by refine pw_ ?_; refine blk_far ?_ NB605_628.out _; refine pw_ ?_; refine blk_far ?_ NB605_628.out _; refine pw_ ?_; refine blk_far ?_ NB605_628.out _; refine pw_ ?_; refine blk_far ?_ NB605_628.out _; refine pw_ ?_; exact BK605.out⟩, ⟨by refine pw_ ?_; refine blk_far ?_ NB611_628.out _; refine pw_ ?_; refine blk_far ?_ NB611_628.out _; refine pw_ ?_; refine blk_far ?_ NB611_628.out _; refine pw_ ?_; refine blk_far ?_ NB611_628.out _; refine pw_ ?_; exact BK611.out⟩, ⟨by refine pw_ ?_; refine blk_far ?_ NB616_628.out _; refine pw_ ?_; refine blk_far ?_ NB616_628.out _; refine pw_ ?_; refine blk_far ?_ NB616_628.out _; refine pw_ ?_; refine blk_far ?_ NB616_628.out _; refine pw_ ?_; exact BK616.out⟩, ⟨by refine pw_ ?_; refine blk_far ?_ NB622_628.out _; refine pw_ ?_; refine blk_far ?_ NB622_628.out _; refine pw_ ?_; refine blk_far ?_ NB622_628.out _; refine pw_ ?_; refine blk_far ?_ NB622_628.out _; refine pw_ ?_; exact BK622.out⟩, ⟨by refine pw_ ?_; refine blk_put (cs := #[.bool t623, .int .u64 t624, .int .u64 t625, .int .i64 0]) ?_ 3 _ rfl; refine pw_ ?_; refine blk_put (cs := #[.bool t623, .int .u64 t624, .int .u64 0, .int .i64 0]) ?_ 2 _ rfl; refine pw_ ?_; refine blk_put (cs := #[.bool t623, .int .u64 0, .int .u64 0, .int .i64 0]) ?_ 1 _ rfl; refine pw_ ?_; refine blk_put (cs := #[.bool false, .int .u64 0, .int .u64 0, .int .i64 0]) ?_ 0 _ rfl; refine pw_ ?_; exact BK628.out⟩, ⟨pb_ HB⟩⟩
     ·
      rw [if_neg c71] at H
      have c71b0 : (t610 == t615) = false := beq_eq_false_iff_ne.mpr c71
      have c71b1 : (t610 != t615) = true := bne_iff_ne.mpr c71
      have H' := Aside0.mk H
      clear H
      have hnb109 := NB611_604.out
      have hnc109 := NB604_611.out
      have hnb110 := NB611_605.out
      have hnc110 := NB605_611.out
      have hnb111 := NB611_616.out
      have hnc111 := NB616_611.out
      have hnb112 := NB611_622.out
      have hnc112 := NB622_611.out
      have hnb113 := NB611_628.out
      have hnc113 := NB628_611.out
      obtain ⟨hcz114_0, hcz114_1, hfz114_0, hfz114_1⟩ := c2_ BK611
      have hnb115 := NB616_604.out
      have hnc115 := NB604_616.out
      have hnb116 := NB616_605.out
      have hnc116 := NB605_616.out
      have hnb117 := NB616_622.out
      have hnc117 := NB622_616.out
      have hnb118 := NB616_628.out
      have hnc118 := NB628_616.out
      obtain ⟨hcz119_0, hcz119_1, hfz119_0, hfz119_1⟩ := c2_ BK616
      go_wp2
      go_meet
      case rel => exact ⟨_, (true), (by first | rfl | (simp; done) | (simp [*]; done)), H', ⟨by first | omega | exact Nat.le_refl _⟩, ⟨by refine pw_ ?_; refine blk_far ?_ NB604_628.out _; refine pw_ ?_; refine blk_far ?_ NB604_628.out _; refine pw_ ?_; refine blk_far ?_ NB604_628.out _; refine pw_ ?_; refine blk_far ?_ NB604_628.out _; refine pw_ ?_; exact BK604.out⟩, ⟨by refine pw_ ?_; refine blk_far ?_ NB605_628.out _; refine pw_ ?_; refine blk_far ?_ NB605_628.out _; refine pw_ ?_; refine blk_far ?_ NB605_628.out _; refine pw_ ?_; refine blk_far ?_ NB605_628.out _; refine pw_ ?_; exact BK605.out⟩, ⟨by refine pw_ ?_; refine blk_far ?_ NB611_628.out _; refine pw_ ?_; refine blk_far ?_ NB611_628.out _; refine pw_ ?_; refine blk_far ?_ NB611_628.out _; refine pw_ ?_; refine blk_far ?_ NB611_628.out _; refine pw_ ?_; exact BK611.out⟩, ⟨by refine pw_ ?_; refine blk_far ?_ NB616_628.out _; refine pw_ ?_; refine blk_far ?_ NB616_628.out _; refine pw_ ?_; refine blk_far ?_ NB616_628.out _; refine pw_ ?_; refine blk_far ?_ NB616_628.out _; refine pw_ ?_; exact BK616.out⟩, ⟨by refine pw_ ?_; refine blk_far ?_ NB622_628.out _; refine pw_ ?_; refine blk_far ?_ NB622_628.out _; refine pw_ ?_; refine blk_far ?_ NB622_628.out _; refine pw_ ?_; refine blk_far ?_ NB622_628.out _; refine pw_ ?_; exact BK622.out⟩, ⟨by refine pw_ ?_; refine blk_put (cs := #[.bool t623, .int .u64 t624, .int .u64 t625, .int .i64 0]) ?_ 3 _ rfl; refine pw_ ?_; refine blk_put (cs := #[.bool t623, .int .u64 t624, .int .u64 0, .int .i64 0]) ?_ 2 _ rfl; refine pw_ ?_; refine blk_put (cs := #[.bool t623, .int .u64 0, .int .u64 0, .int .i64 0]) ?_ 1 _ rfl; refine pw_ ?_; refine blk_put (cs := #[.bool false, .int .u64 0, .int .u64 0, .int .i64 0]) ?_ 0 _ rfl; refine pw_ ?_; exact BK628.out⟩, ⟨pb_ HB⟩⟩
  case rest =>
   clear HC10
   try clear c1
   try clear c2
   try clear p2
   try clear c3
   try clear c4
   try clear c5
   try clear c6
   try clear c7
   try clear c8
   try clear c9
   try clear c10
   try clear c11
   try clear c14
   try clear c18
   try clear c19
   try clear c24
   try clear c25
   try clear c26
   try clear c32
   try clear c33
   try clear c34
   try clear c35
   try clear c41
   try clear c42
   try clear c43
   try clear c44
   try clear c45
   try clear c46
   try clear c47
   try clear c47b0
   try clear c48
   try clear c49
   try clear c50
   try clear c51
   try clear c52
   try clear c54
   try clear c55
   try clear c56
   try clear c57
   try clear c59
   try clear c59b0
   try clear c59b1
   try clear c59b2
   try clear c60
   try clear c61
   try clear c62
   try clear c63
   try clear c64
   try clear c66
   try clear c67
   try clear c68
   try clear c69
   try clear c71
   try clear c71b0
   try clear c71b1
   try clear c72
   try clear c72b0
   try clear c73
   try clear c74
   try clear c75
   try clear c76
   try clear c77
   try clear c79
   try clear c80
   try clear c81
   try clear c82
   try clear c84
   try clear c85
   try clear c86
   try clear c88
   try clear c89
   try clear c91
   try clear c92
   try clear c93
   try clear c94
   try clear c95
   try clear c97
   try clear c98
   try clear c99
   try clear c100
   try clear c102
   try clear c103
   try clear c104
   try clear c106
   try clear c107
   try clear c109
   try clear c110
   try clear c111
   try clear c112
   try clear c113
   try clear c115
   try clear c116
   try clear c117
   try clear c118
   try clear hcz101_0
   try clear hcz101_1
   try clear hcz105_0
   try clear hcz105_1
   try clear hcz105_2
   try clear hcz105_3
   try clear hcz108_0
   try clear hcz108_1
   try clear hcz108_2
   try clear hcz108_3
   try clear hcz114_0
   try clear hcz114_1
   try clear hcz119_0
   try clear hcz119_1
   try clear hcz15_0
   try clear hcz15_1
   try clear hcz15_2
   try clear hcz15_3
   try clear hcz20_0
   try clear hcz20_1
   try clear hcz21_0
   try clear hcz21_1
   try clear hcz21_2
   try clear hcz21_3
   try clear hcz27_0
   try clear hcz27_1
   try clear hcz28_0
   try clear hcz28_1
   try clear hcz28_2
   try clear hcz28_3
   try clear hcz29_0
   try clear hcz29_1
   try clear hcz36_0
   try clear hcz36_1
   try clear hcz36_2
   try clear hcz36_3
   try clear hcz37_0
   try clear hcz37_1
   try clear hcz37_2
   try clear hcz37_3
   try clear hcz38_0
   try clear hcz38_1
   try clear hcz46_0
   try clear hcz46_1
   try clear hcz46_2
   try clear hcz46_3
   try clear hcz53_0
   try clear hcz53_1
   try clear hcz58_0
   try clear hcz58_1
   try clear hcz65_0
   try clear hcz65_1
   try clear hcz70_0
   try clear hcz70_1
   try clear hcz78_0
   try clear hcz78_1
   try clear hcz83_0
   try clear hcz83_1
   try clear hcz87_0
   try clear hcz87_1
   try clear hcz87_2
   try clear hcz87_3
   try clear hcz90_0
   try clear hcz90_1
   try clear hcz90_2
   try clear hcz90_3
   try clear hcz96_0
   try clear hcz96_1
   try clear hfz101_0
   try clear hfz101_1
   try clear hfz105_0
   try clear hfz105_1
   try clear hfz105_2
   try clear hfz105_3
   try clear hfz108_0
   try clear hfz108_1
   try clear hfz108_2
   try clear hfz108_3
   try clear hfz114_0
   try clear hfz114_1
   try clear hfz119_0
   try clear hfz119_1
   try clear hfz15_0
   try clear hfz15_1
   try clear hfz15_2
   try clear hfz15_3
   try clear hfz20_0
   try clear hfz20_1
   try clear hfz21_0
   try clear hfz21_1
   try clear hfz21_2
   try clear hfz21_3
   try clear hfz27_0
   try clear hfz27_1
   try clear hfz28_0
   try clear hfz28_1
   try clear hfz28_2
   try clear hfz28_3
   try clear hfz29_0
   try clear hfz29_1
   try clear hfz36_0
   try clear hfz36_1
   try clear hfz36_2
   try clear hfz36_3
   try clear hfz37_0
   try clear hfz37_1
   try clear hfz37_2
   try clear hfz37_3
   try clear hfz38_0
   try clear hfz38_1
   try clear hfz46_0
   try clear hfz46_1
   try clear hfz46_2
   try clear hfz46_3
   try clear hfz53_0
   try clear hfz53_1
   try clear hfz58_0
   try clear hfz58_1
   try clear hfz65_0
   try clear hfz65_1
   try clear hfz70_0
   try clear hfz70_1
   try clear hfz78_0
   try clear hfz78_1
   try clear hfz83_0
   try clear hfz83_1
   try clear hfz87_0
   try clear hfz87_1
   try clear hfz87_2
   try clear hfz87_3
   try clear hfz90_0
   try clear hfz90_1
   try clear hfz90_2
   try clear hfz90_3
   try clear hfz96_0
   try clear hfz96_1
   obtain ⟨kq, x80_9, rfl, HA, HJ9, BK604, BK605, BK611, BK616, BK622, BK628, HB⟩ := hcut
   cases kq with
   | zero => exact absurd HA.out (by simp [platbooklaw04_CarveBlocks.j0])
   | succ kj9 =>
    have H := HA.out
    clear HA
    simp only [platbooklaw04_CarveBlocks.j0] at H
    by_cases c120 : x80_9 = true
    ·
     subst c120
     rw [if_pos rfl] at H
     obtain rfl := Option.some.inj H
     exact absurd HRT.out (by decide)
    ·
     replace c120 := Bool.eq_false_iff.mpr c120
     subst c120
     have H1 : ((carve_Hosts.f a0_0 a0_1 a0_2 a0_3).bind fun bt629 => ((carve_Host.f a0_0 a0_1 a0_2 a0_3 a2_0 a2_1).bind fun bt634 => ((addr_Width.f a0_0 a0_1 a0_2).bind fun t639 => ((platbookref04_Blocks.f kj9 a0_0 a0_1 a0_2 a0_3 t639).bind fun bt640 => ((platbookref04_Block.f kj9 a0_0 a0_1 a0_2 a0_3 t639 a2_0 a2_1).bind fun bt645 => (if (bt629.1 == bt640.1 && (bt629.2.1 == bt640.2.1)) = true then (if (bt629.2.2.1 == bt640.2.2.1) = true then (if bt629.2.2.2 = bt640.2.2.2 then (if (bt634.1 == bt645.1 && ((bt634.2.1 == bt645.2.1 && (bt634.2.2.1 == bt645.2.2.1)))) = true then (some (bt634.2.2.2 == bt645.2.2.2.2)) else (some false)) else (some false)) else (some false)) else (some false))))))) = some r := by rw [if_neg (show ¬ (false = true) by decide)] at H; exact H
     clear H
     have H := H1
     clear H1
     replace H := Option.bind_eq_some_iff.mp H
     obtain ⟨⟨t629, t630, t631, t632⟩, A1210, H⟩ := H
     replace H : ((carve_Host.f a0_0 a0_1 a0_2 a0_3 a2_0 a2_1).bind fun bt634 => ((addr_Width.f a0_0 a0_1 a0_2).bind fun t639 => ((platbookref04_Blocks.f kj9 a0_0 a0_1 a0_2 a0_3 t639).bind fun bt640 => ((platbookref04_Block.f kj9 a0_0 a0_1 a0_2 a0_3 t639 a2_0 a2_1).bind fun bt645 => (if (t629 == bt640.1 && (t630 == bt640.2.1)) = true then (if (t631 == bt640.2.2.1) = true then (if t632 = bt640.2.2.2 then (if (bt634.1 == bt645.1 && ((bt634.2.1 == bt645.2.1 && (bt634.2.2.1 == bt645.2.2.1)))) = true then (some (bt634.2.2.2 == bt645.2.2.2.2)) else (some false)) else (some false)) else (some false)) else (some false)))))) = some r := H
     have A121 := Aside0.mk A1210
     clear A1210
     replace H := Option.bind_eq_some_iff.mp H
     obtain ⟨⟨t634, t635, t636, t637⟩, A1220, H⟩ := H
     replace H : ((addr_Width.f a0_0 a0_1 a0_2).bind fun t639 => ((platbookref04_Blocks.f kj9 a0_0 a0_1 a0_2 a0_3 t639).bind fun bt640 => ((platbookref04_Block.f kj9 a0_0 a0_1 a0_2 a0_3 t639 a2_0 a2_1).bind fun bt645 => (if (t629 == bt640.1 && (t630 == bt640.2.1)) = true then (if (t631 == bt640.2.2.1) = true then (if t632 = bt640.2.2.2 then (if (t634 == bt645.1 && ((t635 == bt645.2.1 && (t636 == bt645.2.2.1)))) = true then (some (t637 == bt645.2.2.2.2)) else (some false)) else (some false)) else (some false)) else (some false))))) = some r := H
     have A122 := Aside0.mk A1220
     clear A1220
     replace H := Option.bind_eq_some_iff.mp H
     obtain ⟨t639, A1230, H⟩ := H
     replace H : ((platbookref04_Blocks.f kj9 a0_0 a0_1 a0_2 a0_3 t639).bind fun bt640 => ((platbookref04_Block.f kj9 a0_0 a0_1 a0_2 a0_3 t639 a2_0 a2_1).bind fun bt645 => (if (t629 == bt640.1 && (t630 == bt640.2.1)) = true then (if (t631 == bt640.2.2.1) = true then (if t632 = bt640.2.2.2 then (if (t634 == bt645.1 && ((t635 == bt645.2.1 && (t636 == bt645.2.2.1)))) = true then (some (t637 == bt645.2.2.2.2)) else (some false)) else (some false)) else (some false)) else (some false)))) = some r := H
     have A123 := Aside0.mk A1230
     clear A1230
     replace H := Option.bind_eq_some_iff.mp H
     obtain ⟨⟨t640, t641, t642, t643⟩, A1240, H⟩ := H
     replace H : ((platbookref04_Block.f kj9 a0_0 a0_1 a0_2 a0_3 t639 a2_0 a2_1).bind fun bt645 => (if (t629 == t640 && (t630 == t641)) = true then (if (t631 == t642) = true then (if t632 = t643 then (if (t634 == bt645.1 && ((t635 == bt645.2.1 && (t636 == bt645.2.2.1)))) = true then (some (t637 == bt645.2.2.2.2)) else (some false)) else (some false)) else (some false)) else (some false))) = some r := H
     have A124 := Aside0.mk A1240
     clear A1240
     replace H := Option.bind_eq_some_iff.mp H
     obtain ⟨⟨t645, t646, t647, t648, t649⟩, A1250, H⟩ := H
     replace H : (if (t629 == t640 && (t630 == t641)) = true then (if (t631 == t642) = true then (if t632 = t643 then (if (t634 == t645 && ((t635 == t646 && (t636 == t647)))) = true then (some (t637 == t649)) else (some false)) else (some false)) else (some false)) else (some false)) = some r := H
     have A125 := Aside0.mk A1250
     clear A1250
     by_cases c126 : (t629 == t640 && (t630 == t641)) = true
     ·
      rw [if_pos c126] at H
      have c126b0 : (t629 == t640 && (t630 == t641)) = true := c126
      (try (have c126b1 : decide (t629 = t640 && (t630 == t641)) = true := by simpa using c126))
      (try (have c126b2 : (t629 == t640 && (t630 == t641)) = true := by simpa using c126))
      clear c126
      by_cases c127 : (t631 == t642) = true
      ·
       rw [if_pos c127] at H
       have c127b0 : (t631 == t642) = true := c127
       (try (have c127b1 : decide (t631 = t642) = true := by simpa using c127))
       (try (have c127b2 : (t631 == t642) = true := by simpa using c127))
       clear c127
       by_cases c128 : t632 = t643
       ·
        rw [if_pos c128] at H
        have c128b0 : (t632 == t643) = true := beq_iff_eq.mpr c128
        have c128b1 : (t632 != t643) = false := bne_eq_false_iff_eq.mpr c128
        clear c128
        by_cases c129 : (t634 == t645 && ((t635 == t646 && (t636 == t647)))) = true
        ·
         rw [if_pos c129] at H
         have c129b0 : (t634 == t645 && ((t635 == t646 && (t636 == t647)))) = true := c129
         (try (have c129b1 : decide (t634 = t645 && ((t635 == t646 && (t636 == t647)))) = true := by simpa using c129))
         (try (have c129b2 : (t634 == t645 && ((t635 == t646 && (t636 == t647)))) = true := by simpa using c129))
         clear c129
         obtain rfl := Option.some.inj H
         have hnb130 := NB604_605.out
         have hnc130 := NB605_604.out
         have hnb131 := NB604_611.out
         have hnc131 := NB611_604.out
         have hnb132 := NB604_616.out
         have hnc132 := NB616_604.out
         have hnb133 := NB604_622.out
         have hnc133 := NB622_604.out
         have hnb134 := NB604_628.out
         have hnc134 := NB628_604.out
         obtain ⟨hcz135_0, hcz135_1, hcz135_2, hcz135_3, hfz135_0, hfz135_1, hfz135_2, hfz135_3⟩ := c4_ BK604
         go_wp2_with (first | ((with_reducible refine gate_callee (f := 51) rfl ?_); refine gl_ (some 83) Tryz.func51 #[.agg #[.bool a0_0, .int .u64 a0_1, .int .u64 a0_2, .int .i64 a0_3]] ?_; (with_reducible refine (carve_Hosts.calls a0_0 a0_1 a0_2 a0_3 t629 t630 t631 t632 _ A121.out).mono ?_); rintro e w136 ⟨rfl, hb⟩; refine ⟨_, rfl, ?_⟩; replace BK604 := bb_ BK604 hb; replace BK605 := bb_ BK605 hb; replace BK611 := bb_ BK611 hb; replace BK616 := bb_ BK616 hb; replace BK622 := bb_ BK622 hb; replace BK628 := bb_ BK628 hb; replace HB := bs_ HB hb; (try clear hb); (try clear hb2); (try clear hk); (try clear hi)) | ((with_reducible refine gate_dst (N := 17) rfl ?_); refine bx_ 17 #[.int .u64 0, .int .u64 0] 24 ?_; intro gb633 hg w137 hbox hb; have BK633 := Aside0.mk (hbox); have GW633 := gw_ HB hg; have GE633 := gw_ HB hg; have NB604_633 := nl_ BK604 hg; have NB633_604 := ng_ BK604 hg; have NB605_633 := nl_ BK605 hg; have NB633_605 := ng_ BK605 hg; have NB611_633 := nl_ BK611 hg; have NB633_611 := ng_ BK611 hg; have NB616_633 := nl_ BK616 hg; have NB633_616 := ng_ BK616 hg; have NB622_633 := nl_ BK622 hg; have NB633_622 := ng_ BK622 hg; have NB628_633 := nl_ BK628 hg; have NB633_628 := ng_ BK628 hg; replace BK604 := bb_ BK604 hb; replace BK605 := bb_ BK605 hb; replace BK611 := bb_ BK611 hb; replace BK616 := bb_ BK616 hb; replace BK622 := bb_ BK622 hb; replace BK628 := bb_ BK628 hb; replace HB := bs_ HB hb; clear hb hbox hg; have hnb138 := NB633_604.out; have hnc138 := NB604_633.out; have hnb139 := NB633_605.out; have hnc139 := NB605_633.out; have hnb140 := NB633_611.out; have hnc140 := NB611_633.out; have hnb141 := NB633_616.out; have hnc141 := NB616_633.out; have hnb142 := NB633_622.out; have hnc142 := NB622_633.out; have hnb143 := NB633_628.out; have hnc143 := NB628_633.out; obtain ⟨hcz144_0, hcz144_1, hfz144_0, hfz144_1⟩ := c2_ BK633; obtain ⟨hcz145_0, hcz145_1, hcz145_2, hcz145_3, hfz145_0, hfz145_1, hfz145_2, hfz145_3⟩ := c4_ BK604; have hnb146 := NB605_611.out; have hnc146 := NB611_605.out; have hnb147 := NB605_616.out; have hnc147 := NB616_605.out; have hnb148 := NB605_622.out; have hnc148 := NB622_605.out; have hnb149 := NB605_628.out; have hnc149 := NB628_605.out; obtain ⟨hcz150_0, hcz150_1, hfz150_0, hfz150_1⟩ := c2_ BK605) | ((with_reducible refine gate_callee (f := 52) rfl ?_); refine gl_ (some 90) Tryz.func52 #[.agg #[.bool a0_0, .int .u64 a0_1, .int .u64 a0_2, .int .i64 a0_3], .agg #[.int .u64 a2_0, .int .u64 a2_1]] ?_; (with_reducible refine (carve_Host.calls a0_0 a0_1 a0_2 a0_3 a2_0 a2_1 t634 t635 t636 t637 _ A122.out).mono ?_); rintro e w151 ⟨rfl, hb⟩; refine ⟨_, rfl, ?_⟩; replace BK604 := Aside0.mk (blk_below (g := gb604) (o := .cells #[.bool a0_0, .int .u64 a0_1, .int .u64 a0_2, .int .i64 a0_3] 38 (0, 0)) (by refine pw_ ?_; refine blk_far ?_ NB604_633.out _; refine pw_ ?_; refine blk_far ?_ NB604_633.out _; refine pw_ ?_; exact BK604.out) hb); replace BK605 := Aside0.mk (blk_below (g := gb605) (o := .cells #[.int .u64 a2_0, .int .u64 a2_1] 24 (0, 0)) (by refine pw_ ?_; refine blk_far ?_ NB605_633.out _; refine pw_ ?_; refine blk_far ?_ NB605_633.out _; refine pw_ ?_; exact BK605.out) hb); replace BK611 := Aside0.mk (blk_below (g := gb611) (o := .cells #[.int .u64 t607, .int .u64 t608] 24 (0, 0)) (by refine pw_ ?_; refine blk_far ?_ NB611_633.out _; refine pw_ ?_; refine blk_far ?_ NB611_633.out _; refine pw_ ?_; exact BK611.out) hb); replace BK616 := Aside0.mk (blk_below (g := gb616) (o := .cells #[.int .u64 t612, .int .u64 t613] 24 (0, 0)) (by refine pw_ ?_; refine blk_far ?_ NB616_633.out _; refine pw_ ?_; refine blk_far ?_ NB616_633.out _; refine pw_ ?_; exact BK616.out) hb); replace BK622 := Aside0.mk (blk_below (g := gb622) (o := .cells #[.bool t617, .int .u64 t618, .int .u64 t619, .int .i64 t620] 38 (0, 0)) (by refine pw_ ?_; refine blk_far ?_ NB622_633.out _; refine pw_ ?_; refine blk_far ?_ NB622_633.out _; refine pw_ ?_; exact BK622.out) hb); replace BK628 := Aside0.mk (blk_below (g := gb628) (o := .cells #[.bool t623, .int .u64 t624, .int .u64 t625, .int .i64 t626] 38 (0, 0)) (by refine pw_ ?_; refine blk_far ?_ NB628_633.out _; refine pw_ ?_; refine blk_far ?_ NB628_633.out _; refine pw_ ?_; exact BK628.out) hb); replace BK633 := Aside0.mk (blk_below (g := gb633) (o := .cells #[.int .u64 t629, .int .u64 t630] 24 (0, 0)) (by refine pw_ ?_; refine blk_put (cs := #[.int .u64 t629, .int .u64 0]) ?_ 1 _ rfl; refine pw_ ?_; refine blk_put (cs := #[.int .u64 0, .int .u64 0]) ?_ 0 _ rfl; refine pw_ ?_; exact BK633.out) hb); replace HB := bs_ HB hb; (try clear hb); (try clear hb2); (try clear hk); (try clear hi)) | ((with_reducible refine gate_dst (N := 20) rfl ?_); refine bx_ 20 #[.bool false, .int .u64 0, .int .u64 0] 26 ?_; intro gb638 hg w152 hbox hb; have BK638 := Aside0.mk (hbox); have GW638 := gw_ HB hg; have GE638 := gw_ HB hg; have NB604_638 := nl_ BK604 hg; have NB638_604 := ng_ BK604 hg; have NB605_638 := nl_ BK605 hg; have NB638_605 := ng_ BK605 hg; have NB611_638 := nl_ BK611 hg; have NB638_611 := ng_ BK611 hg; have NB616_638 := nl_ BK616 hg; have NB638_616 := ng_ BK616 hg; have NB622_638 := nl_ BK622 hg; have NB638_622 := ng_ BK622 hg; have NB628_638 := nl_ BK628 hg; have NB638_628 := ng_ BK628 hg; have NB633_638 := nl_ BK633 hg; have NB638_633 := ng_ BK633 hg; replace BK604 := bb_ BK604 hb; replace BK605 := bb_ BK605 hb; replace BK611 := bb_ BK611 hb; replace BK616 := bb_ BK616 hb; replace BK622 := bb_ BK622 hb; replace BK628 := bb_ BK628 hb; replace BK633 := bb_ BK633 hb; replace HB := bs_ HB hb; clear hb hbox hg; have hnb153 := NB638_604.out; have hnc153 := NB604_638.out; have hnb154 := NB638_605.out; have hnc154 := NB605_638.out; have hnb155 := NB638_611.out; have hnc155 := NB611_638.out; have hnb156 := NB638_616.out; have hnc156 := NB616_638.out; have hnb157 := NB638_622.out; have hnc157 := NB622_638.out; have hnb158 := NB638_628.out; have hnc158 := NB628_638.out; have hnb159 := NB638_633.out; have hnc159 := NB633_638.out; obtain ⟨hcz160_0, hcz160_1, hcz160_2, hfz160_0, hfz160_1, hfz160_2⟩ := c3_ BK638; obtain ⟨hcz161_0, hcz161_1, hcz161_2, hcz161_3, hfz161_0, hfz161_1, hfz161_2, hfz161_3⟩ := c4_ BK604) | ((with_reducible refine gate_callee (f := 22) rfl ?_); refine gl_ (some 95) Tryz.func22 #[.agg #[.bool a0_0, .int .u64 a0_1, .int .u64 a0_2]] ?_; (with_reducible refine (addr_Width.calls a0_0 a0_1 a0_2 t639 _ A123.out).mono ?_); rintro e w162 ⟨rfl, hb⟩; refine ⟨_, rfl, ?_⟩; replace BK604 := Aside0.mk (blk_below (g := gb604) (o := .cells #[.bool a0_0, .int .u64 a0_1, .int .u64 a0_2, .int .i64 a0_3] 38 (0, 0)) (by refine pw_ ?_; refine blk_far ?_ NB604_638.out _; refine pw_ ?_; refine blk_far ?_ NB604_638.out _; refine pw_ ?_; refine blk_far ?_ NB604_638.out _; refine pw_ ?_; exact BK604.out) hb); replace BK605 := Aside0.mk (blk_below (g := gb605) (o := .cells #[.int .u64 a2_0, .int .u64 a2_1] 24 (0, 0)) (by refine pw_ ?_; refine blk_far ?_ NB605_638.out _; refine pw_ ?_; refine blk_far ?_ NB605_638.out _; refine pw_ ?_; refine blk_far ?_ NB605_638.out _; refine pw_ ?_; exact BK605.out) hb); replace BK611 := Aside0.mk (blk_below (g := gb611) (o := .cells #[.int .u64 t607, .int .u64 t608] 24 (0, 0)) (by refine pw_ ?_; refine blk_far ?_ NB611_638.out _; refine pw_ ?_; refine blk_far ?_ NB611_638.out _; refine pw_ ?_; refine blk_far ?_ NB611_638.out _; refine pw_ ?_; exact BK611.out) hb); replace BK616 := Aside0.mk (blk_below (g := gb616) (o := .cells #[.int .u64 t612, .int .u64 t613] 24 (0, 0)) (by refine pw_ ?_; refine blk_far ?_ NB616_638.out _; refine pw_ ?_; refine blk_far ?_ NB616_638.out _; refine pw_ ?_; refine blk_far ?_ NB616_638.out _; refine pw_ ?_; exact BK616.out) hb); replace BK622 := Aside0.mk (blk_below (g := gb622) (o := .cells #[.bool t617, .int .u64 t618, .int .u64 t619, .int .i64 t620] 38 (0, 0)) (by refine pw_ ?_; refine blk_far ?_ NB622_638.out _; refine pw_ ?_; refine blk_far ?_ NB622_638.out _; refine pw_ ?_; refine blk_far ?_ NB622_638.out _; refine pw_ ?_; exact BK622.out) hb); replace BK628 := Aside0.mk (blk_below (g := gb628) (o := .cells #[.bool t623, .int .u64 t624, .int .u64 t625, .int .i64 t626] 38 (0, 0)) (by refine pw_ ?_; refine blk_far ?_ NB628_638.out _; refine pw_ ?_; refine blk_far ?_ NB628_638.out _; refine pw_ ?_; refine blk_far ?_ NB628_638.out _; refine pw_ ?_; exact BK628.out) hb); replace BK633 := Aside0.mk (blk_below (g := gb633) (o := .cells #[.int .u64 t629, .int .u64 t630] 24 (0, 0)) (by refine pw_ ?_; refine blk_far ?_ NB633_638.out _; refine pw_ ?_; refine blk_far ?_ NB633_638.out _; refine pw_ ?_; refine blk_far ?_ NB633_638.out _; refine pw_ ?_; exact BK633.out) hb); replace BK638 := Aside0.mk (blk_below (g := gb638) (o := .cells #[.bool t634, .int .u64 t635, .int .u64 t636] 26 (0, 0)) (by refine pw_ ?_; refine blk_put (cs := #[.bool t634, .int .u64 t635, .int .u64 0]) ?_ 2 _ rfl; refine pw_ ?_; refine blk_put (cs := #[.bool t634, .int .u64 0, .int .u64 0]) ?_ 1 _ rfl; refine pw_ ?_; refine blk_put (cs := #[.bool false, .int .u64 0, .int .u64 0]) ?_ 0 _ rfl; refine pw_ ?_; exact BK638.out) hb); replace HB := bs_ HB hb; (try clear hb); (try clear hb2); (try clear hk); (try clear hi); obtain ⟨hcz163_0, hcz163_1, hcz163_2, hcz163_3, hfz163_0, hfz163_1, hfz163_2, hfz163_3⟩ := c4_ BK604) | ((with_reducible refine gate_callee (f := 48) rfl ?_); refine gl_ (some 99) Tryz.func48 #[.agg #[.bool a0_0, .int .u64 a0_1, .int .u64 a0_2, .int .i64 a0_3], .int .i64 t639] ?_; (with_reducible refine (platbookref04_Blocks.calls kj9 a0_0 a0_1 a0_2 a0_3 t639 t640 t641 t642 t643 _ A124.out).mono ?_); rintro e w164 ⟨rfl, hb⟩; refine ⟨_, rfl, ?_⟩; replace BK604 := bb_ BK604 hb; replace BK605 := bb_ BK605 hb; replace BK611 := bb_ BK611 hb; replace BK616 := bb_ BK616 hb; replace BK622 := bb_ BK622 hb; replace BK628 := bb_ BK628 hb; replace BK633 := bb_ BK633 hb; replace BK638 := bb_ BK638 hb; replace HB := bs_ HB hb; (try clear hb); (try clear hb2); (try clear hk); (try clear hi)) | ((with_reducible refine gate_dst (N := 23) rfl ?_); refine bx_ 23 #[.int .u64 0, .int .u64 0] 24 ?_; intro gb644 hg w165 hbox hb; have BK644 := Aside0.mk (hbox); have GW644 := gw_ HB hg; have GE644 := gw_ HB hg; have NB604_644 := nl_ BK604 hg; have NB644_604 := ng_ BK604 hg; have NB605_644 := nl_ BK605 hg; have NB644_605 := ng_ BK605 hg; have NB611_644 := nl_ BK611 hg; have NB644_611 := ng_ BK611 hg; have NB616_644 := nl_ BK616 hg; have NB644_616 := ng_ BK616 hg; have NB622_644 := nl_ BK622 hg; have NB644_622 := ng_ BK622 hg; have NB628_644 := nl_ BK628 hg; have NB644_628 := ng_ BK628 hg; have NB633_644 := nl_ BK633 hg; have NB644_633 := ng_ BK633 hg; have NB638_644 := nl_ BK638 hg; have NB644_638 := ng_ BK638 hg; replace BK604 := bb_ BK604 hb; replace BK605 := bb_ BK605 hb; replace BK611 := bb_ BK611 hb; replace BK616 := bb_ BK616 hb; replace BK622 := bb_ BK622 hb; replace BK628 := bb_ BK628 hb; replace BK633 := bb_ BK633 hb; replace BK638 := bb_ BK638 hb; replace HB := bs_ HB hb; clear hb hbox hg; have hnb166 := NB644_604.out; have hnc166 := NB604_644.out; have hnb167 := NB644_605.out; have hnc167 := NB605_644.out; have hnb168 := NB644_611.out; have hnc168 := NB611_644.out; have hnb169 := NB644_616.out; have hnc169 := NB616_644.out; have hnb170 := NB644_622.out; have hnc170 := NB622_644.out; have hnb171 := NB644_628.out; have hnc171 := NB628_644.out; have hnb172 := NB644_633.out; have hnc172 := NB633_644.out; have hnb173 := NB644_638.out; have hnc173 := NB638_644.out; obtain ⟨hcz174_0, hcz174_1, hfz174_0, hfz174_1⟩ := c2_ BK644; obtain ⟨hcz175_0, hcz175_1, hcz175_2, hcz175_3, hfz175_0, hfz175_1, hfz175_2, hfz175_3⟩ := c4_ BK604; obtain ⟨hcz176_0, hcz176_1, hfz176_0, hfz176_1⟩ := c2_ BK605) | ((with_reducible refine gate_callee (f := 50) rfl ?_); refine gl_ (some 107) Tryz.func50 #[.agg #[.bool a0_0, .int .u64 a0_1, .int .u64 a0_2, .int .i64 a0_3], .int .i64 t639, .agg #[.int .u64 a2_0, .int .u64 a2_1]] ?_; (with_reducible refine (platbookref04_Block.calls kj9 a0_0 a0_1 a0_2 a0_3 t639 a2_0 a2_1 t645 t646 t647 t648 t649 _ A125.out).mono ?_); rintro e w177 ⟨rfl, hb⟩; refine ⟨_, rfl, ?_⟩; replace BK604 := Aside0.mk (blk_below (g := gb604) (o := .cells #[.bool a0_0, .int .u64 a0_1, .int .u64 a0_2, .int .i64 a0_3] 38 (0, 0)) (by refine pw_ ?_; refine blk_far ?_ NB604_644.out _; refine pw_ ?_; refine blk_far ?_ NB604_644.out _; refine pw_ ?_; exact BK604.out) hb); replace BK605 := Aside0.mk (blk_below (g := gb605) (o := .cells #[.int .u64 a2_0, .int .u64 a2_1] 24 (0, 0)) (by refine pw_ ?_; refine blk_far ?_ NB605_644.out _; refine pw_ ?_; refine blk_far ?_ NB605_644.out _; refine pw_ ?_; exact BK605.out) hb); replace BK611 := Aside0.mk (blk_below (g := gb611) (o := .cells #[.int .u64 t607, .int .u64 t608] 24 (0, 0)) (by refine pw_ ?_; refine blk_far ?_ NB611_644.out _; refine pw_ ?_; refine blk_far ?_ NB611_644.out _; refine pw_ ?_; exact BK611.out) hb); replace BK616 := Aside0.mk (blk_below (g := gb616) (o := .cells #[.int .u64 t612, .int .u64 t613] 24 (0, 0)) (by refine pw_ ?_; refine blk_far ?_ NB616_644.out _; refine pw_ ?_; refine blk_far ?_ NB616_644.out _; refine pw_ ?_; exact BK616.out) hb); replace BK622 := Aside0.mk (blk_below (g := gb622) (o := .cells #[.bool t617, .int .u64 t618, .int .u64 t619, .int .i64 t620] 38 (0, 0)) (by refine pw_ ?_; refine blk_far ?_ NB622_644.out _; refine pw_ ?_; refine blk_far ?_ NB622_644.out _; refine pw_ ?_; exact BK622.out) hb); replace BK628 := Aside0.mk (blk_below (g := gb628) (o := .cells #[.bool t623, .int .u64 t624, .int .u64 t625, .int .i64 t626] 38 (0, 0)) (by refine pw_ ?_; refine blk_far ?_ NB628_644.out _; refine pw_ ?_; refine blk_far ?_ NB628_644.out _; refine pw_ ?_; exact BK628.out) hb); replace BK633 := Aside0.mk (blk_below (g := gb633) (o := .cells #[.int .u64 t629, .int .u64 t630] 24 (0, 0)) (by refine pw_ ?_; refine blk_far ?_ NB633_644.out _; refine pw_ ?_; refine blk_far ?_ NB633_644.out _; refine pw_ ?_; exact BK633.out) hb); replace BK638 := Aside0.mk (blk_below (g := gb638) (o := .cells #[.bool t634, .int .u64 t635, .int .u64 t636] 26 (0, 0)) (by refine pw_ ?_; refine blk_far ?_ NB638_644.out _; refine pw_ ?_; refine blk_far ?_ NB638_644.out _; refine pw_ ?_; exact BK638.out) hb); replace BK644 := Aside0.mk (blk_below (g := gb644) (o := .cells #[.int .u64 t640, .int .u64 t641] 24 (0, 0)) (by refine pw_ ?_; refine blk_put (cs := #[.int .u64 t640, .int .u64 0]) ?_ 1 _ rfl; refine pw_ ?_; refine blk_put (cs := #[.int .u64 0, .int .u64 0]) ?_ 0 _ rfl; refine pw_ ?_; exact BK644.out) hb); replace HB := bs_ HB hb; (try clear hb); (try clear hb2); (try clear hk); (try clear hi)) | ((with_reducible refine gate_dst (N := 26) rfl ?_); refine bx_ 26 #[.bool false, .int .u64 0, .int .u64 0, .int .i64 0] 38 ?_; intro gb650 hg w178 hbox hb; have BK650 := Aside0.mk (hbox); have GW650 := gw_ HB hg; have GE650 := gw_ HB hg; have NB604_650 := nl_ BK604 hg; have NB650_604 := ng_ BK604 hg; have NB605_650 := nl_ BK605 hg; have NB650_605 := ng_ BK605 hg; have NB611_650 := nl_ BK611 hg; have NB650_611 := ng_ BK611 hg; have NB616_650 := nl_ BK616 hg; have NB650_616 := ng_ BK616 hg; have NB622_650 := nl_ BK622 hg; have NB650_622 := ng_ BK622 hg; have NB628_650 := nl_ BK628 hg; have NB650_628 := ng_ BK628 hg; have NB633_650 := nl_ BK633 hg; have NB650_633 := ng_ BK633 hg; have NB638_650 := nl_ BK638 hg; have NB650_638 := ng_ BK638 hg; have NB644_650 := nl_ BK644 hg; have NB650_644 := ng_ BK644 hg; replace BK604 := bb_ BK604 hb; replace BK605 := bb_ BK605 hb; replace BK611 := bb_ BK611 hb; replace BK616 := bb_ BK616 hb; replace BK622 := bb_ BK622 hb; replace BK628 := bb_ BK628 hb; replace BK633 := bb_ BK633 hb; replace BK638 := bb_ BK638 hb; replace BK644 := bb_ BK644 hb; replace HB := bs_ HB hb; clear hb hbox hg; have hnb179 := NB650_604.out; have hnc179 := NB604_650.out; have hnb180 := NB650_605.out; have hnc180 := NB605_650.out; have hnb181 := NB650_611.out; have hnc181 := NB611_650.out; have hnb182 := NB650_616.out; have hnc182 := NB616_650.out; have hnb183 := NB650_622.out; have hnc183 := NB622_650.out; have hnb184 := NB650_628.out; have hnc184 := NB628_650.out; have hnb185 := NB650_633.out; have hnc185 := NB633_650.out; have hnb186 := NB650_638.out; have hnc186 := NB638_650.out; have hnb187 := NB650_644.out; have hnc187 := NB644_650.out; obtain ⟨hcz188_0, hcz188_1, hcz188_2, hcz188_3, hfz188_0, hfz188_1, hfz188_2, hfz188_3⟩ := c4_ BK650; obtain ⟨hcz189_0, hcz189_1, hfz189_0, hfz189_1⟩ := c2_ BK633; obtain ⟨hcz190_0, hcz190_1, hfz190_0, hfz190_1⟩ := c2_ BK644; obtain ⟨hcz191_0, hcz191_1, hcz191_2, hfz191_0, hfz191_1, hfz191_2⟩ := c3_ BK638))
         go_ret
         exact ⟨by first | rfl | (simp [errW_none, errW_some] <;> rfl) | (simp [*, errW_none, errW_some] <;> rfl), pb_ HB⟩
        ·
         rw [if_neg c129] at H
         have c129b0 : (t634 == t645 && ((t635 == t646 && (t636 == t647)))) = false := by simpa using c129
         (try (have c129b1 : decide (t634 = t645 && ((t635 == t646 && (t636 == t647)))) = false := by simpa using c129))
         (try (have c129b2 : (t634 == t645 && ((t635 == t646 && (t636 == t647)))) = false := by simpa using c129))
         (try (have c129b3 : ¬ (t634 = t645 && ((t635 == t646 && (t636 == t647)))) := by simpa using c129))
         clear c129
         obtain rfl := Option.some.inj H
         exact absurd HRT.out (by decide)
       ·
        rw [if_neg c128] at H
        have c128b0 : (t632 == t643) = false := beq_eq_false_iff_ne.mpr c128
        have c128b1 : (t632 != t643) = true := bne_iff_ne.mpr c128
        obtain rfl := Option.some.inj H
        exact absurd HRT.out (by decide)
      ·
       rw [if_neg c127] at H
       have c127b0 : (t631 == t642) = false := by simpa using c127
       (try (have c127b1 : decide (t631 = t642) = false := by simpa using c127))
       (try (have c127b2 : (t631 == t642) = false := by simpa using c127))
       (try (have c127b3 : ¬ (t631 = t642) := by simpa using c127))
       clear c127
       obtain rfl := Option.some.inj H
       exact absurd HRT.out (by decide)
     ·
      rw [if_neg c126] at H
      have c126b0 : (t629 == t640 && (t630 == t641)) = false := by simpa using c126
      (try (have c126b1 : decide (t629 = t640 && (t630 == t641)) = false := by simpa using c126))
      (try (have c126b2 : (t629 == t640 && (t630 == t641)) = false := by simpa using c126))
      (try (have c126b3 : ¬ (t629 = t640 && (t630 == t641)) := by simpa using c126))
      clear c126
      obtain rfl := Option.some.inj H
      exact absurd HRT.out (by decide)
 ·
  replace c5 := Bool.eq_false_iff.mpr c5
  subst c5
  have H1 : (some false) = some r := by rw [if_neg (show ¬ (false = true) by decide)] at H; exact H
  clear H
  have H := H1
  clear H1
  obtain rfl := Option.some.inj H
  exact absurd HRT.out (by decide)

end Go.Proofs.YtgdgklibilddgaaGreatDoor.PPr

namespace Go.Proofs.YtgdgklibilddgaaGreatDoor.PPr
open Go.RowKit Go.Proofs.YtgdgklibilddgaaGreatDoorW.PrintWords Go.Proofs.YtgdgklibilddgaaGreatDoorW.PrintLast Go.Proofs.YtgdgklibilddgaaGreatDoorW.PrintMore
attribute [local go_sem] max2_int min2_int max_two min_two max_three min_three max_four min_four   -- for this text's walks alone

end Go.Proofs.YtgdgklibilddgaaGreatDoor.PPr

namespace Go.Proofs.YtgdgklibilddgaaGreatDoor.PPr
open Go.RowKit Go.Proofs.YtgdgklibilddgaaGreatDoorW.PrintWords Go.Proofs.YtgdgklibilddgaaGreatDoorW.PrintLast Go.Proofs.YtgdgklibilddgaaGreatDoorW.PrintMore
attribute [local go_sem] max2_int min2_int max_two min_two max_three min_three max_four min_four   -- for this text's walks alone

end Go.Proofs.YtgdgklibilddgaaGreatDoor.PPr

namespace Go.Proofs.YtgdgklibilddgaaGreatDoor.PPr
open Go.RowKit Go.Proofs.YtgdgklibilddgaaGreatDoorW.PrintWords Go.Proofs.YtgdgklibilddgaaGreatDoorW.PrintLast Go.Proofs.YtgdgklibilddgaaGreatDoorW.PrintMore
attribute [local go_sem] max2_int min2_int max_two min_two max_three min_three max_four min_four   -- for this text's walks alone

attribute [local go_sem high] eqA26 eqA38
end Go.Proofs.YtgdgklibilddgaaGreatDoor.PPr

namespace Go.Proofs.YtgdgklibilddgaaGreatDoor.PPr
open Go.RowKit Go.Proofs.YtgdgklibilddgaaGreatDoorW.PrintWords Go.Proofs.YtgdgklibilddgaaGreatDoorW.PrintLast Go.Proofs.YtgdgklibilddgaaGreatDoorW.PrintMore
attribute [local go_sem] max2_int min2_int max_two min_two max_three min_three max_four min_four   -- for this text's walks alone

attribute [local go_sem high] eqA26 eqA38
end Go.Proofs.YtgdgklibilddgaaGreatDoor.PPr

namespace Go.Proofs.YtgdgklibilddgaaGreatDoor
open Go.RowKit Go.Proofs.YtgdgklibilddgaaGreatDoorW.PrintWords Go.Proofs.YtgdgklibilddgaaGreatDoor.PPr

/-- the lowest d bits, the lowest one first -/
def rowL : Nat → Nat → List Int
  | _, 0 => []
  | x, d + 1 => ((x % 2 : Nat) : Int) :: rowL (x / 2) d
theorem rowL_succ (x d : Nat) : rowL x (d + 1) = ((x % 2 : Nat) : Int) :: rowL (x / 2) d := rfl
theorem bit_nat {b : Int} (h : b = 0 ∨ b = 1) : ∃ c : Nat, b = (c : Int) ∧ c ≤ 1 := by
  rcases h with rfl | rfl
  · exact ⟨0, rfl, by omega⟩
  · exact ⟨1, rfl, by omega⟩
theorem rowL_len : ∀ (d x : Nat), (rowL x d).length = d
  | 0, _ => rfl
  | d + 1, x => by simp [rowL, rowL_len d]
theorem rowL_add : ∀ (a b x : Nat), rowL x (a + b) = rowL x a ++ rowL (x / 2 ^ a) b
  | 0, b, x => by simp [rowL]
  | a + 1, b, x => by
    rw [show a + 1 + b = (a + b) + 1 by omega, rowL, rowL_add a b, rowL, List.cons_append, Nat.div_div_eq_div_mul, Nat.pow_succ, Nat.mul_comm 2]
theorem rowL_mod : ∀ (a h l : Nat), rowL (h * 2 ^ a + l) a = rowL l a
  | 0, _, _ => rfl
  | a + 1, h, l => by
    have e : h * 2 ^ (a + 1) = 2 * (h * 2 ^ a) := by rw [Nat.pow_succ]; rw [← Nat.mul_assoc, Nat.mul_comm 2]
    rw [rowL, rowL, show (h * 2 ^ (a + 1) + l) % 2 = l % 2 by omega, show (h * 2 ^ (a + 1) + l) / 2 = h * 2 ^ a + l / 2 by omega, rowL_mod a h]
theorem rowL_join {a b h l : Nat} (hl : l < 2 ^ a) : rowL (h * 2 ^ a + l) (a + b) = rowL l a ++ rowL h b := by
  rw [rowL_add, rowL_mod]
  congr 2
  rw [Nat.mul_comm, Nat.mul_add_div (Nat.two_pow_pos a), Nat.div_eq_of_lt hl, Nat.add_zero]
theorem rowL_bit : ∀ (d x : Nat), ∀ b ∈ rowL x d, b = 0 ∨ b = 1
  | 0, _, b, h => by cases h
  | d + 1, x, b, h => by
    rw [rowL] at h
    rcases List.mem_cons.1 h with rfl | h
    · omega
    · exact rowL_bit d (x / 2) b h
theorem tmod2 (x : Nat) : wrap64 (Int.tmod (x : Int) 2) = ((x % 2 : Nat) : Int) := by
  rw [Int.tmod_eq_emod_of_nonneg (by omega)]; unfold wrap64; omega
theorem tdiv2 (x : Nat) (h : x < 18446744073709551616) : IntKind.u64.wrap (Int.tdiv (x : Int) 2) = ((x / 2 : Nat) : Int) := by
  rw [Int.tdiv_eq_ediv_of_nonneg (by omega)]
  show ((x : Int) / 2) % 18446744073709551616 = _
  omega
theorem w64 {i : Int} (h0 : -9223372036854775808 ≤ i) (h : i < 9223372036854775808) : wrap64 i = i := by unfold wrap64; omega
theorem pbits_l1 (d : Nat) : ∀ (k : Nat) (acc : List Int) (x : Nat), d ≤ 64 → x < 18446744073709551616 → acc.length + d ≤ 1000 → platbookref01_Bits.l1 (k + d + 1) acc x (64 - (d : Int)) = some (acc ++ rowL x d) := by
  induction d with
  | zero => intro k acc x _ _ _; rw [platbookref01_Bits.l1, if_neg (by omega)]; simp [rowL]
  | succ d ih =>
    intro k acc x hd hx ha
    rw [show k + (d + 1) + 1 = (k + d + 1) + 1 by omega, platbookref01_Bits.l1, if_pos (by omega), if_pos (by omega), tmod2, tdiv2 x hx, w64 (by omega) (by omega), show (64 : Int) - ((d + 1 : Nat) : Int) + 1 = 64 - (d : Int) by omega, ih k _ (x / 2) (by omega) (by omega) (by simp; omega), rowL_succ x d]
    simp
theorem pbits_l0 (d : Nat) : ∀ (k : Nat) (acc : List Int) (x h : Nat), d ≤ 64 → x < 18446744073709551616 → h < 18446744073709551616 → acc.length + d + 64 ≤ 1000 → platbookref01_Bits.l0 (k + d + 66) acc x h (64 - (d : Int)) = some (acc ++ rowL x d ++ rowL h 64) := by
  induction d with
  | zero =>
    intro k acc x h _ _ hh ha
    rw [show k + 0 + 66 = (k + 64 + 1) + 1 by omega, platbookref01_Bits.l0, if_neg (by omega)]
    have := pbits_l1 64 k acc h (by omega) hh (by omega)
    rw [show (64 : Int) - ((64 : Nat) : Int) = 0 by omega] at this
    rw [this]; simp [rowL]
  | succ d ih =>
    intro k acc x h hd hx hh ha
    rw [show k + (d + 1) + 66 = (k + d + 66) + 1 by omega, platbookref01_Bits.l0, if_pos (by omega), if_pos (by omega), tmod2, tdiv2 x hx, w64 (by omega) (by omega), show (64 : Int) - ((d + 1 : Nat) : Int) + 1 = 64 - (d : Int) by omega, ih k _ (x / 2) h (by omega) (by omega) hh (by simp; omega), rowL_succ x d]
    simp
theorem pbits_f (k n : Nat) (hn : n < 340282366920938463463374607431768211456) : platbookref01_Bits.f (k + 130) (hi n) (lo n) = some (rowL n 128) := by
  unfold platbookref01_Bits.f hi lo
  have := pbits_l0 64 k [] (n % 18446744073709551616) (n / 18446744073709551616 % 18446744073709551616) (by omega) (by omega) (by omega) (by simp)
  rw [show (64 : Int) - ((64 : Nat) : Int) = 0 by omega] at this
  rw [show k + 130 = k + 64 + 66 by omega, this]
  have e := rowL_join (a := 64) (b := 64) (h := n / 18446744073709551616 % 18446744073709551616) (l := n % 18446744073709551616) (Nat.mod_lt _ (by decide))
  rw [show (2 : Nat) ^ 64 = 18446744073709551616 by decide, show n / 18446744073709551616 % 18446744073709551616 * 18446744073709551616 + n % 18446744073709551616 = n by omega] at e
  rw [List.nil_append, ← e]
/-- an address's bits, the highest one first -/
def rowT (n w : Nat) : List Int := (rowL n w).reverse
theorem prow_l0 (j : Nat) : ∀ (k : Nat) (xs acc : List Int), j ≤ xs.length → xs.length ≤ 1000 → acc.length + j ≤ 1000 → platbookref03_Row.l0 (k + j + 1) xs acc ((j : Int) - 1) = some (acc ++ (xs.take j).reverse) := by
  induction j with
  | zero => intro k xs acc _ _ _; rw [platbookref03_Row.l0, if_neg (by omega)]; simp
  | succ j ih =>
    intro k xs acc hj hx ha
    have e : rd xs (((j + 1 : Nat) : Int) - 1) = xs[j] := by
      unfold rd; rw [show ((((j + 1 : Nat) : Int) - 1)).toNat = j by omega]; simp [List.getD, List.getElem?_eq_getElem (show j < xs.length by omega)]
    rw [show k + (j + 1) + 1 = (k + j + 1) + 1 by omega, platbookref03_Row.l0, if_pos (by omega), if_pos (by omega), if_pos (by omega), if_pos (by omega), w64 (by omega) (by omega), e, show ((j + 1 : Nat) : Int) - 1 - 1 = (j : Int) - 1 by omega, ih k xs _ (by omega) hx (by simp; omega), List.take_succ_eq_append_getElem (show j < xs.length by omega), List.reverse_append]
    simp
theorem width_hl (v : Bool) (n : Nat) : platbookref02_Width.f v (hi n) (lo n) = some ((widthN v : Nat) : Int) := by
  unfold platbookref02_Width.f; rw [if_pos (by simpa using okW_hl n)]
theorem widthN_le (v : Bool) : widthN v ≤ 128 := by cases v <;> decide
theorem widthN_pos (v : Bool) : 32 ≤ widthN v := by cases v <;> decide
theorem prow_f (k : Nat) (v : Bool) (n : Nat) (hn : n < 340282366920938463463374607431768211456) : platbookref03_Row.f (k + 300) v (hi n) (lo n) = some (rowT n (widthN v)) := by
  unfold platbookref03_Row.f
  rw [show k + 300 = (k + 170) + 130 by omega, pbits_f _ n hn, width_hl]
  simp only [Option.bind_some]
  have hw := widthN_le v
  have hp := widthN_pos v
  rw [w64 (by omega) (by omega), show k + 170 + 130 = (k + 299 - widthN v) + widthN v + 1 by omega, prow_l0 _ _ _ _ (by rw [rowL_len]; exact hw) (by rw [rowL_len]; omega) (by simp; omega)]
  have e : rowL n 128 = rowL n (widthN v) ++ rowL (n / 2 ^ widthN v) (128 - widthN v) := by rw [← rowL_add]; congr 1; omega
  rw [e, List.take_left' (rowL_len _ _)]; rfl
/-- the number of a row of bits, the lowest one first -/
def valL : List Int → Nat
  | [] => 0
  | b :: r => b.toNat + 2 * valL r
theorem valL_append : ∀ (a b : List Int), valL (a ++ b) = valL a + 2 ^ a.length * valL b
  | [], b => by simp [valL]
  | x :: a, b => by rw [List.cons_append, valL, valL, valL_append a b, List.length_cons, Nat.pow_succ, Nat.mul_add]; rw [Nat.mul_comm (2 ^ a.length) 2, Nat.mul_assoc]; omega
theorem valL_lt : ∀ (a : List Int), (∀ b ∈ a, b = 0 ∨ b = 1) → valL a < 2 ^ a.length
  | [], _ => by simp [valL]
  | x :: a, h => by
    have h1 := valL_lt a (fun b hb => h b (by simp [hb]))
    have h2 := h x (by simp)
    rw [valL, List.length_cons, Nat.pow_succ]
    rcases h2 with rfl | rfl
    · simp; omega
    · simp; omega
theorem valL_row : ∀ (d x : Nat), valL (rowL x d) = x % 2 ^ d
  | 0, x => by simp [rowL, valL, Nat.mod_one]
  | d + 1, x => by
    rw [rowL, valL, valL_row d, Nat.pow_succ, Nat.mul_comm (2 ^ d) 2, Nat.mod_mul]
    omega
theorem valL_rep (d : Nat) : valL (List.replicate d 0) = 0 := by
  induction d with
  | zero => rfl
  | succ d ih => rw [List.replicate_succ, valL, ih]; rfl
theorem valL_ones (d : Nat) : valL (List.replicate d 1) = 2 ^ d - 1 := by
  induction d with
  | zero => rfl
  | succ d ih => rw [List.replicate_succ, valL, ih, Nat.pow_succ]; have := Nat.two_pow_pos d; simp; omega
theorem u64w {x : Nat} (h : x < 18446744073709551616) : IntKind.u64.wrap (x : Int) = (x : Int) := by show (x : Int) % 18446744073709551616 = _; omega
theorem pnum_l1 (j : Nat) : ∀ (k : Nat) (L : List Int) (H x : Nat), (∀ b ∈ L, b = 0 ∨ b = 1) → L.length ≤ 1000 → j ≤ 1000 → x * 2 ^ j + valL (L.take j) < 18446744073709551616 → platbookref01_Num.l1 (k + j + 1) L ((j : Int) - 1) H x = some ((H : Int), ((x * 2 ^ j + valL (L.take j) : Nat) : Int)) := by
  induction j with
  | zero => intro k L H x _ _ _ _; rw [platbookref01_Num.l1, if_neg (by omega)]; simp [valL]
  | succ j ih =>
    intro k L H x hb hl hj hx
    have hp : 2 ^ (j + 1) = 2 * 2 ^ j := by rw [Nat.pow_succ]; omega
    have hp0 := Nat.two_pow_pos j
    rw [show k + (j + 1) + 1 = (k + j + 1) + 1 by omega, platbookref01_Num.l1, if_pos (by omega)]
    by_cases h : j < L.length
    · have e : L.take (j + 1) = L.take j ++ [L[j]] := List.take_succ_eq_append_getElem h
      have hbj : L[j] = 0 ∨ L[j] = 1 := hb _ (List.getElem_mem h)
      obtain ⟨c, hc, hc2⟩ : ∃ c : Nat, L[j] = (c : Int) ∧ c ≤ 1 := by exact bit_nat hbj
      have er : rd L (((j + 1 : Nat) : Int) - 1) = (c : Int) := by
        unfold rd; rw [show ((((j + 1 : Nat) : Int) - 1)).toNat = j by omega]; simp [List.getD, List.getElem?_eq_getElem h, hc]
      have ev : valL (L.take (j + 1)) = valL (L.take j) + 2 ^ j * c := by
        rw [e, valL_append, List.length_take, Nat.min_eq_left (by omega), hc]; simp [valL]
      have e2 : x * 2 ^ (j + 1) + valL (L.take (j + 1)) = (2 * x + c) * 2 ^ j + valL (L.take j) := by
        rw [ev, hp, Nat.add_mul, Nat.mul_comm (2 ^ j) c, ← Nat.mul_assoc, Nat.mul_comm x 2]; omega
      rw [e2] at hx ⊢
      have hx2 : (2 * x + c) * 1 ≤ (2 * x + c) * 2 ^ j := Nat.mul_le_mul_left _ hp0
      rw [if_pos (by omega), if_pos (by omega), er, w64 (by omega) (by omega), show ((x : Int) * 2) = ((2 * x : Nat) : Int) by omega, u64w (x := 2 * x) (by omega), u64w (x := c) (by omega), show ((2 * x : Nat) : Int) + (c : Int) = ((2 * x + c : Nat) : Int) by omega, u64w (by omega), show ((j + 1 : Nat) : Int) - 1 - 1 = (j : Int) - 1 by omega]
      exact ih k L H (2 * x + c) hb hl (by omega) hx
    · have e : L.take (j + 1) = L.take j := by rw [List.take_of_length_le (by omega), List.take_of_length_le (by omega)]
      have e2 : x * 2 ^ (j + 1) + valL (L.take (j + 1)) = (2 * x) * 2 ^ j + valL (L.take j) := by
        rw [e, hp, ← Nat.mul_assoc, Nat.mul_comm x 2]
      rw [e2] at hx ⊢
      have hx2 : (2 * x) * 1 ≤ (2 * x) * 2 ^ j := Nat.mul_le_mul_left _ hp0
      rw [if_neg (by omega), w64 (by omega) (by omega), show ((x : Int) * 2) = ((2 * x : Nat) : Int) by omega, u64w (by omega), show ((j + 1 : Nat) : Int) - 1 - 1 = (j : Int) - 1 by omega]
      exact ih k L H (2 * x) hb hl (by omega) hx
theorem pnum_l0 (j : Nat) : ∀ (k : Nat) (L : List Int) (x : Nat), (∀ b ∈ L, b = 0 ∨ b = 1) → L.length ≤ 1000 → j ≤ 64 → x * 2 ^ j + valL ((L.drop 64).take j) < 18446744073709551616 → platbookref01_Num.l0 (k + j + 66) L (64 + (j : Int) - 1) x 0 = some (((x * 2 ^ j + valL ((L.drop 64).take j) : Nat) : Int), ((valL (L.take 64) : Nat) : Int)) := by
  induction j with
  | zero =>
    intro k L x hb hl _ _
    rw [show k + 0 + 66 = (k + 64 + 1) + 1 by omega, platbookref01_Num.l0, if_neg (by omega)]
    have hv : valL (L.take 64) < 2 ^ 64 := Nat.lt_of_lt_of_le (valL_lt _ (fun b h => hb b (List.mem_of_mem_take h))) (Nat.pow_le_pow_right (by omega) (by rw [List.length_take]; omega))
    have := pnum_l1 64 k L x 0 hb hl (by omega) (by rw [Nat.zero_mul, Nat.zero_add]; exact hv)
    rw [show ((64 : Nat) : Int) - 1 = 63 by omega, show k + 64 + 1 = k + 65 from rfl, show ((0 : Nat) : Int) = 0 from rfl] at this
    rw [this]; simp [valL]
  | succ j ih =>
    intro k L x hb hl hj hx
    have hp : 2 ^ (j + 1) = 2 * 2 ^ j := by rw [Nat.pow_succ]; omega
    have hp0 := Nat.two_pow_pos j
    rw [show k + (j + 1) + 66 = (k + j + 66) + 1 by omega, platbookref01_Num.l0, if_pos (by omega)]
    by_cases h : 64 + j < L.length
    · have hd : j < (L.drop 64).length := by rw [List.length_drop]; omega
      have e : (L.drop 64).take (j + 1) = (L.drop 64).take j ++ [L[64 + j]] := by rw [List.take_succ_eq_append_getElem hd, List.getElem_drop]
      have hbj : L[64 + j] = 0 ∨ L[64 + j] = 1 := hb _ (List.getElem_mem h)
      obtain ⟨c, hc, hc2⟩ : ∃ c : Nat, L[64 + j] = (c : Int) ∧ c ≤ 1 := by exact bit_nat hbj
      have er : rd L (64 + ((j + 1 : Nat) : Int) - 1) = (c : Int) := by
        unfold rd; rw [show (64 + ((j + 1 : Nat) : Int) - 1).toNat = 64 + j by omega]; simp [List.getD, List.getElem?_eq_getElem h, hc]
      have ev : valL ((L.drop 64).take (j + 1)) = valL ((L.drop 64).take j) + 2 ^ j * c := by
        rw [e, valL_append, List.length_take, Nat.min_eq_left (by omega), hc]; simp [valL]
      have e2 : x * 2 ^ (j + 1) + valL ((L.drop 64).take (j + 1)) = (2 * x + c) * 2 ^ j + valL ((L.drop 64).take j) := by
        rw [ev, hp, Nat.add_mul, Nat.mul_comm (2 ^ j) c, ← Nat.mul_assoc, Nat.mul_comm x 2]; omega
      rw [e2] at hx ⊢
      have hx2 : (2 * x + c) * 1 ≤ (2 * x + c) * 2 ^ j := Nat.mul_le_mul_left _ hp0
      rw [if_pos (by omega), if_pos (by omega), er, w64 (by omega) (by omega), show ((x : Int) * 2) = ((2 * x : Nat) : Int) by omega, u64w (x := 2 * x) (by omega), u64w (x := c) (by omega), show ((2 * x : Nat) : Int) + (c : Int) = ((2 * x + c : Nat) : Int) by omega, u64w (by omega), show 64 + ((j + 1 : Nat) : Int) - 1 - 1 = 64 + (j : Int) - 1 by omega]
      exact ih k L (2 * x + c) hb hl (by omega) hx
    · have hd : (L.drop 64).length ≤ j := by rw [List.length_drop]; omega
      have e : (L.drop 64).take (j + 1) = (L.drop 64).take j := by rw [List.take_of_length_le (by omega), List.take_of_length_le (by omega)]
      have e2 : x * 2 ^ (j + 1) + valL ((L.drop 64).take (j + 1)) = (2 * x) * 2 ^ j + valL ((L.drop 64).take j) := by
        rw [e, hp, ← Nat.mul_assoc, Nat.mul_comm x 2]
      rw [e2] at hx ⊢
      have hx2 : (2 * x) * 1 ≤ (2 * x) * 2 ^ j := Nat.mul_le_mul_left _ hp0
      rw [if_neg (by omega), w64 (by omega) (by omega), show ((x : Int) * 2) = ((2 * x : Nat) : Int) by omega, u64w (by omega), show 64 + ((j + 1 : Nat) : Int) - 1 - 1 = 64 + (j : Int) - 1 by omega]
      exact ih k L (2 * x) hb hl (by omega) hx
theorem pnum_f (k : Nat) (L : List Int) (hb : ∀ b ∈ L, b = 0 ∨ b = 1) (hl : L.length ≤ 128) : platbookref01_Num.f (k + 130) L = some (hi (valL L), lo (valL L)) := by
  unfold platbookref01_Num.f
  have hbd : ∀ b ∈ L.drop 64, b = 0 ∨ b = 1 := fun b h => hb b (List.mem_of_mem_drop h)
  have hv : valL (L.drop 64) < 2 ^ 64 := Nat.lt_of_lt_of_le (valL_lt _ hbd) (Nat.pow_le_pow_right (by omega) (by rw [List.length_drop]; omega))
  have ht : (L.drop 64).take 64 = L.drop 64 := List.take_of_length_le (by rw [List.length_drop]; omega)
  have := pnum_l0 64 k L 0 hb (by omega) (by omega) (by rw [Nat.zero_mul, Nat.zero_add, ht]; exact hv)
  rw [show (64 : Int) + ((64 : Nat) : Int) - 1 = 127 by omega, Nat.zero_mul, Nat.zero_add, ht] at this
  rw [show k + 130 = k + 64 + 66 by omega]
  rw [show ((0 : Nat) : Int) = 0 from rfl] at this
  rw [this]
  have hlo : valL (L.take 64) < 2 ^ 64 := Nat.lt_of_lt_of_le (valL_lt _ (fun b h => hb b (List.mem_of_mem_take h))) (Nat.pow_le_pow_right (by omega) (by rw [List.length_take]; omega))
  have e : valL L = valL (L.take 64) + 2 ^ (L.take 64).length * valL (L.drop 64) := by rw [← valL_append, List.take_append_drop]
  have e2 : valL L = valL (L.take 64) + 18446744073709551616 * valL (L.drop 64) := by
    by_cases h : 64 ≤ L.length
    · rw [e, List.length_take, Nat.min_eq_left h]
    · have : L.drop 64 = [] := List.drop_eq_nil_of_le (by omega)
      rw [e, this]; simp [valL]
  rw [show (2 : Nat) ^ 64 = 18446744073709551616 by decide] at hv hlo
  unfold hi lo
  rw [show valL L / 18446744073709551616 % 18446744073709551616 = valL (L.drop 64) by omega, show valL L % 18446744073709551616 = valL (L.take 64) by omega]
theorem paddr_l0 (j : Nat) : ∀ (k : Nat) (v : Bool) (xs acc : List Int), j ≤ xs.length → xs.length ≤ 128 → acc.length + j ≤ 128 → (∀ b ∈ xs, b = 0 ∨ b = 1) → (∀ b ∈ acc, b = 0 ∨ b = 1) → platbookref03_Addr.l0 (k + j + 131) v xs acc ((j : Int) - 1) = some (v, hi (valL (acc ++ (xs.take j).reverse)), lo (valL (acc ++ (xs.take j).reverse))) := by
  induction j with
  | zero =>
    intro k v xs acc _ _ ha hb1 hb2
    rw [show k + 0 + 131 = (k + 130) + 1 by omega, platbookref03_Addr.l0, if_neg (by omega), pnum_f k acc hb2 (by omega)]
    simp
  | succ j ih =>
    intro k v xs acc hj hx ha hb1 hb2
    have e : rd xs (((j + 1 : Nat) : Int) - 1) = xs[j] := by
      unfold rd; rw [show ((((j + 1 : Nat) : Int) - 1)).toNat = j by omega]; simp [List.getD, List.getElem?_eq_getElem (show j < xs.length by omega)]
    rw [show k + (j + 1) + 131 = (k + j + 131) + 1 by omega, platbookref03_Addr.l0, if_pos (by omega), if_pos (by omega), if_pos (by omega), if_pos (by omega), w64 (by omega) (by omega), e, show ((j + 1 : Nat) : Int) - 1 - 1 = (j : Int) - 1 by omega, ih k v xs _ (by omega) hx (by simp; omega) hb1 (by
      intro b h
      rcases List.mem_append.1 h with h | h
      · exact hb2 b h
      · rw [List.mem_singleton] at h; subst h; exact hb1 _ (List.getElem_mem _)), List.take_succ_eq_append_getElem (show j < xs.length by omega), List.reverse_append]
    simp
theorem paddr_f (k : Nat) (v : Bool) (xs : List Int) (hx : xs.length ≤ 128) (hb : ∀ b ∈ xs, b = 0 ∨ b = 1) : platbookref03_Addr.f (k + 300) v xs = some (v, hi (valL xs.reverse), lo (valL xs.reverse)) := by
  unfold platbookref03_Addr.f
  rw [w64 (by omega) (by omega), show k + 300 = (k + 169 - xs.length) + xs.length + 131 by omega, paddr_l0 _ _ _ _ _ (Nat.le_refl _) hx (by simpa using hx) hb (by simp)]
  simp
theorem pfilled_l0 (d : Nat) : ∀ (k i : Nat) (bit : Int) (xs : List Int) (v : Bool) (h l : Int), i + d = xs.length → xs.length ≤ 128 → (∀ b ∈ xs, b = 0 ∨ b = 1) → (bit = 0 ∨ bit = 1) → platbookref03_Filled.l0 (k + d + 301) bit xs i v h l = some (v, hi (valL (xs.take i ++ List.replicate d bit).reverse), lo (valL (xs.take i ++ List.replicate d bit).reverse)) := by
  induction d with
  | zero =>
    intro k i bit xs v h l hi hx hb _
    rw [show k + 0 + 301 = (k + 300) + 1 by omega, platbookref03_Filled.l0, if_neg (by omega), paddr_f k v xs hx hb, List.take_of_length_le (by omega)]
    simp
  | succ d ih =>
    intro k i bit xs v h l hi hx hb hbit
    rw [show k + (d + 1) + 301 = (k + d + 301) + 1 by omega, platbookref03_Filled.l0, if_pos (by omega), if_pos (by omega), w64 (by omega) (by omega), show ((i : Int)).toNat = i by omega, show (i : Int) + 1 = ((i + 1 : Nat) : Int) by omega, ih k (i + 1) bit (xs.set i bit) v h l (by rw [List.length_set]; omega) (by rw [List.length_set]; omega) (by
      intro b h
      rcases List.mem_or_eq_of_mem_set h with h | rfl
      · exact hb b h
      · exact hbit) hbit]
    have e : (xs.set i bit).take (i + 1) = xs.take i ++ [bit] := by
      rw [List.take_succ_eq_append_getElem (by rw [List.length_set]; omega), List.getElem_set_self, List.take_set_of_le (Nat.le_refl _)]
    rw [e, List.append_assoc, List.replicate_succ]; rfl
theorem rowT_len (n w : Nat) : (rowT n w).length = w := by unfold rowT; rw [List.length_reverse, rowL_len]
theorem pfilled_f (k : Nat) (v : Bool) (n : Nat) (i : Nat) (bit : Int) (hn : n < 340282366920938463463374607431768211456) (hi' : i ≤ widthN v) (hbit : bit = 0 ∨ bit = 1) : platbookref03_Filled.f (k + 500) v (hi n) (lo n) i bit = some (v, hi (n / 2 ^ (widthN v - i) % 2 ^ i * 2 ^ (widthN v - i) + bit.toNat * (2 ^ (widthN v - i) - 1)), lo (n / 2 ^ (widthN v - i) % 2 ^ i * 2 ^ (widthN v - i) + bit.toNat * (2 ^ (widthN v - i) - 1))) := by
  unfold platbookref03_Filled.f
  have hw := widthN_le v
  rw [show k + 500 = (k + 200) + 300 by omega, prow_f _ v n hn]
  simp only [Option.bind_some]
  rw [show k + 200 + 300 = (k + 199 - (widthN v - i)) + (widthN v - i) + 301 by omega, pfilled_l0 (widthN v - i) _ i bit _ v _ _ (by rw [rowT_len]; omega) (by rw [rowT_len]; omega) (by intro b h; unfold rowT at h; rw [List.mem_reverse] at h; exact rowL_bit _ _ b h) hbit]
  have e : valL ((rowT n (widthN v)).take i ++ List.replicate (widthN v - i) bit).reverse = n / 2 ^ (widthN v - i) % 2 ^ i * 2 ^ (widthN v - i) + bit.toNat * (2 ^ (widthN v - i) - 1) := by
    rw [List.reverse_append, List.reverse_replicate, valL_append, List.length_replicate]
    have e1 : ((rowT n (widthN v)).take i).reverse = rowL (n / 2 ^ (widthN v - i)) i := by
      unfold rowT
      rw [show widthN v = (widthN v - i) + i by omega, rowL_add, List.reverse_append, List.take_left' (by rw [List.length_reverse, rowL_len]), List.reverse_reverse]
      rw [show widthN v - i + i - i = widthN v - i by omega]
    have e2 : valL (List.replicate (widthN v - i) bit) = bit.toNat * (2 ^ (widthN v - i) - 1) := by
      rcases hbit with rfl | rfl
      · rw [valL_rep]; simp
      · rw [valL_ones]; simp
    rw [e1, valL_row, e2, Nat.mul_comm (2 ^ (widthN v - i))]
    omega
  rw [e]
end Go.Proofs.YtgdgklibilddgaaGreatDoor

namespace Go.Proofs.YtgdgklibilddgaaGreatDoor
open Go.RowKit Go.Proofs.YtgdgklibilddgaaGreatDoorW.PrintWords Go.Proofs.YtgdgklibilddgaaGreatDoor.PPr

/-- as a rewriting step, not by computation -/
theorem bsome {α β : Type} (x : α) (f : α → Option β) : (some x).bind f = f x := by
  have h : ∀ y : Option α, y = some x → y.bind f = f x := by intro y hy; subst hy; rfl
  exact h _ rfl
theorem rright02_hl (v : Bool) {n : Nat} (hn : n < 340282366920938463463374607431768211456) : platbookref02_Right.f v (hi n) (lo n) = some (rightB v n) := by
  unfold platbookref02_Right.f; rw [if_pos (okW_hl n), num_hi_lo hn]
theorem awidth_hl (v : Bool) (n : Nat) : addr_Width.f v (hi n) (lo n) = some ((widthN v : Nat) : Int) := by
  unfold addr_Width.f; rw [if_pos (okW_hl n)]
theorem pright_hl (v : Bool) {n : Nat} (b : Int) (hn : n < 340282366920938463463374607431768211456) : prefix_Right.f v (hi n) (lo n) b = some (rightP v n b) := by
  unfold prefix_Right.f; rw [if_pos (okW_hl n), num_hi_lo hn]
theorem or_hl {n m : Nat} (hn : n < 340282366920938463463374607431768211456) (hm : m < 340282366920938463463374607431768211456) : num_Or.f (hi n) (lo n) (hi m) (lo m) = some (hi (n ||| m), lo (n ||| m)) := by
  unfold num_Or.f; rw [okW_hl, okW_hl, num_hi_lo hn, num_hi_lo hm]; rfl
theorem hl_eq {a b : Nat} (ha : a < 340282366920938463463374607431768211456) (hb : b < 340282366920938463463374607431768211456) : (hi a == hi b && lo a == lo b) = (a == b) := by
  rw [Bool.eq_iff_iff]; simp only [Bool.and_eq_true, beq_iff_eq]; exact hi_lo_eq ha hb
theorem rightP_iff {v : Bool} {n : Nat} {b : Int} : rightP v n b = true ↔ n < 2 ^ widthN v ∧ 0 ≤ b ∧ b ≤ (widthN v : Int) ∧ n % 2 ^ fr v b = 0 := by
  unfold rightP rightB; simp
theorem rightB_iff {v : Bool} {n : Nat} : rightB v n = true ↔ n < 2 ^ widthN v := by unfold rightB; simp
theorem pow_w (v : Bool) : 2 ^ widthN v ≤ 340282366920938463463374607431768211456 := by cases v <;> decide
theorem top_lt {f n : Nat} (hn : n < 340282366920938463463374607431768211456) : topN f n < 340282366920938463463374607431768211456 := Nat.lt_of_le_of_lt (topN_le f n) hn
/-- without the bits behind: the reference's way -/
theorem top_ref {v : Bool} {n i : Nat} (hn : n < 2 ^ widthN v) (hi : i ≤ widthN v) : n / 2 ^ (widthN v - i) % 2 ^ i * 2 ^ (widthN v - i) = topN (widthN v - i) n := by
  unfold topN
  rw [Nat.mod_eq_of_lt]
  rw [Nat.div_lt_iff_lt_mul (Nat.two_pow_pos _), ← Nat.pow_add, show i + (widthN v - i) = widthN v by omega]; exact hn
def tup5 (x : Bool × Nat × Int × Int) : Bool × Int × Int × Int × Int := (x.1, hi x.2.1, lo x.2.1, x.2.2.1, x.2.2.2)
theorem hi00 : hi 0 = 0 := rfl
theorem lo00 : lo 0 = 0 := rfl
theorem rrightP_f (K : Nat) (hK : 600 ≤ K) (v : Bool) (n : Nat) (b : Int) (hn : n < 340282366920938463463374607431768211456) : platbookref03_Right.f K v (hi n) (lo n) b = some (rightP v n b) := by
  obtain ⟨k, rfl⟩ : ∃ k, K = k + 500 := ⟨K - 500, by omega⟩
  unfold platbookref03_Right.f
  rw [rright02_hl v hn]
  simp only [bsome]
  unfold rightP
  cases hr : rightB v n
  · rw [if_neg (by simp)]; rfl
  · rw [if_pos rfl]
    by_cases h0 : b < 0
    · rw [if_pos h0, decide_eq_false (by omega)]; rfl
    · rw [if_neg h0, width_hl, decide_eq_true (show 0 ≤ b by omega)]
      simp only [bsome]
      by_cases h1 : b ≤ (widthN v : Int)
      · rw [if_neg (by omega), decide_eq_true h1]
        obtain ⟨i, rfl⟩ := Int.eq_ofNat_of_zero_le (show 0 ≤ b by omega)
        rw [pfilled_f k v n i 0 hn (by omega) (.inl rfl), top_ref (rightB_iff.1 hr) (by omega)]
        have e : fr v (i : Int) = widthN v - i := by unfold fr; omega
        simp only [bsome, Int.toNat_zero, Nat.zero_mul, Nat.add_zero]
        rw [hl_eq (top_lt hn) hn, e]
        simp only [beq_self_eq_true, Bool.true_and, Option.some.injEq]
        rw [Bool.eq_iff_iff]; simp [topN_eq]
      · rw [if_pos (by omega), decide_eq_false h1]; rfl
theorem last_lt {v : Bool} {n : Nat} {b : Int} (h : rightP v n b = true) : n + (2 ^ fr v b - 1) < 2 ^ widthN v := by
  obtain ⟨h1, h2, h3, h4⟩ := rightP_iff.1 h
  have hf : fr v b ≤ widthN v := by unfold fr; omega
  have hp := Nat.two_pow_pos (fr v b)
  obtain ⟨q, hq⟩ := Nat.dvd_of_mod_eq_zero h4
  have e : 2 ^ widthN v = 2 ^ fr v b * 2 ^ (widthN v - fr v b) := by rw [← Nat.pow_add]; congr 1; omega
  rw [hq, e] at h1
  rw [hq, e]
  have h5 : q < 2 ^ (widthN v - fr v b) := Nat.lt_of_mul_lt_mul_left h1
  have h6 : 2 ^ fr v b * (q + 1) ≤ 2 ^ fr v b * 2 ^ (widthN v - fr v b) := Nat.mul_le_mul_left _ h5
  rw [Nat.mul_add, Nat.mul_one] at h6
  omega
end Go.Proofs.YtgdgklibilddgaaGreatDoor

namespace Go.Proofs.YtgdgklibilddgaaGreatDoor
open Go.RowKit Go.Proofs.YtgdgklibilddgaaGreatDoorW.PrintWords Go.Proofs.YtgdgklibilddgaaGreatDoor.PPr

theorem shl_hl {n : Nat} {k : Int} (hn : n < 340282366920938463463374607431768211456) (hk : -9223372036854775808 ≤ k) : num_Shl.f (hi n) (lo n) k = some (hi (shlN n k), lo (shlN n k)) := by
  unfold num_Shl.f; rw [okW_hl, decide_eq_true hk, num_hi_lo hn]; rfl
theorem shl_one {k : Nat} (hk : k < 128) : shlN 1 (k : Int) = 2 ^ k := by
  unfold shlN
  rw [if_neg (by omega), if_neg (by omega), Int.toNat_natCast, Nat.one_mul, Nat.mod_eq_of_lt]
  have := Nat.pow_lt_pow_right (a := 2) (by omega) hk
  rw [show (2 : Nat) ^ 128 = 340282366920938463463374607431768211456 by decide] at this
  exact this
end Go.Proofs.YtgdgklibilddgaaGreatDoor

namespace Go.Proofs.YtgdgklibilddgaaGreatDoor.PPr
open Go.RowKit Go.Proofs.YtgdgklibilddgaaGreatDoorW.PrintWords Go.Proofs.YtgdgklibilddgaaGreatDoorW.PrintLast Go.Proofs.YtgdgklibilddgaaGreatDoorW.PrintMore
attribute [local go_sem] max2_int min2_int max_two min_two max_three min_three max_four min_four   -- for this text's walks alone

end Go.Proofs.YtgdgklibilddgaaGreatDoor.PPr

namespace Go.Proofs.YtgdgklibilddgaaGreatDoor.PPr
open Go.RowKit Go.Proofs.YtgdgklibilddgaaGreatDoorW.PrintWords Go.Proofs.YtgdgklibilddgaaGreatDoorW.PrintLast Go.Proofs.YtgdgklibilddgaaGreatDoorW.PrintMore
attribute [local go_sem] max2_int min2_int max_two min_two max_three min_three max_four min_four   -- for this text's walks alone

end Go.Proofs.YtgdgklibilddgaaGreatDoor.PPr

namespace Go.Proofs.YtgdgklibilddgaaGreatDoor.PPr
open Go.RowKit Go.Proofs.YtgdgklibilddgaaGreatDoorW.PrintWords Go.Proofs.YtgdgklibilddgaaGreatDoorW.PrintLast Go.Proofs.YtgdgklibilddgaaGreatDoorW.PrintMore
attribute [local go_sem] max2_int min2_int max_two min_two max_three min_three max_four min_four   -- for this text's walks alone

attribute [local go_sem high] eqA38
end Go.Proofs.YtgdgklibilddgaaGreatDoor.PPr

namespace Go.Proofs.YtgdgklibilddgaaGreatDoor
open Go.RowKit Go.Proofs.YtgdgklibilddgaaGreatDoorW.PrintWords Go.Proofs.YtgdgklibilddgaaGreatDoorW.PrintMore Go.Proofs.YtgdgklibilddgaaGreatDoor.PPr

theorem len_hl {n : Nat} (hn : n < 340282366920938463463374607431768211456) : num_Len.f (hi n) (lo n) = some ((lenN n : Nat) : Int) := by
  unfold num_Len.f; rw [if_pos (okW_hl n), num_hi_lo hn]
end Go.Proofs.YtgdgklibilddgaaGreatDoor

namespace Go.Proofs.YtgdgklibilddgaaGreatDoor
open Go.RowKit Go.Proofs.YtgdgklibilddgaaGreatDoorW.PrintWords Go.Proofs.YtgdgklibilddgaaGreatDoor.PPr

def cutsS (v : Bool) (n : Nat) (b bits : Int) : Bool := rightP v n b && (decide (b ≤ bits) && decide (bits ≤ (widthN v : Int)))
theorem cutsS_iff {v : Bool} {n : Nat} {b bits : Int} : cutsS v n b bits = true ↔ rightP v n b = true ∧ b ≤ bits ∧ bits ≤ (widthN v : Int) := by
  unfold cutsS; simp
theorem cuts_f (v : Bool) (n : Nat) (b bits : Int) (hn : n < 340282366920938463463374607431768211456) : carve_cuts.f v (hi n) (lo n) b bits = some (cutsS v n b bits) := by
  unfold carve_cuts.f cutsS
  rw [pright_hl v b hn]
  simp only [bsome]
  cases rightP v n b
  · rfl
  · rw [if_pos rfl]
    by_cases h : b ≤ bits
    · rw [if_pos h, awidth_hl, decide_eq_true h]
      simp only [bsome, Bool.true_and]
    · rw [if_neg h, decide_eq_false h]; rfl
theorem rcuts_f (K : Nat) (hK : 600 ≤ K) (v : Bool) (n : Nat) (b bits : Int) (hn : n < 340282366920938463463374607431768211456) : platbookref04_Cuts.f K v (hi n) (lo n) b bits = some (cutsS v n b bits) := by
  unfold platbookref04_Cuts.f cutsS
  rw [rrightP_f K hK v n b hn]
  simp only [bsome]
  cases rightP v n b
  · rfl
  · rw [if_pos rfl]
    by_cases h : b ≤ bits
    · rw [if_pos h, width_hl, decide_eq_true h]
      simp only [bsome, Bool.true_and]
    · rw [if_neg h, decide_eq_false h]; rfl
/-- two to a power, if that is not too much -/
def powS (k : Nat) : Nat × Bool := if 128 ≤ k then (0, false) else (2 ^ k, true)
theorem powS_lt (k : Nat) : (powS k).1 < 340282366920938463463374607431768211456 := by
  unfold powS; split
  · decide
  · rename_i h
    have := Nat.pow_lt_pow_right (a := 2) (by omega) (show k < 128 by omega)
    rw [show (2 : Nat) ^ 128 = 340282366920938463463374607431768211456 by decide] at this
    exact this
theorem power_f (k : Nat) : carve_power.f (k : Int) = some (hi (powS k).1, lo (powS k).1, (powS k).2) := by
  unfold carve_power.f powS
  by_cases h : 128 ≤ k
  · rw [if_pos (by omega), if_pos h]; rfl
  · rw [if_neg (by omega), if_neg h]
    unfold num_Of.f
    simp only [bsome]
    have e1 : num_Shl.f 0 1 (k : Int) = some (hi (2 ^ k), lo (2 ^ k)) := by
      have := shl_hl (n := 1) (k := (k : Int)) (by decide) (by omega)
      rw [shl_one (by omega)] at this
      exact this
    rw [e1]
    simp only [bsome]
theorem addR_hl {n m : Nat} (hn : n < 340282366920938463463374607431768211456) (hm : m < 340282366920938463463374607431768211456) : platbookref01_Add.f (hi n) (lo n) (hi m) (lo m) = some (hi (addN n m), lo (addN n m), addF n m) := by
  unfold platbookref01_Add.f; rw [okW_hl, okW_hl, num_hi_lo hn, num_hi_lo hm]; rfl
theorem cmpR_hl {n m : Nat} (hn : n < 340282366920938463463374607431768211456) (hm : m < 340282366920938463463374607431768211456) : platbookref01_Cmp.f (hi n) (lo n) (hi m) (lo m) = some (cmpN n m) := by
  unfold platbookref01_Cmp.f; rw [okW_hl, okW_hl, num_hi_lo hn, num_hi_lo hm]; rfl
theorem count_l0 (d : Nat) : ∀ (k i : Nat), i + d < 128 → platbookref04_Count.l0 (k + d + 1) ((i + d : Nat) : Int) (i : Int) (hi (2 ^ i)) (lo (2 ^ i)) = some (hi (2 ^ (i + d)), lo (2 ^ (i + d)), true) := by
  induction d with
  | zero => intro k i _; rw [platbookref04_Count.l0, if_neg (by omega)]; rfl
  | succ d ih =>
    intro k i hi'
    have hlt : ∀ j, j < 128 → 2 ^ j < 340282366920938463463374607431768211456 := by
      intro j hj
      have := Nat.pow_lt_pow_right (a := 2) (by omega) hj
      rw [show (2 : Nat) ^ 128 = 340282366920938463463374607431768211456 by decide] at this
      exact this
    have h1 := hlt i (by omega)
    have h2 := hlt (i + 1) (by omega)
    have e : addN (2 ^ i) (2 ^ i) = 2 ^ (i + 1) := by
      unfold addN
      rw [← Nat.two_mul, ← Nat.pow_succ', Nat.mod_eq_of_lt h2]
    have := ih k (i + 1) (by omega)
    rw [show k + (d + 1) + 1 = (k + d + 1) + 1 by omega, platbookref04_Count.l0, if_pos (by omega), addR_hl h1 h1, e]
    simp only [bsome]
    rw [w64 (by omega) (by omega), show (i : Int) + 1 = ((i + 1 : Nat) : Int) by omega, show i + (d + 1) = i + 1 + d by omega, this]
theorem count_f (K : Nat) (hK : 200 ≤ K) (k : Nat) (hk : k ≤ 128) : platbookref04_Count.f K (k : Int) = some (hi (powS k).1, lo (powS k).1, (powS k).2) := by
  unfold platbookref04_Count.f powS
  by_cases h : k = 128
  · rw [if_pos (by omega), if_pos (by omega)]; rfl
  · rw [if_neg (by omega), if_neg (by omega)]
    have := count_l0 k (K - k - 1) 0 (by omega)
    rw [show K - k - 1 + k + 1 = K by omega, show 0 + k = k by omega] at this
    rw [show ((0 : Nat) : Int) = 0 from rfl] at this
    exact this
def blocksS (v : Bool) (n : Nat) (b bits : Int) : Nat × Bool × Int := if cutsS v n b bits = true then ((powS (bits - b).toNat).1, (powS (bits - b).toNat).2, 0) else (0, false, 1)
def tupN (x : Nat × Bool × Int) : Int × Int × Bool × Int := (hi x.1, lo x.1, x.2.1, x.2.2)
theorem blocks_f (v : Bool) (n : Nat) (b bits : Int) (hn : n < 340282366920938463463374607431768211456) : carve_Blocks.f v (hi n) (lo n) b bits = some (tupN (blocksS v n b bits)) := by
  unfold carve_Blocks.f blocksS
  rw [cuts_f v n b bits hn]
  simp only [bsome]
  cases h : cutsS v n b bits
  · simp [tupN, hi00, lo00]
  · obtain ⟨h1, h2, h3⟩ := cutsS_iff.1 h
    obtain ⟨p1, p2, p3, p4⟩ := rightP_iff.1 h1
    have hw := widthN_le v
    rw [if_pos rfl, if_pos rfl, w64 (by omega) (by omega), show bits - b = (((bits - b).toNat : Nat) : Int) by omega, power_f]
    simp only [bsome, tupN, Int.toNat_natCast]
theorem rblocks_f (K : Nat) (hK : 600 ≤ K) (v : Bool) (n : Nat) (b bits : Int) (hn : n < 340282366920938463463374607431768211456) : platbookref04_Blocks.f K v (hi n) (lo n) b bits = some (tupN (blocksS v n b bits)) := by
  unfold platbookref04_Blocks.f blocksS
  rw [rcuts_f K hK v n b bits hn]
  simp only [bsome]
  cases h : cutsS v n b bits
  · simp [tupN, hi00, lo00]
  · obtain ⟨h1, h2, h3⟩ := cutsS_iff.1 h
    obtain ⟨p1, p2, p3, p4⟩ := rightP_iff.1 h1
    have hw := widthN_le v
    rw [if_pos rfl, if_pos rfl, w64 (by omega) (by omega), show bits - b = (((bits - b).toNat : Nat) : Int) by omega, count_f K (by omega) _ (by omega)]
    simp only [bsome, tupN, Int.toNat_natCast]
def blockS (v : Bool) (n : Nat) (b bits : Int) (i : Nat) : Bool × Nat × Int × Int :=
  if cutsS v n b bits = true then (if (lenN i : Int) ≤ bits - b then (v, n + i * 2 ^ (widthN v - bits.toNat), bits, 0) else (false, 0, 0, 12)) else (false, 0, 0, 1)
/-- the numbers that are behind a block's -/
theorem block_room {v : Bool} {n : Nat} {b bits : Int} {i : Nat} (h : cutsS v n b bits = true) (hi' : (lenN i : Int) ≤ bits - b) :
    i < 2 ^ (bits - b).toNat ∧ i * 2 ^ (widthN v - bits.toNat) < 2 ^ fr v b ∧ n + i * 2 ^ (widthN v - bits.toNat) < 2 ^ widthN v ∧ fr v b = (bits - b).toNat + (widthN v - bits.toNat) := by
  obtain ⟨h1, h2, h3⟩ := cutsS_iff.1 h
  obtain ⟨p1, p2, p3, p4⟩ := rightP_iff.1 h1
  have hf : fr v b = (bits - b).toNat + (widthN v - bits.toNat) := by unfold fr; omega
  have hl : i < 2 ^ (bits - b).toNat := (lenN_iff _ _).1 (by omega)
  have hp := Nat.two_pow_pos (widthN v - bits.toNat)
  have h4 : i * 2 ^ (widthN v - bits.toNat) < 2 ^ fr v b := by
    rw [hf, Nat.pow_add]; exact Nat.mul_lt_mul_of_pos_right hl hp
  have := last_lt h1
  exact ⟨hl, h4, by omega, hf⟩
theorem shlN_eq {i k : Nat} (hk : k < 128) (h : i * 2 ^ k < 340282366920938463463374607431768211456) : shlN i (k : Int) = i * 2 ^ k := by
  unfold shlN
  rw [if_neg (by omega), if_neg (by omega), Int.toNat_natCast, Nat.mod_eq_of_lt h]
theorem block_f (v : Bool) (n : Nat) (b bits : Int) (i : Nat) (hn : n < 340282366920938463463374607431768211456) (hi' : i < 340282366920938463463374607431768211456) : carve_Block.f v (hi n) (lo n) b bits (hi i) (lo i) = some (tup5 (blockS v n b bits i)) := by
  unfold carve_Block.f blockS
  rw [cuts_f v n b bits hn]
  simp only [bsome]
  cases h : cutsS v n b bits
  · simp [tup5, hi00, lo00]
  · obtain ⟨h1, h2, h3⟩ := cutsS_iff.1 h
    obtain ⟨p1, p2, p3, p4⟩ := rightP_iff.1 h1
    have hw := widthN_le v
    rw [if_pos rfl, if_pos rfl, len_hl hi']
    simp only [bsome]
    rw [w64 (by omega) (by omega)]
    by_cases hl : (lenN i : Int) ≤ bits - b
    · rw [if_neg (by omega), if_pos hl, awidth_hl]
      simp only [bsome]
      obtain ⟨r1, r2, r3, r4⟩ := block_room h hl
      have r5 : i * 2 ^ (widthN v - bits.toNat) < 340282366920938463463374607431768211456 := by
        have := Nat.lt_of_lt_of_le r3 (pow_w v); omega
      rw [w64 (by omega) (by omega), show ((widthN v : Nat) : Int) - bits = ((widthN v - bits.toNat : Nat) : Int) by omega, shl_hl hi' (by omega)]
      simp only [bsome]
      have e : shlN i ((widthN v - bits.toNat : Nat) : Int) = i * 2 ^ (widthN v - bits.toNat) := by
        by_cases hk : widthN v - bits.toNat < 128
        · exact shlN_eq hk r5
        · have hb0 : bits = 0 := by omega
          have : (bits - b).toNat = 0 := by omega
          rw [this] at r1
          have : i = 0 := by simpa using r1
          subst this
          unfold shlN; split <;> simp
      rw [e, or_hl hn r5, or_small p4 r2]
      simp only [bsome, tup5]
    · rw [if_pos (by omega), if_neg hl]; simp [tup5, hi00, lo00]
end Go.Proofs.YtgdgklibilddgaaGreatDoor

namespace Go.Proofs.YtgdgklibilddgaaGreatDoor
open Go.RowKit Go.Proofs.YtgdgklibilddgaaGreatDoorW.PrintWords Go.Proofs.YtgdgklibilddgaaGreatDoor.PPr

theorem rblock_l0 (d : Nat) : ∀ (K k : Nat) (L X : List Int) (B b0 : Nat) (v : Bool) (h l : Int), k + d + b0 = B → B ≤ L.length → L.length ≤ 128 → X.length = 128 → (∀ b ∈ L, b = 0 ∨ b = 1) → (∀ b ∈ X, b = 0 ∨ b = 1) →
    platbookref04_Block.l0 (K + d + 301) (B : Int) L X (k : Int) v h l (b0 : Int) = some (v, hi (valL (L.take b0 ++ ((X.drop k).take d).reverse ++ L.drop (B - k)).reverse), lo (valL (L.take b0 ++ ((X.drop k).take d).reverse ++ L.drop (B - k)).reverse), (B : Int), 0) := by
  induction d with
  | zero =>
    intro K k L X B b0 v h l hk hB hL hX hb1 hb2
    rw [show K + 0 + 301 = (K + 300) + 1 by omega, platbookref04_Block.l0, w64 (by omega) (by omega), if_neg (by omega), paddr_f K v L hL hb1]
    simp only [bsome]
    have e : L.take b0 ++ ((X.drop k).take 0).reverse ++ L.drop (B - k) = L := by
      rw [show B - k = b0 by omega]; simp
    rw [e]
  | succ d ih =>
    intro K k L X B b0 v h l hk hB hL hX hb1 hb2
    have e0 : rd X (k : Int) = X[k] := by unfold rd; simp [List.getD, List.getElem?_eq_getElem (show k < X.length by omega)]
    rw [show K + (d + 1) + 301 = (K + d + 301) + 1 by omega, platbookref04_Block.l0, w64 (i := (B : Int) - (b0 : Int)) (by omega) (by omega), if_pos (by omega), if_pos (by omega), if_pos (by omega), w64 (i := (B : Int) - 1) (by omega) (by omega), w64 (i := (B : Int) - 1 - (k : Int)) (by omega) (by omega), if_pos (by omega), if_pos (by omega), w64 (i := (k : Int) + 1) (by omega) (by omega), e0, show ((B : Int) - 1 - (k : Int)).toNat = B - (k + 1) by omega, show (k : Int) + 1 = ((k + 1 : Nat) : Int) by omega]
    rw [ih K (k + 1) (L.set (B - (k + 1)) X[k]) X B b0 v h l (by omega) (by rw [List.length_set]; exact hB) (by rw [List.length_set]; exact hL) hX (by
      intro b hb
      rcases List.mem_or_eq_of_mem_set hb with hb | rfl
      · exact hb1 b hb
      · exact hb2 _ (List.getElem_mem _)) hb2]
    have e1 : (L.set (B - (k + 1)) X[k]).take b0 = L.take b0 := List.take_set_of_le (by omega)
    have e2 : (L.set (B - (k + 1)) X[k]).drop (B - (k + 1)) = X[k] :: L.drop (B - k) := by
      rw [List.drop_eq_getElem_cons (by rw [List.length_set]; omega), List.getElem_set_self, List.drop_set_of_lt (by omega), show B - (k + 1) + 1 = B - k by omega]
    have e3 : ((X.drop k).take (d + 1)).reverse = ((X.drop (k + 1)).take d).reverse ++ [X[k]] := by
      rw [List.drop_eq_getElem_cons (show k < X.length by omega), List.take_succ_cons, List.reverse_cons]
    rw [e1, e2, e3]
    simp
theorem rblock_val {v : Bool} {n : Nat} {B b0 : Nat} {i : Nat} (h1 : n < 2 ^ widthN v) (hB : B ≤ widthN v) (hb : b0 ≤ B) (h4 : n % 2 ^ (widthN v - b0) = 0) (hi' : i < 2 ^ (B - b0)) :
    valL ((rowT n (widthN v)).take b0 ++ (((rowL i 128).drop 0).take (B - b0)).reverse ++ (rowT n (widthN v)).drop (B - 0)).reverse = n + i * 2 ^ (widthN v - B) := by
  have hw := widthN_le v
  have hW : widthN v = (widthN v - B) + ((B - b0) + b0) := by omega
  have hsplit : rowL n (widthN v) = rowL n (widthN v - B) ++ (rowL (n / 2 ^ (widthN v - B)) (B - b0) ++ rowL (n / 2 ^ (widthN v - b0)) b0) := by
    have e := rowL_add (widthN v - B) ((B - b0) + b0) n
    rw [← hW] at e
    rw [e, rowL_add, Nat.div_div_eq_div_mul, ← Nat.pow_add, show widthN v - B + (B - b0) = widthN v - b0 by omega]
  have r1 : ((rowT n (widthN v)).take b0).reverse = rowL (n / 2 ^ (widthN v - b0)) b0 := by
    unfold rowT
    rw [hsplit, ← List.append_assoc, List.reverse_append, List.take_left' (by rw [List.length_reverse, rowL_len]), List.reverse_reverse]
  have r2 : ((rowT n (widthN v)).drop B).reverse = rowL n (widthN v - B) := by
    unfold rowT
    rw [hsplit, List.reverse_append, List.drop_left' (by rw [List.length_reverse, List.length_append, rowL_len, rowL_len]; omega), List.reverse_reverse]
  have r3 : ((rowL i 128).drop 0).take (B - b0) = rowL i (B - b0) := by
    have e := rowL_add (B - b0) (128 - (B - b0)) i
    rw [show B - b0 + (128 - (B - b0)) = 128 by omega] at e
    rw [List.drop_zero, e, List.take_left' (rowL_len _ _)]
  rw [List.reverse_append, List.reverse_append, List.reverse_reverse, show B - 0 = B by omega, r1, r2, r3, valL_append, valL_append, rowL_len, rowL_len, valL_row, valL_row, valL_row]
  have m1 : n % 2 ^ (widthN v - B) = 0 := by
    obtain ⟨q, hq⟩ := Nat.dvd_of_mod_eq_zero h4
    rw [hq, show widthN v - b0 = (widthN v - B) + (B - b0) by omega, Nat.pow_add, Nat.mul_assoc]; exact Nat.mul_mod_right _ _
  have m2 : i % 2 ^ (B - b0) = i := Nat.mod_eq_of_lt hi'
  have m3 : n / 2 ^ (widthN v - b0) % 2 ^ b0 = n / 2 ^ (widthN v - b0) := by
    apply Nat.mod_eq_of_lt
    rw [Nat.div_lt_iff_lt_mul (Nat.two_pow_pos _), ← Nat.pow_add, show b0 + (widthN v - b0) = widthN v by omega]; exact h1
  have m4 : 2 ^ (widthN v - b0) * (n / 2 ^ (widthN v - b0)) = n := Nat.mul_div_cancel' (Nat.dvd_of_mod_eq_zero h4)
  rw [m1, m2, m3, Nat.zero_add, Nat.mul_add, ← Nat.mul_assoc, ← Nat.pow_add, show widthN v - B + (B - b0) = widthN v - b0 by omega, m4, Nat.mul_comm]
  omega
theorem cmpN_ge (a b : Nat) : cmpN a b ≥ 0 ↔ b ≤ a := by
  unfold cmpN
  split
  · constructor <;> omega
  · split
    · constructor <;> omega
    · constructor <;> omega
theorem rblock_f (K : Nat) (hK : 900 ≤ K) (v : Bool) (n : Nat) (b bits : Int) (i : Nat) (hn : n < 340282366920938463463374607431768211456) (hi' : i < 340282366920938463463374607431768211456) : platbookref04_Block.f K v (hi n) (lo n) b bits (hi i) (lo i) = some (tup5 (blockS v n b bits i)) := by
  unfold platbookref04_Block.f blockS
  rw [rcuts_f K (by omega) v n b bits hn]
  simp only [bsome]
  cases h : cutsS v n b bits
  · simp [tup5, hi00, lo00]
  · obtain ⟨h1, h2, h3⟩ := cutsS_iff.1 h
    obtain ⟨p1, p2, p3, p4⟩ := rightP_iff.1 h1
    have hw := widthN_le v
    obtain ⟨b0, rfl⟩ := Int.eq_ofNat_of_zero_le p2
    obtain ⟨B, rfl⟩ := Int.eq_ofNat_of_zero_le (show 0 ≤ bits by omega)
    rw [if_pos rfl, if_pos rfl, w64 (by omega) (by omega), show (B : Int) - (b0 : Int) = ((B - b0 : Nat) : Int) by omega, count_f K (by omega) _ (by omega)]
    simp only [bsome]
    obtain ⟨k, rfl⟩ : ∃ k, K = k + 1 := ⟨K - 1, by omega⟩
    -- the tail
    have key : ∀ x : Bool, x = !decide (lenN i ≤ B - b0) → platbookref04_Block.j0 (k + 1) (B : Int) x v (hi n) (lo n) (b0 : Int) (hi i) (lo i) = some (tup5 (if (lenN i : Int) ≤ ((B - b0 : Nat) : Int) then (v, n + i * 2 ^ (widthN v - (B : Int).toNat), (B : Int), 0) else (false, 0, 0, 12))) := by
      rintro x rfl
      rw [platbookref04_Block.j0]
      by_cases hl : lenN i ≤ B - b0
      · rw [if_neg (by simp [hl]), if_pos (by omega)]
        obtain ⟨q, rfl⟩ : ∃ q, k = q + 300 := ⟨k - 300, by omega⟩
        rw [prow_f q v n hn, show q + 300 = (q + 170) + 130 by omega, pbits_f _ i hi']
        simp only [bsome]
        have hlt : i < 2 ^ (B - b0) := (lenN_iff _ _).1 hl
        have hf : fr v (b0 : Int) = widthN v - b0 := by unfold fr; omega
        rw [hf] at p4
        have := rblock_l0 (B - b0) (q + 299 - (B - b0) - 300) 0 (rowT n (widthN v)) (rowL i 128) B b0 v (hi n) (lo n) (by omega) (by rw [rowT_len]; omega) (by rw [rowT_len]; exact hw) (rowL_len _ _) (by intro b hb; unfold rowT at hb; rw [List.mem_reverse] at hb; exact rowL_bit _ _ b hb) (rowL_bit _ _)
        rw [rblock_val p1 (by omega) (by omega) p4 hlt, show q + 299 - (B - b0) - 300 + (B - b0) + 301 = q + 170 + 130 by omega, show ((0 : Nat) : Int) = 0 from rfl] at this
        rw [this]
        simp only [tup5, Int.toNat_natCast]
      · rw [if_pos (by simp [hl]), if_neg (by omega)]
        simp [tup5, hi00, lo00]
    by_cases h128 : 128 ≤ B - b0
    · have e2 : (powS (B - b0)).2 = false := by unfold powS; rw [if_pos h128]
      rw [if_neg (by rw [e2]; simp)]
      refine key false ?_
      have : lenN i ≤ 128 := (lenN_iff _ _).2 (by rw [show (2 : Nat) ^ 128 = 340282366920938463463374607431768211456 by decide]; exact hi')
      simp; omega
    · have e1 : (powS (B - b0)).1 = 2 ^ (B - b0) := by unfold powS; rw [if_neg h128]
      have e2 : (powS (B - b0)).2 = true := by unfold powS; rw [if_neg h128]
      have hp := powS_lt (B - b0)
      rw [if_pos e2, cmpR_hl hi' hp]
      simp only [bsome]
      refine key _ ?_
      rw [e1, Bool.eq_iff_iff]
      simp only [decide_eq_true_iff, Bool.not_eq_true', decide_eq_false_iff_not]
      rw [cmpN_ge, lenN_iff]
      omega
theorem hosts_f (v : Bool) (n : Nat) (b : Int) (hn : n < 340282366920938463463374607431768211456) : carve_Hosts.f v (hi n) (lo n) b = some (tupN (blocksS v n b (widthN v))) := by
  unfold carve_Hosts.f
  rw [awidth_hl]
  simp only [bsome]
  rw [blocks_f v n b _ hn]
  simp only [bsome]
def tup4 (x : Bool × Nat × Int × Int) : Bool × Int × Int × Int := (x.1, hi x.2.1, lo x.2.1, x.2.2.2)
theorem host_f (v : Bool) (n : Nat) (b : Int) (i : Nat) (hn : n < 340282366920938463463374607431768211456) (hi' : i < 340282366920938463463374607431768211456) : carve_Host.f v (hi n) (lo n) b (hi i) (lo i) = some (tup4 (blockS v n b (widthN v) i)) := by
  unfold carve_Host.f
  rw [awidth_hl]
  simp only [bsome]
  rw [block_f v n b _ i hn hi']
  simp only [bsome]
  rfl
theorem awake04_f : platbooklaw04_awake.f 1000 = some true := by decide +kernel
theorem carveBlocks_f (v : Bool) (n : Nat) (b bits : Int) (i : Nat) (hn : n < 340282366920938463463374607431768211456) (hi' : i < 340282366920938463463374607431768211456) :
    platbooklaw04_CarveBlocks.f 1000 v (hi n) (lo n) b bits (hi i) (lo i) = some true := by
  unfold platbooklaw04_CarveBlocks.f
  rw [awake04_f, blocks_f v n b bits hn, rblocks_f 1000 (by omega) v n b bits hn, block_f v n b bits i hn hi', rblock_f 1000 (by omega) v n b bits i hn hi']
  simp only [bsome, if_true]
  rw [if_neg (by simp), if_neg (by simp), if_neg (by simp)]
  rw [show ((tup5 (blockS v n b bits i)).2.2.2.2 != (tup5 (blockS v n b bits i)).2.2.2.2) = false by simp, show 1000 = 999 + 1 from rfl, platbooklaw04_CarveBlocks.j0, if_neg (by simp), hosts_f v n b hn, host_f v n b i hn hi', awidth_hl]
  simp only [bsome]
  rw [rblocks_f 999 (by omega) v n b _ hn, rblock_f 999 (by omega) v n b _ i hn hi']
  simp only [bsome, tup4, tup5, tupN]
  simp
theorem carveBlocks_walk (v : Bool) (n : Nat) (b bits : Int) (i : Nat) (w : World) (hn : n < 340282366920938463463374607431768211456) (_ : (Lit.int .i64 b).wf = true) (hi' : i < 340282366920938463463374607431768211456) (hG : Glob w) :
    Calls Tryz.prog 8 #[PfxV v n b, .int .i64 bits, numV i] w fun e w' => e = .returned (.bool true) ∧ Below w.heap.size w w' :=
  platbooklaw04_CarveBlocks.calls 1000 v (hi n) (lo n) b bits (hi i) (lo i) true w hG rfl (carveBlocks_f v n b bits i hn hi')
end Go.Proofs.YtgdgklibilddgaaGreatDoor

namespace Go.Proofs.YtgdgklibilddgaaGreatDoor
open Go.ChangeShapes Go.WideShapes Go.ChangeAt Go.RowKit

section
variable {H : Type} {enc : TypeId × Value → H} {P : Program}
theorem post_below {f : Func} {s : ChangeSpec} {apart fresh handsOn again : Bool} {W W' : World} {args : Array Value} {v : Value} {ds gs : List (DataW H)} {before pa pv : List MemPlace}
    (hW : DataW.Whole enc P f.params.toList s.vars apart W args.toList ds gs before)
    (hres : ∀ (b : Nat) (sp : Nat → Bool) (hd : Bool), DataW.TrodAll enc P W' b sp hd f.resultTypes.toList (v.resultList f.resultTypes.size) (s.fn H (ds ++ gs)).results [])
    (hargs : ∀ sp : Nat → Bool, (∀ p ∈ before, sp p.block = true) → DataW.TrodAll enc P W' 0 sp true f.params.toList args.toList (s.fn H (ds ++ gs)).args pa)
    (hvars : ∀ sp : Nat → Bool, (∀ p ∈ before, sp p.block = true) → DataW.TrodVars enc P W' sp s.vars (s.fn H (ds ++ gs)).vars pv)
    (hps : before = pa ++ pv) (hb : Below W.heap.size W W')
    (hok : ∀ (j : Nat) (t : TypeId) (r : Value), f.resultTypes[j]? = some t → (v.resultList f.resultTypes.size)[j]? = some r → Value.okWide P W' .any 0 t r) :
    s.post enc P f apart fresh handsOn again W args v W' := by
  have hlt : ∀ p ∈ before, p.block < W.heap.size := fun p hp => hW.lt p hp
  have hold : ∀ p ∈ before, (fun b => decide (b < W.heap.size)) p.block = true := fun p hp => by simpa using hlt p hp
  refine ⟨ds, gs, before, [], pa, pv, hW, hres _ _ _, hargs _ hold, hvars _ hold, World.keptBut_mono (fun p hp => ⟨hp, ?_⟩) (hb.frame (· ∈ before)), fun _ => ?_⟩
  · rw [hps, List.mem_append] at hp
    exact Or.inr hp
  · obtain ⟨_, _, _, _, _, hz, hn⟩ := hW
    refine ⟨hok, _, _, ([] ++ pa) ++ pv, ⟨[] ++ pa, pv, trodAll_append (hargs _ (fun _ _ => rfl)) (hres _ _ _), hvars _ (fun _ _ => rfl), rfl, ?_, ?_⟩, ?_⟩
    · intro b off hp
      have hin : MemPlace.cell b off ∈ before := by rw [hps]; simpa using hp
      rw [hb.frozen (hlt _ hin)]
      exact hz b off hin
    · intro ha
      have := hn ha
      rw [hps] at this
      simpa using this
    · intro p hp _
      rw [hps]
      simpa using hp
end

theorem Tryz.own : ownKnob Tryz.prog.godebug = none := by kernel_rfl
theorem u64_bd {n : Int} (h : (Lit.int .u64 n).wf = true) : 0 ≤ n ∧ n < 18446744073709551616 := by
  simp [Lit.wf, IntKind.min, IntKind.max, IntKind.bits, IntKind.signed] at h
  omega
end Go.Proofs.YtgdgklibilddgaaGreatDoor

namespace Go.Proofs.YtgdgklibilddgaaGreatDoor
open Go.RowKit

def listA : List (String × DataW Unit) := [("math/bits.deBruijn32tab", Rows.laid_math_bits_deBruijn32tab), ("math/bits.deBruijn64tab", Rows.laid_math_bits_deBruijn64tab), ("internal/strconv.uint64pow10", Rows.laid_internal_strconv_uint64pow10), ("unicode/utf8.acceptRanges", Rows.laid_unicode_utf8_acceptRanges), ("strconv.ErrRange", Rows.laid_strconv_ErrRange), ("strconv.ErrSyntax", Rows.laid_strconv_ErrSyntax), ("unicode/utf8.first", Rows.laid_unicode_utf8_first)]
theorem doorA_met (os : Os) (args : Array Value) : laidMetH Tryz.prog listA ((World.laidAll Tryz.prog os listA).forCall (fun _ _ => 0) ⟨#[], args, []⟩).memory := by
  rw [MakeChecks.laidMetH_plain _ _ _ (by kernel_rfl)]; exact laidMet_laidAll _ (by kernel_rfl) (by kernel_rfl)
def tabZ : List Int := Lib.deBruijn64tab.map Int.ofNat
theorem listA_tab : (Rows.laid_math_bits_deBruijn64tab : DataW Unit) = Lib.tabData .u8 tabZ := by kernel_rfl
theorem listA_pow : (Rows.laid_internal_strconv_uint64pow10 : DataW Unit) = Lib.tabData .u64 Lib.pow10Tab := by kernel_rfl
theorem err_star : "*" ++ "errors.errorString" = "*errors.errorString" := by decide
theorem err_name (u : TypeId) (h : Tryz.prog.typeName? 3 u = some "*errors.errorString") : u = 170 :=
  typeName_ptr_named (nm := "errors.errorString") (by rw [err_star]; kernel_rfl) (by kernel_rfl) (by decide) u (by rw [err_star]; exact h)
theorem glob_of {W : World} (h : laidMetH Tryz.prog listA W) (hs : W.ShapedOpen Tryz.prog) : Glob W := by
  rw [MakeChecks.laidMetH_plain _ _ _ (by kernel_rfl)] at h
  unfold listA at h
  have h2 := h.tail
  have h3 := h2.tail
  have h5 := h3.tail.tail
  have h6 := h5.tail
  rw [listA_tab] at h2
  rw [listA_pow] at h3
  refine ⟨?_, ?_, ?_, ?_, ?_⟩
  · exact cell_of_shapedOpen_int (g := 0) (t := 3) (zero := #[.int .i64 0]) hs (of_decide_eq_true (by kernel_rfl)) (by kernel_rfl) rfl (by kernel_rfl) (by kernel_rfl) Tryz.underlying3
  · obtain ⟨a, s, hv, _⟩ := laid_sentinel h6 (g := 1) (by kernel_rfl) (by kernel_rfl) Tryz.underlying83 err_name Tryz.underlying170 Tryz.underlying172 rfl rfl Tryz.underlying9 (by kernel_rfl) (by kernel_rfl)
    exact ⟨_, _, hv⟩
  · obtain ⟨a, s, hv, _⟩ := laid_sentinel h5 (g := 2) (by kernel_rfl) (by kernel_rfl) Tryz.underlying83 err_name Tryz.underlying170 Tryz.underlying172 rfl rfl Tryz.underlying9 (by kernel_rfl) (by kernel_rfl)
    exact ⟨_, _, hv⟩
  · exact Lib.tabIs_of_head (P := Tryz.prog) (g := 3) (t := 174) (e := 22) (n := 20) (by kernel_rfl) (by kernel_rfl) Tryz.underlying174 Tryz.underlying22 (by kernel_rfl) (by kernel_rfl) h3
  · have hT := Lib.tabIs_of_head (P := Tryz.prog) (g := 5) (t := 185) (e := 5) (n := 64) (by kernel_rfl) (by kernel_rfl) Tryz.underlying185 Tryz.underlying5 (by kernel_rfl) (by kernel_rfl) h2
    intro j hj
    have hc := hT.cell (g := 5) (by kernel_rfl) j (by unfold tabZ; rw [List.length_map, show Lib.deBruijn64tab.length = 64 by decide]; exact hj)
    rw [hc]
    have e : tabZ.getD j 0 = ((Lib.deBruijn64tab.getD j 0 : Nat) : Int) := by
      unfold tabZ
      simp only [List.getD_eq_getElem?_getD, List.getElem?_map]
      cases Lib.deBruijn64tab[j]? <;> rfl
    rw [e]
/-- the plain wrap with the row's condition and the start's shape -/
theorem lift_shaped {H : Type} {enc : TypeId × Value → H} {C : Checked} {os : Os} {f : FuncId} {fn : Func} {s : ChangeSpec} {X : World → Array Value → Prop}
    (hX : ∀ (w w' : World) (args : Array Value), w.heap = w'.heap → X w args → X w' args)
    (own : ownKnob C.prog.godebug = none) (started : os.Started) (noInit : C.prog.inits.idxOf? f = none) (hfn : C.prog.funcs[f]? = some fn)
    (witness : ∃ (w : World) (tape : Tape) (i : Input), w.os = os ∧ (w.forCall tape i).Shaped C.prog ∧ i.vars = [] ∧ Input.okWide C.prog (w.forCall tape i) .any w.heap.size f i ∧
      ((s.pre enc C.prog fn [] false (w.forCall tape i).memory i.args ∧ X (w.forCall tape i).memory i.args) ∧ sizedMet enc C.prog fn (OpenSpec.ofChange s) false (w.forCall tape i).memory i.args) ∧ ({} : Assume).holds C.prog (lone (Frame.enter C.prog f i.args .normal) [] (w.forCall tape i)))
    (contract : ∀ (W : World) (base : Nat) (args : Array Value) (ds gs : List (DataW H)) (before : List MemPlace),
      (∀ (j : Nat) t v, fn.params[j]? = some t → args[j]? = some v → Value.okWide C.prog W .any base t v) →
      DataW.Whole enc C.prog fn.params.toList s.vars false W args.toList ds gs before → X W args → W.ShapedOpen C.prog →
      Calls C.prog f args W fun e W' => ∃ v, e = .returned v ∧ s.post enc C.prog fn false true false false W args v W') :
    ReturnsInHanded {} C os f .any (fun w args => (s.pre enc C.prog fn [] false w args ∧ X w args) ∧ sizedMet enc C.prog fn (OpenSpec.ofChange s) false w args) (s.post enc C.prog fn false true false false) := by
  refine returnsInHanded_of_calls own started noInit witness ?_
  intro w tape i _ hshape _ hok hpre _
  obtain ⟨_, _, _, fn2, hfn2, _, _, _, _, hval⟩ := hok
  obtain rfl : fn2 = fn := Option.some.inj (hfn2.symm.trans hfn)
  obtain ⟨⟨⟨ds, gs, before, hw, _⟩, hx⟩, _⟩ := hpre
  refine (contract (w.forCall tape i) w.heap.size i.args ds gs before hval (DataW.Whole.of_heap (w' := w.forCall tape i) (by rfl) hw) (hX _ _ _ (by rfl) hx) hshape).mono fun e W' ⟨v, he, hp⟩ => ?_
  subst he
  exact ChangeSpec.post_blind hp
end Go.Proofs.YtgdgklibilddgaaGreatDoor

namespace Go.Proofs.YtgdgklibilddgaaGreatDoor
open Go.ChangeShapes Go.WideShapes Go.ChangeAt Go.RowKit Go.Joins

theorem Tryz.cellsNum : Tryz.prog.cellsOf 24 = 2 := by kernel_rfl

set_option maxRecDepth 100000 in
/-- an argument that is a number of 128 bits -/
theorem open_num {H : Type} {enc : TypeId × Value → H} {W : World} {base b0 : Nat} {sp : Nat → Bool} {v : Value} {d : DataW H} {p : List MemPlace} {r : Reach}
    (hv : Value.okWide Tryz.prog W r b0 24 v) (h : DataW.Trod enc Tryz.prog W base sp true 24 v d p) :
    ∃ n : Nat, n < 340282366920938463463374607431768211456 ∧ v = numV n ∧ d = .agg [.lit (.int .u64 (hi n)), .lit (.int .u64 (lo n))] ∧ p = [] ∧ (Lit.int .u64 (hi n)).wf = true ∧ (Lit.int .u64 (lo n)).wf = true := by
  obtain ⟨c0, c1, y0, y1, m, rfl, rfl, rfl, hy0, hy1⟩ := open_agg2 Tryz.underlying24 (by kernel_rfl) Tryz.cellsNum hv h
  obtain ⟨a, e0, rfl, wa⟩ := DataW.trod_int Tryz.underlying22 hy0
  obtain ⟨b, e1, rfl, wb⟩ := DataW.trod_int Tryz.underlying22 hy1
  simp at e0 e1
  subst e0 e1
  obtain ⟨a0, a1⟩ := u64_bd wa
  obtain ⟨b0', b1⟩ := u64_bd wb
  refine ⟨num a b, num_lt a1 b1, ?_, ?_, rfl, ?_, ?_⟩
  · simp only [numV, hi_num a0 a1 b0' b1, lo_num b0' b1]
  · simp only [hi_num a0 a1 b0' b1, lo_num b0' b1]
  · rw [hi_num a0 a1 b0' b1]; exact wa
  · rw [lo_num b0' b1]; exact wb

set_option maxRecDepth 100000 in
theorem shut_num {H : Type} {enc : TypeId × Value → H} {W : World} {base : Nat} {sp : Nat → Bool} {n : Nat} (wa : (Lit.int .u64 (hi n)).wf = true) (wb : (Lit.int .u64 (lo n)).wf = true) :
    DataW.Trod enc Tryz.prog W base sp true 24 (numV n) (.agg [.lit (.int .u64 (hi n)), .lit (.int .u64 (lo n))]) [] :=
  shut_agg2 (y0 := (.lit (.int .u64 (hi n)), [])) (y1 := (.lit (.int .u64 (lo n)), [])) Tryz.underlying24 (by kernel_rfl) Tryz.cellsNum ⟨1, by simp [DataW.trod, Tryz.underlying22, wa]⟩ ⟨1, by simp [DataW.trod, Tryz.underlying22, wb]⟩
end Go.Proofs.YtgdgklibilddgaaGreatDoor

namespace Go.Proofs.YtgdgklibilddgaaGreatDoor
open Go.ChangeShapes Go.WideShapes Go.ChangeAt Go.RowKit Go.Joins

set_option maxRecDepth 100000 in
theorem Tryz.cellsAddr : Tryz.prog.cellsOf 26 = 3 := by kernel_rfl
def numD {H : Type} (n : Nat) : DataW H := .agg [.lit (.int .u64 (hi n)), .lit (.int .u64 (lo n))]
def addrD {H : Type} (v : Bool) (n : Nat) : DataW H := .agg [.lit (.bool v), numD n]
/-- the number's words are in their bounds -/
def numOk (n : Nat) : Prop := (Lit.int .u64 (hi n)).wf = true ∧ (Lit.int .u64 (lo n)).wf = true

set_option maxRecDepth 100000 in
theorem trod_bool_form {H : Type} {enc : TypeId × Value → H} {P : Program} {w : World} {base : Nat} {sp : Nat → Bool} {held : Bool} {fuel : Nat} {t : TypeId} {c : Value} {x : DataW H × List MemPlace} (ht : P.underlying t = some .bool)
    (h : DataW.trod enc P w base sp held fuel t [c] = some x) : ∃ b, c = .bool b ∧ x = (.lit (.bool b), []) := by
  cases fuel with
  | zero => simp [DataW.trod] at h
  | succ fuel =>
    simp only [DataW.trod, ht] at h
    split at h
    · rename_i e1 e2
      simp at e2
      subst e2
      exact ⟨_, rfl, (Option.some.inj h).symm⟩
    all_goals first | (rename_i e1 _; cases e1; done) | (cases h; done) | skip
    all_goals simp_all
set_option maxRecDepth 100000 in
theorem trod_num_form {H : Type} {enc : TypeId × Value → H} {W : World} {base : Nat} {sp : Nat → Bool} {held : Bool} {fuel : Nat} {c0 c1 : Value} {x : DataW H × List MemPlace}
    (h : DataW.trod enc Tryz.prog W base sp held fuel 24 [c0, c1] = some x) : ∃ n : Nat, n < 340282366920938463463374607431768211456 ∧ c0 = .int .u64 (hi n) ∧ c1 = .int .u64 (lo n) ∧ x = (numD n, []) ∧ numOk n := by
  obtain ⟨y0, y1, m, rfl, _, h0, h1⟩ := trod_struct2 Tryz.underlying24 h
  have h0' : DataW.trod enc Tryz.prog W base sp held m 22 [c0] = some y0 := h0
  have h1' : DataW.trod enc Tryz.prog W base sp held m 22 [c1] = some y1 := h1
  obtain ⟨a, e0, rfl, wa⟩ := DataW.trod_int Tryz.underlying22 h0'
  obtain ⟨b, e1, rfl, wb⟩ := DataW.trod_int Tryz.underlying22 h1'
  simp at e0 e1
  subst e0 e1
  obtain ⟨a0, a1⟩ := u64_bd wa
  obtain ⟨b0', b1⟩ := u64_bd wb
  refine ⟨num a b, num_lt a1 b1, ?_, ?_, ?_, ?_, ?_⟩
  · rw [hi_num a0 a1 b0' b1]
  · rw [lo_num b0' b1]
  · unfold numD; rw [hi_num a0 a1 b0' b1, lo_num b0' b1]; rfl
  · rw [hi_num a0 a1 b0' b1]; exact wa
  · rw [lo_num b0' b1]; exact wb
set_option maxRecDepth 100000 in
theorem trod_num_mk {H : Type} {enc : TypeId × Value → H} {W : World} {base : Nat} {sp : Nat → Bool} {held : Bool} {n : Nat} (h : numOk n) : DataW.trod enc Tryz.prog W base sp held 2 24 [.int .u64 (hi n), .int .u64 (lo n)] = some (numD n, []) := by
  obtain ⟨wa, wb⟩ := h
  have := trod_struct2_mk (enc := enc) (w := W) (base := base) (spare := sp) (held := held) (n := 1) (cs := [.int .u64 (hi n), .int .u64 (lo n)]) (y0 := (.lit (.int .u64 (hi n)), [])) (y1 := (.lit (.int .u64 (lo n)), [])) Tryz.underlying24 Tryz.cellsNum.symm
    (by show DataW.trod enc Tryz.prog W base sp held 1 22 [.int .u64 (hi n)] = _; simp [DataW.trod, Tryz.underlying22, wa])
    (by show DataW.trod enc Tryz.prog W base sp held 1 22 [.int .u64 (lo n)] = _; simp [DataW.trod, Tryz.underlying22, wb])
  exact this
set_option maxRecDepth 100000 in
theorem trod_addr_form {H : Type} {enc : TypeId × Value → H} {W : World} {base : Nat} {sp : Nat → Bool} {held : Bool} {fuel : Nat} {c0 c1 c2 : Value} {x : DataW H × List MemPlace}
    (h : DataW.trod enc Tryz.prog W base sp held fuel 26 [c0, c1, c2] = some x) : ∃ (v : Bool) (n : Nat), n < 340282366920938463463374607431768211456 ∧ c0 = .bool v ∧ c1 = .int .u64 (hi n) ∧ c2 = .int .u64 (lo n) ∧ x = (addrD v n, []) ∧ numOk n := by
  obtain ⟨y0, y1, m, rfl, _, h0, h1⟩ := trod_struct2 Tryz.underlying26 h
  have h0' : DataW.trod enc Tryz.prog W base sp held m 4 [c0] = some y0 := h0
  have h1' : DataW.trod enc Tryz.prog W base sp held m 24 [c1, c2] = some y1 := h1
  obtain ⟨v, rfl, rfl⟩ := trod_bool_form Tryz.underlying4 h0'
  obtain ⟨n, hn, rfl, rfl, rfl, ho⟩ := trod_num_form h1'
  exact ⟨v, n, hn, rfl, rfl, rfl, rfl, ho⟩
set_option maxRecDepth 100000 in
theorem trod_addr_mk {H : Type} {enc : TypeId × Value → H} {W : World} {base : Nat} {sp : Nat → Bool} {held : Bool} {v : Bool} {n : Nat} (h : numOk n) : DataW.trod enc Tryz.prog W base sp held 3 26 [.bool v, .int .u64 (hi n), .int .u64 (lo n)] = some (addrD v n, []) := by
  have := trod_struct2_mk (enc := enc) (w := W) (base := base) (spare := sp) (held := held) (n := 2) (cs := [.bool v, .int .u64 (hi n), .int .u64 (lo n)]) (y0 := (.lit (.bool v), [])) (y1 := (numD n, [])) Tryz.underlying26 Tryz.cellsAddr.symm
    (by show DataW.trod enc Tryz.prog W base sp held 2 4 [.bool v] = _; simp [DataW.trod, Tryz.underlying4])
    (trod_num_mk h)
  exact this
end Go.Proofs.YtgdgklibilddgaaGreatDoor

namespace Go.Proofs.YtgdgklibilddgaaGreatDoor
open Go.ChangeShapes Go.WideShapes Go.ChangeAt Go.RowKit Go.Joins

set_option maxRecDepth 100000 in
theorem Tryz.cellsPfx : Tryz.prog.cellsOf 38 = 4 := by kernel_rfl
def pfxD {H : Type} (v : Bool) (n : Nat) (b : Int) : DataW H := .agg [addrD v n, .lit (.int .i64 b)]
def pfxOk (n : Nat) (b : Int) : Prop := numOk n ∧ (Lit.int .i64 b).wf = true
set_option maxRecDepth 100000 in
theorem trod_pfx_form {H : Type} {enc : TypeId × Value → H} {W : World} {base : Nat} {sp : Nat → Bool} {held : Bool} {fuel : Nat} {c0 c1 c2 c3 : Value} {x : DataW H × List MemPlace}
    (h : DataW.trod enc Tryz.prog W base sp held fuel 38 [c0, c1, c2, c3] = some x) : ∃ (v : Bool) (n : Nat) (b : Int), n < 340282366920938463463374607431768211456 ∧ c0 = .bool v ∧ c1 = .int .u64 (hi n) ∧ c2 = .int .u64 (lo n) ∧ c3 = .int .i64 b ∧ x = (pfxD v n b, []) ∧ pfxOk n b := by
  obtain ⟨y0, y1, m, rfl, _, h0, h1⟩ := trod_struct2 Tryz.underlying38 h
  have h0' : DataW.trod enc Tryz.prog W base sp held m 26 [c0, c1, c2] = some y0 := h0
  have h1' : DataW.trod enc Tryz.prog W base sp held m 3 [c3] = some y1 := h1
  obtain ⟨v, n, hn, rfl, rfl, rfl, rfl, ho⟩ := trod_addr_form h0'
  obtain ⟨b, e1, rfl, wb⟩ := DataW.trod_int Tryz.underlying3 h1'
  simp at e1
  subst e1
  exact ⟨v, n, b, hn, rfl, rfl, rfl, rfl, rfl, ho, wb⟩
set_option maxRecDepth 100000 in
theorem trod_pfx_mk {H : Type} {enc : TypeId × Value → H} {W : World} {base : Nat} {sp : Nat → Bool} {held : Bool} {v : Bool} {n : Nat} {b : Int} (h : pfxOk n b) : DataW.trod enc Tryz.prog W base sp held 4 38 [.bool v, .int .u64 (hi n), .int .u64 (lo n), .int .i64 b] = some (pfxD v n b, []) := by
  have wb := h.2
  have := trod_struct2_mk (enc := enc) (w := W) (base := base) (spare := sp) (held := held) (n := 3) (cs := [.bool v, .int .u64 (hi n), .int .u64 (lo n), .int .i64 b]) (y0 := (addrD v n, [])) (y1 := (.lit (.int .i64 b), [])) Tryz.underlying38 Tryz.cellsPfx.symm
    (trod_addr_mk h.1)
    (by show DataW.trod enc Tryz.prog W base sp held 3 3 [.int .i64 b] = _; simp [DataW.trod, Tryz.underlying3, wb])
  exact this
theorem arr4 {α : Type} {cs : Array α} (h : cs.size = 4) : ∃ c0 c1 c2 c3, cs = #[c0, c1, c2, c3] := by
  rcases cs with ⟨l⟩
  match l, h with
  | [a, b, c, d], _ => exact ⟨a, b, c, d, rfl⟩
set_option maxRecDepth 100000 in
/-- a prefix as an argument -/
theorem open_pfx {H : Type} {enc : TypeId × Value → H} {W : World} {base b0 : Nat} {sp : Nat → Bool} {v : Value} {d : DataW H} {p : List MemPlace} {r : Reach}
    (hv : Value.okWide Tryz.prog W r b0 38 v) (h : DataW.Trod enc Tryz.prog W base sp true 38 v d p) :
    ∃ (u : Bool) (n : Nat) (b : Int), n < 340282366920938463463374607431768211456 ∧ (Lit.int .i64 b).wf = true ∧ v = PfxV u n b ∧ d = pfxD u n b ∧ p = [] ∧ pfxOk n b := by
  obtain ⟨cs, rfl, hsz⟩ := okWide_struct Tryz.underlying38 hv
  obtain ⟨c0, c1, c2, c3, rfl⟩ := arr4 (hsz.trans Tryz.cellsPfx)
  obtain ⟨fuel, hf⟩ := h
  obtain ⟨u, n, b, hn, rfl, rfl, rfl, rfl, e, ho⟩ := trod_pfx_form hf
  simp only [Prod.mk.injEq] at e
  exact ⟨u, n, b, hn, ho.2, rfl, e.1, e.2, ho⟩
set_option maxRecDepth 100000 in
theorem shut_pfx {H : Type} {enc : TypeId × Value → H} {W : World} {base : Nat} {sp : Nat → Bool} {u : Bool} {n : Nat} {b : Int} (h : pfxOk n b) :
    DataW.Trod enc Tryz.prog W base sp true 38 (PfxV u n b) (pfxD u n b) [] := ⟨4, trod_pfx_mk h⟩
end Go.Proofs.YtgdgklibilddgaaGreatDoor

namespace Go.Proofs.YtgdgklibilddgaaGreatDoor
open Go.ChangeShapes Go.WideShapes Go.ChangeAt Go.RowKit
open Go.ChangeMaps (open_string shut_string)

set_option maxRecDepth 100000 in
theorem carveBlocks_lifted (os : Os) (started : os.Started) (H : Type) (enc : TypeId × Value → H) :
    ReturnsInHanded {} Tryz.checked os 8 .any (fun w args => (Rows.carveBlocksSpec.pre enc Tryz.prog Tryz.f8 [] false w args ∧ laidMetH Tryz.prog listA w) ∧ sizedMet enc Tryz.prog Tryz.f8 (OpenSpec.ofChange Rows.carveBlocksSpec) false w args)
      (Rows.carveBlocksSpec.post enc Tryz.prog Tryz.f8 false true false false) := by
  refine lift_shaped (C := Tryz.checked) (X := fun w _ => laidMetH Tryz.prog listA w) (fun _ _ _ hh h => h.of_heap hh) Tryz.own started (by kernel_rfl) Tryz.func8
    (ChangeSpec.witness_shaped (enc := enc) (C := Tryz.checked) (os := os) (X := fun w _ => laidMetH Tryz.prog listA w) false (World.laidAll Tryz.prog os listA) #[.agg #[.bool false, .int .u64 0, .int .u64 0, .int .i64 0], .int .i64 0, .agg #[.int .u64 0, .int .u64 0]] 8 (World.laidAll_os _ _ _) (World.shaped_of_ZipB (by kernel_rfl) (by kernel_rfl)) (by kernel_rfl) (by kernel_rfl) (by kernel_rfl) (doorA_met os _)) ?_
  intro W base args ds gs before hval0 hW hL hSh
  have hval : ∀ (j : Nat) t v, Tryz.f8.params[j]? = some t → args[j]? = some v → Value.okWide Tryz.prog W .any base t v := hval0
  have hW' := hW
  obtain ⟨p, q, hA0, hV, rfl, _, _⟩ := hW
  have hA : DataW.TrodAll enc Tryz.prog W 0 (fun _ => true) true Tryz.f8.params.toList args.toList ds p := hA0
  rw [Tryz.params8] at hA hval
  obtain ⟨v0, v1, v2, d0, d1, d2, p0, p1, p2, rfl, rfl, rfl, h0, h1, h2⟩ := trodAll_three hA
  obtain ⟨rfl, rfl⟩ := trodVars_none hV
  obtain ⟨u0, x0, b0, hx0, hb0, rfl, rfl, rfl, ho0⟩ := open_pfx (hval 0 38 v0 rfl rfl) h0
  obtain ⟨x1, rfl, rfl, rfl, wx1⟩ := open_int Tryz.underlying3 (hval 1 3 v1 rfl rfl) h1
  obtain ⟨x2, hx2, rfl, rfl, rfl, wa2, wb2⟩ := open_num (hval 2 24 v2 rfl rfl) h2
  clear hA0 hval0
  simp only [List.append_nil] at hW'
  refine (carveBlocks_walk u0 x0 b0 x1 x2 W hx0 hb0 hx2 (glob_of hL hSh)).mono fun e W' ⟨he, hw⟩ => ?_
  subst he
  exact ⟨_, rfl, post_below (pa := []) (pv := []) hW' (fun _ _ _ => trodAll_mk1 (shut_bool Tryz.underlying4 _)) (fun sp _ => trodAll_mk3 (shut_pfx ho0) (shut_int Tryz.underlying3 wx1) (shut_num wa2 wb2)) (fun _ _ => rfl) rfl
    hw (ok_one (by kernel_rfl) rfl (okWide_bool_mk Tryz.underlying4 _))⟩

theorem carveBlocks_row : Rows.CarveBlocksSaid :=
  OpenClaim.holds_of_wide 8 Tryz.f8 rfl rfl rfl rfl rfl rfl rfl ⟨rfl, rfl, rfl, rfl, rfl⟩ rfl rfl rfl rfl rfl (by kernel_rfl) Tryz.func8 (by kernel_rfl)
    (of_decide_eq_true (by kernel_rfl)) (by unfold Func.isWrapper; first | (rw [if_pos (by decide +kernel)]; kernel_rfl) | (rw [if_neg (by decide +kernel)]; exact ⟨rfl, rfl⟩))
    (fun os started H enc _ => carveBlocks_lifted os started H enc)

theorem carveBlocks_card : Rows.CarveBlocksCardSaid :=
  Claim7.holds_tied_plain_at .later [] [.data, .data, .data, .data, .sentinel, .sentinel, .pinned] true Rows.carveBlocksCard.stood.harness true
    carveBlocks_row (fun _ h => by cases h) (by kernel_rfl) (fun _ h => by cases h) carveBlocks_row_tie rfl ⟨rfl, rfl⟩ (by kernel_rfl) rfl
    (fun f fn hf hfn => by
      obtain rfl : f = 8 := Option.some.inj ((show Tryz.prog.funcNamed "platbook/platbooklaw04.CarveBlocks" = some 8 by kernel_rfl).symm.trans hf) |>.symm
      obtain rfl : fn = Tryz.f8 := (Option.some.inj (Tryz.func8.symm.trans hfn)).symm
      exact ⟨by kernel_rfl, fun j t ht => by
        rw [Tryz.params8] at ht
        have hm : t ∈ [38, 3, 24] := by simpa using Array.mem_of_getElem? ht
        have hall : ([38, 3, 24].all fun u => !Tryz.prog.wantsStandIn u) = true := by kernel_rfl
        exact (show Tryz.prog.wantsStandIn t = false by simpa using List.all_eq_true.1 hall t hm)⟩)
    (by kernel_rfl)
end Go.Proofs.YtgdgklibilddgaaGreatDoor

#print axioms Go.Proofs.YtgdgklibilddgaaGreatDoor.carveBlocks_card
