/-
A part of the proof of carveNumbers_card: its lemmas and walks, part 4. No condition.
-/
import Derived.Test.YtgdgklibilddgaaGreatDoorNubM3
set_option linter.unusedVariables false
set_option linter.unusedSimpArgs false
namespace Go.Proofs.YtgdgklibilddgaaGreatDoor.PPr
open Go.RowKit Go.Proofs.YtgdgklibilddgaaGreatDoorW.PrintWords Go.Proofs.YtgdgklibilddgaaGreatDoorW.PrintLast Go.Proofs.YtgdgklibilddgaaGreatDoorW.PrintMore
attribute [local go_sem] max2_int min2_int max_two min_two max_three min_three max_four min_four   -- for this text's walks alone

def platbooklaw04_awake.f (k : Nat)  : Option (Bool) := (prefix_Parse.f (⟨#[49, 48, 46, 48, 46, 48, 46, 48, 47, 56]⟩ : ByteArray)).bind fun bt513 => ((num_Of.f 257).bind fun bt519 => ((carve_Block.f bt513.1 bt513.2.1 bt513.2.2.1 bt513.2.2.2.1 24 bt519.1 bt519.2).bind fun bt521 => ((addr_V4.f 167772161).bind fun bt527 => ((addr_V4.f 167772164).bind fun bt530 => ((carve_Spread.f k bt527.1 bt527.2.1 bt527.2.2 bt530.1 bt530.2.1 bt530.2.2).bind fun bt533 => (if bt521.2.2.2.2 = 0 then ((prefix_Print.f bt521.1 bt521.2.1 bt521.2.2.1 bt521.2.2.2.1).bind fun t537 => (if t537.toList = ([49, 48, 46, 49, 46, 49, 46, 48, 47, 50, 52] : List UInt8) then (if bt533.2 = 0 then (if (bt533.1.length : Int) = 3 then (if 1 < (bt533.1.length : Int) then ((prefix_Print.f ((rd_T38 bt533.1 1).f0.f0) ((rd_T38 bt533.1 1).f0.f1.f0) ((rd_T38 bt533.1 1).f0.f1.f1) ((rd_T38 bt533.1 1).f1)).bind fun t539 => (some (t539.toList == ([49, 48, 46, 48, 46, 48, 46, 50, 47, 51, 49] : List UInt8)))) else (none)) else (some false)) else (some false)) else (some false))) else (some false)))))))
def platbooklaw04_awake.T2 : Bool × List (List Nat × List Nat) := (true, [([], []), ([], []), ([0, 1, 1], [0, 1]), ([2], [2]), ([3], [3]), ([3], [3]), ([], []), ([6, 4, 2, 0, 1, 2, 3, 4, 6], [4, 6]), ([5, 7, 0, 1, 2, 3, 4, 5, 6, 7], [5])])
def platbooklaw04_awake.B2 : List Nat := [0, 0, 3, 7, 15, 15, 0, 95, 255]
theorem platbooklaw04_awake.tab2 : rtab .any (opsOf Tryz.f46 2) = platbooklaw04_awake.T2 := by kernel_rfl
theorem platbooklaw04_awake.bits2 : waitsOk platbooklaw04_awake.T2.2 platbooklaw04_awake.B2 = true := by kernel_rfl
set_option maxHeartbeats 8000000 in
set_option maxRecDepth 100000 in
theorem platbooklaw04_awake.calls (k : Nat)  (r : Bool) (w : World) (hG : Glob w) (hrt : r = true) (h : platbooklaw04_awake.f k  = some r) :
  Calls Tryz.prog 46 #[] w fun e w' => e = .returned (.bool r) ∧ Below w.heap.size w w' := by
 have hu38 := Tryz.underlying38
 have HGLB := Aside0.mk hG
 clear hG
 have HRT := Aside0.mk hrt
 clear hrt
 have HB := Aside0.mk (Below.refl w.heap.size w)
 have H : ((prefix_Parse.f (⟨#[49, 48, 46, 48, 46, 48, 46, 48, 47, 56]⟩ : ByteArray)).bind fun bt513 => ((num_Of.f 257).bind fun bt519 => ((carve_Block.f bt513.1 bt513.2.1 bt513.2.2.1 bt513.2.2.2.1 24 bt519.1 bt519.2).bind fun bt521 => ((addr_V4.f 167772161).bind fun bt527 => ((addr_V4.f 167772164).bind fun bt530 => ((carve_Spread.f k bt527.1 bt527.2.1 bt527.2.2 bt530.1 bt530.2.1 bt530.2.2).bind fun bt533 => (if bt521.2.2.2.2 = 0 then ((prefix_Print.f bt521.1 bt521.2.1 bt521.2.2.1 bt521.2.2.2.1).bind fun t537 => (if t537.toList = ([49, 48, 46, 49, 46, 49, 46, 48, 47, 50, 52] : List UInt8) then (if bt533.2 = 0 then (if (bt533.1.length : Int) = 3 then (if 1 < (bt533.1.length : Int) then ((prefix_Print.f ((rd_T38 bt533.1 1).f0.f0) ((rd_T38 bt533.1 1).f0.f1.f0) ((rd_T38 bt533.1 1).f0.f1.f1) ((rd_T38 bt533.1 1).f1)).bind fun t539 => (some (t539.toList == ([49, 48, 46, 48, 46, 48, 46, 50, 47, 51, 49] : List UInt8)))) else (none)) else (some false)) else (some false)) else (some false))) else (some false)))))))) = some r := h
 clear h
 replace H := Option.bind_eq_some_iff.mp H
 obtain ⟨⟨t513, t514, t515, t516, t517⟩, A10, H⟩ := H
 replace H : ((num_Of.f 257).bind fun bt519 => ((carve_Block.f t513 t514 t515 t516 24 bt519.1 bt519.2).bind fun bt521 => ((addr_V4.f 167772161).bind fun bt527 => ((addr_V4.f 167772164).bind fun bt530 => ((carve_Spread.f k bt527.1 bt527.2.1 bt527.2.2 bt530.1 bt530.2.1 bt530.2.2).bind fun bt533 => (if bt521.2.2.2.2 = 0 then ((prefix_Print.f bt521.1 bt521.2.1 bt521.2.2.1 bt521.2.2.2.1).bind fun t537 => (if t537.toList = ([49, 48, 46, 49, 46, 49, 46, 48, 47, 50, 52] : List UInt8) then (if bt533.2 = 0 then (if (bt533.1.length : Int) = 3 then (if 1 < (bt533.1.length : Int) then ((prefix_Print.f ((rd_T38 bt533.1 1).f0.f0) ((rd_T38 bt533.1 1).f0.f1.f0) ((rd_T38 bt533.1 1).f0.f1.f1) ((rd_T38 bt533.1 1).f1)).bind fun t539 => (some (t539.toList == ([49, 48, 46, 48, 46, 48, 46, 50, 47, 51, 49] : List UInt8)))) else (none)) else (some false)) else (some false)) else (some false))) else (some false))))))) = some r := H
 have A1 := Aside0.mk A10
 clear A10
 replace H := Option.bind_eq_some_iff.mp H
 obtain ⟨⟨t519, t520⟩, A20, H⟩ := H
 replace H : ((carve_Block.f t513 t514 t515 t516 24 t519 t520).bind fun bt521 => ((addr_V4.f 167772161).bind fun bt527 => ((addr_V4.f 167772164).bind fun bt530 => ((carve_Spread.f k bt527.1 bt527.2.1 bt527.2.2 bt530.1 bt530.2.1 bt530.2.2).bind fun bt533 => (if bt521.2.2.2.2 = 0 then ((prefix_Print.f bt521.1 bt521.2.1 bt521.2.2.1 bt521.2.2.2.1).bind fun t537 => (if t537.toList = ([49, 48, 46, 49, 46, 49, 46, 48, 47, 50, 52] : List UInt8) then (if bt533.2 = 0 then (if (bt533.1.length : Int) = 3 then (if 1 < (bt533.1.length : Int) then ((prefix_Print.f ((rd_T38 bt533.1 1).f0.f0) ((rd_T38 bt533.1 1).f0.f1.f0) ((rd_T38 bt533.1 1).f0.f1.f1) ((rd_T38 bt533.1 1).f1)).bind fun t539 => (some (t539.toList == ([49, 48, 46, 48, 46, 48, 46, 50, 47, 51, 49] : List UInt8)))) else (none)) else (some false)) else (some false)) else (some false))) else (some false)))))) = some r := H
 have A2 := Aside0.mk A20
 clear A20
 replace H := Option.bind_eq_some_iff.mp H
 obtain ⟨⟨t521, t522, t523, t524, t525⟩, A30, H⟩ := H
 replace H : ((addr_V4.f 167772161).bind fun bt527 => ((addr_V4.f 167772164).bind fun bt530 => ((carve_Spread.f k bt527.1 bt527.2.1 bt527.2.2 bt530.1 bt530.2.1 bt530.2.2).bind fun bt533 => (if t525 = 0 then ((prefix_Print.f t521 t522 t523 t524).bind fun t537 => (if t537.toList = ([49, 48, 46, 49, 46, 49, 46, 48, 47, 50, 52] : List UInt8) then (if bt533.2 = 0 then (if (bt533.1.length : Int) = 3 then (if 1 < (bt533.1.length : Int) then ((prefix_Print.f ((rd_T38 bt533.1 1).f0.f0) ((rd_T38 bt533.1 1).f0.f1.f0) ((rd_T38 bt533.1 1).f0.f1.f1) ((rd_T38 bt533.1 1).f1)).bind fun t539 => (some (t539.toList == ([49, 48, 46, 48, 46, 48, 46, 50, 47, 51, 49] : List UInt8)))) else (none)) else (some false)) else (some false)) else (some false))) else (some false))))) = some r := H
 have A3 := Aside0.mk A30
 clear A30
 replace H := Option.bind_eq_some_iff.mp H
 obtain ⟨⟨t527, t528, t529⟩, A40, H⟩ := H
 replace H : ((addr_V4.f 167772164).bind fun bt530 => ((carve_Spread.f k t527 t528 t529 bt530.1 bt530.2.1 bt530.2.2).bind fun bt533 => (if t525 = 0 then ((prefix_Print.f t521 t522 t523 t524).bind fun t537 => (if t537.toList = ([49, 48, 46, 49, 46, 49, 46, 48, 47, 50, 52] : List UInt8) then (if bt533.2 = 0 then (if (bt533.1.length : Int) = 3 then (if 1 < (bt533.1.length : Int) then ((prefix_Print.f ((rd_T38 bt533.1 1).f0.f0) ((rd_T38 bt533.1 1).f0.f1.f0) ((rd_T38 bt533.1 1).f0.f1.f1) ((rd_T38 bt533.1 1).f1)).bind fun t539 => (some (t539.toList == ([49, 48, 46, 48, 46, 48, 46, 50, 47, 51, 49] : List UInt8)))) else (none)) else (some false)) else (some false)) else (some false))) else (some false)))) = some r := H
 have A4 := Aside0.mk A40
 clear A40
 replace H := Option.bind_eq_some_iff.mp H
 obtain ⟨⟨t530, t531, t532⟩, A50, H⟩ := H
 replace H : ((carve_Spread.f k t527 t528 t529 t530 t531 t532).bind fun bt533 => (if t525 = 0 then ((prefix_Print.f t521 t522 t523 t524).bind fun t537 => (if t537.toList = ([49, 48, 46, 49, 46, 49, 46, 48, 47, 50, 52] : List UInt8) then (if bt533.2 = 0 then (if (bt533.1.length : Int) = 3 then (if 1 < (bt533.1.length : Int) then ((prefix_Print.f ((rd_T38 bt533.1 1).f0.f0) ((rd_T38 bt533.1 1).f0.f1.f0) ((rd_T38 bt533.1 1).f0.f1.f1) ((rd_T38 bt533.1 1).f1)).bind fun t539 => (some (t539.toList == ([49, 48, 46, 48, 46, 48, 46, 50, 47, 51, 49] : List UInt8)))) else (none)) else (some false)) else (some false)) else (some false))) else (some false))) = some r := H
 have A5 := Aside0.mk A50
 clear A50
 replace H := Option.bind_eq_some_iff.mp H
 obtain ⟨⟨t533, t536⟩, A60, H⟩ := H
 replace H : (if t525 = 0 then ((prefix_Print.f t521 t522 t523 t524).bind fun t537 => (if t537.toList = ([49, 48, 46, 49, 46, 49, 46, 48, 47, 50, 52] : List UInt8) then (if t536 = 0 then (if (t533.length : Int) = 3 then (if 1 < (t533.length : Int) then ((prefix_Print.f ((rd_T38 t533 1).f0.f0) ((rd_T38 t533 1).f0.f1.f0) ((rd_T38 t533 1).f0.f1.f1) ((rd_T38 t533 1).f1)).bind fun t539 => (some (t539.toList == ([49, 48, 46, 48, 46, 48, 46, 50, 47, 51, 49] : List UInt8)))) else (none)) else (some false)) else (some false)) else (some false))) else (some false)) = some r := H
 have A6 := Aside0.mk A60
 clear A60
 by_cases c7 : t525 = 0
 ·
  rw [if_pos c7] at H
  have c7b0 : (t525 == 0) = true := beq_iff_eq.mpr c7
  have c7b1 : (t525 != 0) = false := bne_eq_false_iff_eq.mpr c7
  clear c7
  replace H := Option.bind_eq_some_iff.mp H
  obtain ⟨t537, A80, H⟩ := H
  replace H : (if t537.toList = ([49, 48, 46, 49, 46, 49, 46, 48, 47, 50, 52] : List UInt8) then (if t536 = 0 then (if (t533.length : Int) = 3 then (if 1 < (t533.length : Int) then ((prefix_Print.f ((rd_T38 t533 1).f0.f0) ((rd_T38 t533 1).f0.f1.f0) ((rd_T38 t533 1).f0.f1.f1) ((rd_T38 t533 1).f1)).bind fun t539 => (some (t539.toList == ([49, 48, 46, 48, 46, 48, 46, 50, 47, 51, 49] : List UInt8)))) else (none)) else (some false)) else (some false)) else (some false)) = some r := H
  have A8 := Aside0.mk A80
  clear A80
  by_cases c9 : t537.toList = ([49, 48, 46, 49, 46, 49, 46, 48, 47, 50, 52] : List UInt8)
  ·
   rw [if_pos c9] at H
   have c9b0 : (t537.toList == ([49, 48, 46, 49, 46, 49, 46, 48, 47, 50, 52] : List UInt8)) = true := beq_iff_eq.mpr c9
   have c9b1 : (t537.toList != ([49, 48, 46, 49, 46, 49, 46, 48, 47, 50, 52] : List UInt8)) = false := bne_eq_false_iff_eq.mpr c9
   clear c9
   by_cases c10 : t536 = 0
   ·
    rw [if_pos c10] at H
    have c10b0 : (t536 == 0) = true := beq_iff_eq.mpr c10
    have c10b1 : (t536 != 0) = false := bne_eq_false_iff_eq.mpr c10
    clear c10
    by_cases c11 : (t533.length : Int) = 3
    ·
     rw [if_pos c11] at H
     have c11b0 : ((t533.length : Int) == 3) = true := beq_iff_eq.mpr c11
     have c11b1 : ((t533.length : Int) != 3) = false := bne_eq_false_iff_eq.mpr c11
     clear c11
     by_cases c12 : 1 < (t533.length : Int)
     ·
      rw [if_pos c12] at H
      have c12b0 : decide (1 < (t533.length : Int)) = true := decide_eq_true c12
      have c12b1 : decide (1 < t533.length) = true := decide_eq_true (by omega)
      clear c12
      replace H := Option.bind_eq_some_iff.mp H
      obtain ⟨t539, A130, H⟩ := H
      replace H : (some (t539.toList == ([49, 48, 46, 48, 46, 48, 46, 50, 47, 51, 49] : List UInt8))) = some r := H
      have A13 := Aside0.mk A130
      clear A130
      obtain rfl := Option.some.inj H
      go_enter Tryz.func46, Tryz.ntmps46
      try go_wp2_with (first | ((with_reducible refine gate_callee (f := 25) rfl ?_); refine gl_ (some 8) Tryz.func25 #[.string (⟨#[49, 48, 46, 48, 46, 48, 46, 48, 47, 56]⟩ : ByteArray)] ?_; (with_reducible refine (prefix_Parse.calls (⟨#[49, 48, 46, 48, 46, 48, 46, 48, 47, 56]⟩ : ByteArray) t513 t514 t515 t516 t517 _ ?side1 A1.out).mono ?_); (case side1 => exact glob_keep HGLB.out (pb_ HB)); rintro e w14 ⟨rfl, hb⟩; refine ⟨_, rfl, ?_⟩; replace HB := bs_ HB hb; (try clear hb); (try clear hb2); (try clear hk); (try clear hi)) | ((with_reducible refine gate_dst (N := 1) rfl ?_); (try (refine gate_guard (by rfl) ?_; dsimp only)); refine bx_ 1 #[.bool false, .int .u64 0, .int .u64 0, .int .i64 0] 38 ?_; intro gb518 hg w15 hbox hb; have BK518 := Aside0.mk (hbox); have GW518 := gw_ HB hg; have GE518 := gw_ HB hg; replace HB := bs_ HB hb; clear hb hbox hg; obtain ⟨hcz16_0, hcz16_1, hcz16_2, hcz16_3, hfz16_0, hfz16_1, hfz16_2, hfz16_3⟩ := c4_ BK518))
      have n0_ : Aside0 (((((w15.setCell ⟨gb518, 0, none⟩ (.bool t513)).setCell ⟨gb518, 1, none⟩ (.int .u64 t514)).setCell ⟨gb518, 2, none⟩ (.int .u64 t515)).setCell ⟨gb518, 3, none⟩ (.int .i64 t516)).heap[gb518]? = some (.cells #[.bool t513, .int .u64 t514, .int .u64 t515, .int .i64 t516] 38 (0, 0))) := ⟨by refine pw_ ?_; refine blk_put (cs := #[.bool t513, .int .u64 t514, .int .u64 t515, .int .i64 0]) ?_ 3 _ rfl; refine pw_ ?_; refine blk_put (cs := #[.bool t513, .int .u64 t514, .int .u64 0, .int .i64 0]) ?_ 2 _ rfl; refine pw_ ?_; refine blk_put (cs := #[.bool t513, .int .u64 0, .int .u64 0, .int .i64 0]) ?_ 1 _ rfl; refine pw_ ?_; refine blk_put (cs := #[.bool false, .int .u64 0, .int .u64 0, .int .i64 0]) ?_ 0 _ rfl; refine pw_ ?_; exact BK518.out⟩
      have n1_ : Aside0 (Below w.heap.size w ((((w15.setCell ⟨gb518, 0, none⟩ (.bool t513)).setCell ⟨gb518, 1, none⟩ (.int .u64 t514)).setCell ⟨gb518, 2, none⟩ (.int .u64 t515)).setCell ⟨gb518, 3, none⟩ (.int .i64 t516))) := ⟨pb_ HB⟩
      (try clear BK518)
      (try clear HB)
      generalize ((((w15.setCell ⟨gb518, 0, none⟩ (.bool t513)).setCell ⟨gb518, 1, none⟩ (.int .u64 t514)).setCell ⟨gb518, 2, none⟩ (.int .u64 t515)).setCell ⟨gb518, 3, none⟩ (.int .i64 t516)) = w17 at n0_ n1_ ⊢
      have BK518 := n0_
      have HB := n1_
      clear n0_ n1_
      replace BK518 := Aside0.mk (blk_drew BK518.out)
      replace HB := Aside0.mk (below_drew1 HB.out)
      refine start_ (n := 9) (S := fun w' => w'.cell? ⟨gb518, 0, none⟩ = some (.bool t513) ∧ w'.cell? ⟨gb518, 1, none⟩ = some (.int .u64 t514) ∧ w'.cell? ⟨gb518, 2, none⟩ = some (.int .u64 t515) ∧ w'.cell? ⟨gb518, 3, none⟩ = some (.int .i64 t516)) (ds := []) (bm_ 9 0) (by kernel_rfl) rfl rfl ⟨kc_ BK518 0, kc_ BK518 1, kc_ BK518 2, kc_ BK518 3⟩ (fun hHeld => ?_); refine with_tabW platbooklaw04_awake.tab2 platbooklaw04_awake.bits2 (fun HT_ HW_ => ?_)
      generalize w17.drew = w18 at BK518 HB hHeld ⊢
      refine ta_ 0 (some 12) (bm_ 9 1) rfl HT_ HW_ ⟨by rfl, by rintro w' ⟨s0, s1, s2, s3⟩; go_simp; with_reducible rfl⟩ hHeld ?_
      refine join_ (σ := Nat) 2 (bm_ 9 127) (fun s_ => [(13, .agg #[.int .u64 t519, .int .u64 t520]), (14, .tuple #[.agg #[.bool t521, .int .u64 t522, .int .u64 t523, .int .i64 t524], .int .i64 t525]), (3, .pointer (some ⟨s_, 0, none⟩)), (11, .tuple #[.agg #[.bool t521, .int .u64 t522, .int .u64 t523, .int .i64 t524], .int .i64 t525]), (15, .agg #[.bool t521, .int .u64 t522, .int .u64 t523, .int .i64 t524]), (16, .int .i64 t525)]) (fun s_ w' => (w'.cell? ⟨gb518, 0, none⟩ = some (.bool t513) ∧ w'.cell? ⟨gb518, 1, none⟩ = some (.int .u64 t514) ∧ w'.cell? ⟨gb518, 2, none⟩ = some (.int .u64 t515) ∧ w'.cell? ⟨gb518, 3, none⟩ = some (.int .i64 t516)) ∧ (w'.heap[gb518]? = some (.cells #[.bool t513, .int .u64 t514, .int .u64 t515, .int .i64 t516] 38 (0, 0))) ∧ (w'.heap[s_]? = some (.cells #[.bool false, .int .u64 0, .int .u64 0, .int .i64 0] 38 (0, 0))) ∧ (w.heap.size ≤ s_) ∧ (w.heap.size ≤ s_) ∧ (gb518 ≠ s_) ∧ (s_ ≠ gb518) ∧ (Below w.heap.size w w')) ?_ ?_
      rotate_left
      ·
       intro hCont
       refine two_ (i := 1) (j := 6) (Ni := some 13) (Nj := some 3) (bm_ 9 3) (bm_ 9 65) rfl rfl rfl rfl (two_of HT_.out (by kernel_rfl)) (by decide) (by decide) (fun K hK => ?_) (fun K hK => ?_)
       ·
        skip
        refine gr_ Tryz.func59 #[.int .u64 257] ?_
        with_reducible refine (num_Of.calls 257 t519 t520 _ A2.out).mono ?_
        rintro e w19 ⟨rfl, hb⟩
        refine ⟨_, rfl, ?_⟩
        replace BK518 := bb_ BK518 hb
        replace HB := bs_ HB hb
        (try clear hb)
        (try clear hb2)
        (try clear hk)
        (try clear hi)
        refine hK.out _ _ ⟨kc_ BK518 0, kc_ BK518 1, kc_ BK518 2, kc_ BK518 3⟩ (fun hHeld => ?_)
        clear hK K
        refine norm_ (a' := ?_) ?_ ?_
        rotate_left
        ·
         show Act.put _ (some 13) _ = _
         simp only [Act.put, List.setIfInBounds_toArray, List.set_cons_zero, List.set_cons_succ, i64_w, i32_w]
         rfl
        refine two_ (i := 2) (j := 6) (Ni := some 14) (Nj := some 3) (bm_ 9 7) (bm_ 9 67) rfl rfl rfl rfl (two_of HT_.out (by kernel_rfl)) (by decide) (by decide) (fun K hK => ?_) (fun K hK => ?_)
        ·
         skip
         refine gr_ Tryz.func49 #[.agg #[.bool t513, .int .u64 t514, .int .u64 t515, .int .i64 t516], .int .i64 24, .agg #[.int .u64 t519, .int .u64 t520]] ?_
         with_reducible refine (carve_Block.calls t513 t514 t515 t516 24 t519 t520 t521 t522 t523 t524 t525 _ A3.out).mono ?_
         rintro e w20 ⟨rfl, hb⟩
         refine ⟨_, rfl, ?_⟩
         replace BK518 := bb_ BK518 hb
         replace HB := bs_ HB hb
         (try clear hb)
         (try clear hb2)
         (try clear hk)
         (try clear hi)
         refine hK.out _ _ ⟨kc_ BK518 0, kc_ BK518 1, kc_ BK518 2, kc_ BK518 3⟩ (fun hHeld => ?_)
         clear hK K
         refine norm_ (a' := ?_) ?_ ?_
         rotate_left
         ·
          show Act.put _ (some 14) _ = _
          simp only [Act.put, List.setIfInBounds_toArray, List.set_cons_zero, List.set_cons_succ, i64_w, i32_w]
          rfl
         refine pu_ 3 (some 11) (bm_ 9 15) rfl HT_ ⟨by rfl, by intro w'; go_simp; with_reducible rfl⟩ ?_
         refine pu_ 4 (some 15) (bm_ 9 31) rfl HT_ ⟨by rfl, by intro w'; go_simp; with_reducible rfl⟩ ?_
         refine pu_ 5 (some 16) (bm_ 9 63) rfl HT_ ⟨by rfl, by intro w'; go_simp; with_reducible rfl⟩ ?_
         refine one_ (i := 6) (N := some 3) (bm_ 9 127) rfl rfl (one_of HT_.out (by kernel_rfl)) (by decide) (fun K hK => ?_)
         refine box_step ?hg (N := 3) ?hd (cs := #[.bool false, .int .u64 0, .int .u64 0, .int .i64 0]) (t := 38) ?hr ?_; (case hd => rfl); (case hg => rfl); (case hr => first | (go_simp; done) | (go_simp; rfl))
         intro gb526 hg w21 hbox hb
         have BK526 := Aside0.mk (hbox)
         have GW526 := gw_ HB hg
         have GE526 := gw_ HB hg
         have NB518_526 := nl_ BK518 hg
         have NB526_518 := ng_ BK518 hg
         replace BK518 := bb_ BK518 hb
         replace HB := bs_ HB hb
         clear hb hbox hg
         refine hK.out _ _ ⟨kc_ BK518 0, kc_ BK518 1, kc_ BK518 2, kc_ BK518 3⟩ (fun hHeld => ?_)
         clear hK K
         refine norm_ (a' := ?_) ?_ ?_
         rotate_left
         ·
          show Act.put _ (some 3) _ = _
          simp only [Act.put, List.setIfInBounds_toArray, List.set_cons_zero, List.set_cons_succ, i64_w, i32_w]
          rfl
         exact norm_ (by simp only [putAll, Act.put, List.setIfInBounds_toArray, List.set_cons_zero, List.set_cons_succ]) (hCont (gb526) _ ⟨hHeld, (pk_ BK518), (pk_ BK526), GW526.out, GE526.out, NB518_526.out, NB526_518.out, (pb_ HB)⟩)
        ·
         skip
         refine box_step ?hg (N := 3) ?hd (cs := #[.bool false, .int .u64 0, .int .u64 0, .int .i64 0]) (t := 38) ?hr ?_; (case hd => rfl); (case hg => rfl); (case hr => first | (go_simp; done) | (go_simp; rfl))
         intro gb526 hg w20 hbox hb
         have BK526 := Aside0.mk (hbox)
         have GW526 := gw_ HB hg
         have GE526 := gw_ HB hg
         have NB518_526 := nl_ BK518 hg
         have NB526_518 := ng_ BK518 hg
         replace BK518 := bb_ BK518 hb
         replace HB := bs_ HB hb
         clear hb hbox hg
         refine hK.out _ _ ⟨kc_ BK518 0, kc_ BK518 1, kc_ BK518 2, kc_ BK518 3⟩ (fun hHeld => ?_)
         clear hK K
         refine norm_ (a' := ?_) ?_ ?_
         rotate_left
         ·
          show Act.put _ (some 3) _ = _
          simp only [Act.put, List.setIfInBounds_toArray, List.set_cons_zero, List.set_cons_succ, i64_w, i32_w]
          rfl
         refine one_ (i := 2) (N := some 14) (bm_ 9 71) rfl rfl (one_of HT_.out (by kernel_rfl)) (by decide) (fun K hK => ?_)
         refine gr_ Tryz.func49 #[.agg #[.bool t513, .int .u64 t514, .int .u64 t515, .int .i64 t516], .int .i64 24, .agg #[.int .u64 t519, .int .u64 t520]] ?_
         with_reducible refine (carve_Block.calls t513 t514 t515 t516 24 t519 t520 t521 t522 t523 t524 t525 _ A3.out).mono ?_
         rintro e w21 ⟨rfl, hb⟩
         refine ⟨_, rfl, ?_⟩
         replace BK518 := bb_ BK518 hb
         replace BK526 := bb_ BK526 hb
         replace HB := bs_ HB hb
         (try clear hb)
         (try clear hb2)
         (try clear hk)
         (try clear hi)
         refine hK.out _ _ ⟨kc_ BK518 0, kc_ BK518 1, kc_ BK518 2, kc_ BK518 3⟩ (fun hHeld => ?_)
         clear hK K
         refine norm_ (a' := ?_) ?_ ?_
         rotate_left
         ·
          show Act.put _ (some 14) _ = _
          simp only [Act.put, List.setIfInBounds_toArray, List.set_cons_zero, List.set_cons_succ, i64_w, i32_w]
          rfl
         refine pu_ 3 (some 11) (bm_ 9 79) rfl HT_ ⟨by rfl, by intro w'; go_simp; with_reducible rfl⟩ ?_
         refine pu_ 4 (some 15) (bm_ 9 95) rfl HT_ ⟨by rfl, by intro w'; go_simp; with_reducible rfl⟩ ?_
         refine pu_ 5 (some 16) (bm_ 9 127) rfl HT_ ⟨by rfl, by intro w'; go_simp; with_reducible rfl⟩ ?_
         exact norm_ (by simp only [putAll, Act.put, List.setIfInBounds_toArray, List.set_cons_zero, List.set_cons_succ]) (hCont (gb526) _ ⟨hHeld, (pk_ BK518), (pk_ BK526), GW526.out, GE526.out, NB518_526.out, NB526_518.out, (pb_ HB)⟩)
       ·
        skip
        refine box_step ?hg (N := 3) ?hd (cs := #[.bool false, .int .u64 0, .int .u64 0, .int .i64 0]) (t := 38) ?hr ?_; (case hd => rfl); (case hg => rfl); (case hr => first | (go_simp; done) | (go_simp; rfl))
        intro gb526 hg w19 hbox hb
        have BK526 := Aside0.mk (hbox)
        have GW526 := gw_ HB hg
        have GE526 := gw_ HB hg
        have NB518_526 := nl_ BK518 hg
        have NB526_518 := ng_ BK518 hg
        replace BK518 := bb_ BK518 hb
        replace HB := bs_ HB hb
        clear hb hbox hg
        refine hK.out _ _ ⟨kc_ BK518 0, kc_ BK518 1, kc_ BK518 2, kc_ BK518 3⟩ (fun hHeld => ?_)
        clear hK K
        refine norm_ (a' := ?_) ?_ ?_
        rotate_left
        ·
         show Act.put _ (some 3) _ = _
         simp only [Act.put, List.setIfInBounds_toArray, List.set_cons_zero, List.set_cons_succ, i64_w, i32_w]
         rfl
        refine one_ (i := 1) (N := some 13) (bm_ 9 67) rfl rfl (one_of HT_.out (by kernel_rfl)) (by decide) (fun K hK => ?_)
        refine gr_ Tryz.func59 #[.int .u64 257] ?_
        with_reducible refine (num_Of.calls 257 t519 t520 _ A2.out).mono ?_
        rintro e w20 ⟨rfl, hb⟩
        refine ⟨_, rfl, ?_⟩
        replace BK518 := bb_ BK518 hb
        replace BK526 := bb_ BK526 hb
        replace HB := bs_ HB hb
        (try clear hb)
        (try clear hb2)
        (try clear hk)
        (try clear hi)
        refine hK.out _ _ ⟨kc_ BK518 0, kc_ BK518 1, kc_ BK518 2, kc_ BK518 3⟩ (fun hHeld => ?_)
        clear hK K
        refine norm_ (a' := ?_) ?_ ?_
        rotate_left
        ·
         show Act.put _ (some 13) _ = _
         simp only [Act.put, List.setIfInBounds_toArray, List.set_cons_zero, List.set_cons_succ, i64_w, i32_w]
         rfl
        refine one_ (i := 2) (N := some 14) (bm_ 9 71) rfl rfl (one_of HT_.out (by kernel_rfl)) (by decide) (fun K hK => ?_)
        refine gr_ Tryz.func49 #[.agg #[.bool t513, .int .u64 t514, .int .u64 t515, .int .i64 t516], .int .i64 24, .agg #[.int .u64 t519, .int .u64 t520]] ?_
        with_reducible refine (carve_Block.calls t513 t514 t515 t516 24 t519 t520 t521 t522 t523 t524 t525 _ A3.out).mono ?_
        rintro e w21 ⟨rfl, hb⟩
        refine ⟨_, rfl, ?_⟩
        replace BK518 := bb_ BK518 hb
        replace BK526 := bb_ BK526 hb
        replace HB := bs_ HB hb
        (try clear hb)
        (try clear hb2)
        (try clear hk)
        (try clear hi)
        refine hK.out _ _ ⟨kc_ BK518 0, kc_ BK518 1, kc_ BK518 2, kc_ BK518 3⟩ (fun hHeld => ?_)
        clear hK K
        refine norm_ (a' := ?_) ?_ ?_
        rotate_left
        ·
         show Act.put _ (some 14) _ = _
         simp only [Act.put, List.setIfInBounds_toArray, List.set_cons_zero, List.set_cons_succ, i64_w, i32_w]
         rfl
        refine pu_ 3 (some 11) (bm_ 9 79) rfl HT_ ⟨by rfl, by intro w'; go_simp; with_reducible rfl⟩ ?_
        refine pu_ 4 (some 15) (bm_ 9 95) rfl HT_ ⟨by rfl, by intro w'; go_simp; with_reducible rfl⟩ ?_
        refine pu_ 5 (some 16) (bm_ 9 127) rfl HT_ ⟨by rfl, by intro w'; go_simp; with_reducible rfl⟩ ?_
        exact norm_ (by simp only [putAll, Act.put, List.setIfInBounds_toArray, List.set_cons_zero, List.set_cons_succ]) (hCont (gb526) _ ⟨hHeld, (pk_ BK518), (pk_ BK526), GW526.out, GE526.out, NB518_526.out, NB526_518.out, (pb_ HB)⟩)
      rintro gb526 w22 ⟨hS_, h0_, h1_, h2_, h3_, h4_, h5_, h6_⟩
      have n0_ : Aside0 (w22.heap[gb518]? = some (.cells #[.bool t513, .int .u64 t514, .int .u64 t515, .int .i64 t516] 38 (0, 0))) := ⟨h0_⟩
      have n1_ : Aside0 (w22.heap[gb526]? = some (.cells #[.bool false, .int .u64 0, .int .u64 0, .int .i64 0] 38 (0, 0))) := ⟨h1_⟩
      have n2_ : Aside0 (w.heap.size ≤ gb526) := ⟨h2_⟩
      have n3_ : Aside0 (w.heap.size ≤ gb526) := ⟨h3_⟩
      have n4_ : Aside0 (gb518 ≠ gb526) := ⟨h4_⟩
      have n5_ : Aside0 (gb526 ≠ gb518) := ⟨h5_⟩
      have n6_ : Aside0 (Below w.heap.size w w22) := ⟨h6_⟩
      clear BK518
      clear HB
      clear h0_ h1_ h2_ h3_ h4_ h5_ h6_
      have BK518 := n0_
      have BK526 := n1_
      have GW526 := n2_
      have GE526 := n3_
      have NB518_526 := n4_
      have NB526_518 := n5_
      have HB := n6_
      clear n0_ n1_ n2_ n3_ n4_ n5_ n6_
      have hHeld : w22.cell? ⟨gb518, 0, none⟩ = some (.bool t513) ∧ w22.cell? ⟨gb518, 1, none⟩ = some (.int .u64 t514) ∧ w22.cell? ⟨gb518, 2, none⟩ = some (.int .u64 t515) ∧ w22.cell? ⟨gb518, 3, none⟩ = some (.int .i64 t516) := hS_
      refine norm_ (a' := ?_) ?_ ?_
      rotate_left
      ·
       simp only [putAll, Act.put, List.setIfInBounds_toArray, List.set_cons_zero, List.set_cons_succ]
       rfl
      refine one_ (i := 7) (N := none) (bm_ 9 255) rfl rfl (one_of HT_.out (by kernel_rfl)) (by decide) (fun K hK => ?_)
      have hs23 : w22.cell? ⟨gb526, 0, none⟩ = some (.bool false) := kc_ BK526 0
      have hfs23 := blk_frozen BK526.out 0
      have hns23_0 := NB518_526.out
      have hms23_0 := NB526_518.out
      have hs24 : w22.cell? ⟨gb526, 1, none⟩ = some (.int .u64 0) := kc_ BK526 1
      have hfs24 := blk_frozen BK526.out 1
      have hns24_0 := NB518_526.out
      have hms24_0 := NB526_518.out
      have hs25 : w22.cell? ⟨gb526, 2, none⟩ = some (.int .u64 0) := kc_ BK526 2
      have hfs25 := blk_frozen BK526.out 2
      have hns25_0 := NB518_526.out
      have hms25_0 := NB526_518.out
      have hs26 : w22.cell? ⟨gb526, 3, none⟩ = some (.int .i64 0) := kc_ BK526 3
      have hfs26 := blk_frozen BK526.out 3
      have hns26_0 := NB518_526.out
      have hms26_0 := NB526_518.out
      refine skip_ (w1 := ?_) (by rfl) rfl ?_ ?_
      rotate_left
      ·
       go_simp
       rfl
      refine hK.out _ _ ⟨((cell_far (p := ⟨gb526, _, none⟩) NB518_526.out _).trans (((cell_far (p := ⟨gb526, _, none⟩) NB518_526.out _).trans (((cell_far (p := ⟨gb526, _, none⟩) NB518_526.out _).trans (((cell_far (p := ⟨gb526, _, none⟩) NB518_526.out _).trans (hHeld.1)))))))), ((cell_far (p := ⟨gb526, _, none⟩) NB518_526.out _).trans (((cell_far (p := ⟨gb526, _, none⟩) NB518_526.out _).trans (((cell_far (p := ⟨gb526, _, none⟩) NB518_526.out _).trans (((cell_far (p := ⟨gb526, _, none⟩) NB518_526.out _).trans (hHeld.2.1)))))))), ((cell_far (p := ⟨gb526, _, none⟩) NB518_526.out _).trans (((cell_far (p := ⟨gb526, _, none⟩) NB518_526.out _).trans (((cell_far (p := ⟨gb526, _, none⟩) NB518_526.out _).trans (((cell_far (p := ⟨gb526, _, none⟩) NB518_526.out _).trans (hHeld.2.2.1)))))))), ((cell_far (p := ⟨gb526, _, none⟩) NB518_526.out _).trans (((cell_far (p := ⟨gb526, _, none⟩) NB518_526.out _).trans (((cell_far (p := ⟨gb526, _, none⟩) NB518_526.out _).trans (((cell_far (p := ⟨gb526, _, none⟩) NB518_526.out _).trans (hHeld.2.2.2))))))))⟩ (fun hHeld => ?_)
      clear hK K
      refine pu_ 8 (some 4) (bm_ 9 511) rfl HT_ ⟨by rfl, by intro w'; go_simp; with_reducible rfl⟩ ?_
      refine done_ (done_of HT_.out (by kernel_rfl)) ?_
      try go_wp2_with (first | ((with_reducible refine gate_callee (f := 88) rfl ?_); refine gl_ (some 18) Tryz.func88 #[.int .u32 167772161] ?_; (with_reducible refine (addr_V4.calls 167772161 t527 t528 t529 _ A4.out).mono ?_); rintro e w27 ⟨rfl, hb⟩; refine ⟨_, rfl, ?_⟩; replace BK518 := Aside0.mk (blk_below (g := gb518) (o := .cells #[.bool t513, .int .u64 t514, .int .u64 t515, .int .i64 t516] 38 (0, 0)) (by refine pw_ ?_; refine blk_far ?_ NB518_526.out _; refine pw_ ?_; refine blk_far ?_ NB518_526.out _; refine pw_ ?_; refine blk_far ?_ NB518_526.out _; refine pw_ ?_; refine blk_far ?_ NB518_526.out _; refine pw_ ?_; exact BK518.out) hb); replace BK526 := Aside0.mk (blk_below (g := gb526) (o := .cells #[.bool t521, .int .u64 t522, .int .u64 t523, .int .i64 t524] 38 (0, 0)) (by refine pw_ ?_; refine blk_put (cs := #[.bool t521, .int .u64 t522, .int .u64 t523, .int .i64 0]) ?_ 3 _ rfl; refine pw_ ?_; refine blk_put (cs := #[.bool t521, .int .u64 t522, .int .u64 0, .int .i64 0]) ?_ 2 _ rfl; refine pw_ ?_; refine blk_put (cs := #[.bool t521, .int .u64 0, .int .u64 0, .int .i64 0]) ?_ 1 _ rfl; refine pw_ ?_; refine blk_put (cs := #[.bool false, .int .u64 0, .int .u64 0, .int .i64 0]) ?_ 0 _ rfl; refine pw_ ?_; exact BK526.out) hb); replace HB := bs_ HB hb; (try clear hb); (try clear hb2); (try clear hk); (try clear hi)) | ((with_reducible refine gate_callee (f := 88) rfl ?_); refine gl_ (some 19) Tryz.func88 #[.int .u32 167772164] ?_; (with_reducible refine (addr_V4.calls 167772164 t530 t531 t532 _ A5.out).mono ?_); rintro e w28 ⟨rfl, hb⟩; refine ⟨_, rfl, ?_⟩; replace BK518 := bb_ BK518 hb; replace BK526 := bb_ BK526 hb; replace HB := bs_ HB hb; (try clear hb); (try clear hb2); (try clear hk); (try clear hi)) | ((with_reducible refine gate_callee (f := 58) rfl ?_); refine gl_ (some 20) Tryz.func58 #[.agg #[.bool t527, .int .u64 t528, .int .u64 t529], .agg #[.bool t530, .int .u64 t531, .int .u64 t532]] ?_; (with_reducible refine (carve_Spread.calls k t527 t528 t529 t530 t531 t532 t533 t536 _ A6.out).mono ?_); rintro e w29 ⟨v534, rfl, ho0, hb⟩; refine ⟨_, rfl, ?_⟩; have HO535 := Aside0.mk (Kd.R_lower (Kd.R_newB (Kd.R_newB ho0 (g := gb518) (o := .cells #[.bool t513, .int .u64 t514, .int .u64 t515, .int .i64 t516] 38 (0, 0)) (pk_ BK518)) (g := gb526) (o := .cells #[.bool t521, .int .u64 t522, .int .u64 t523, .int .i64 t524] 38 (0, 0)) (pk_ BK526)) (below_size (pb_ HB))); replace BK518 := bb_ BK518 hb; replace BK526 := bb_ BK526 hb; replace HB := bs_ HB hb; (try clear hb); (try clear hb2); (try clear hk); (try clear hi); (try clear ho0); have hnb30 := NB526_518.out; have hnc30 := NB518_526.out; obtain ⟨hcz31_0, hcz31_1, hcz31_2, hcz31_3, hfz31_0, hfz31_1, hfz31_2, hfz31_3⟩ := c4_ BK526) | (go_at_call 27; (with_reducible refine (prefix_Print.calls t521 t522 t523 t524 t537 _ ?side1 A8.out).mono ?_); (case side1 => exact glob_keep HGLB.out (pb_ HB)); rintro e w32 ⟨rfl, hb⟩; replace HO535 := Aside0.mk (Kd.R_below (by (with_reducible repeat (first | apply Kd.R_alloc | apply Kd.R_drewN | apply Kd.R_drew)); exact HO535.out) hb); replace BK518 := bb_ BK518 hb; replace BK526 := bb_ BK526 hb; replace HB := bs_ HB hb; (try clear hb); (try clear hb2); (try clear hk); (try clear hi); obtain ⟨Ao33, co33, eo33⟩ := Kd.R_slice HO535.out; subst eo33; have p538 : 0 ≤ (1 : Int) := (by omega); have q538 : 1 < (t533.length : Int) := of_decide_eq_true (by first | (with_reducible assumption) | assumption); obtain ⟨ad538, e538, hx538_0, hx538_1, hx538_2, hx538_3⟩ := at_T38 (Kd.R_reads' HO535.out).2.2 1 p538 q538; cases e538; (try simp only [show (1 : Int).toNat = 1 from rfl, Nat.reduceMul, Nat.reduceEqDiff, Go.Addr.add, ↓reduceIte] at hx538_0); (try simp only [show (1 : Int).toNat = 1 from rfl, Nat.reduceMul, Nat.reduceEqDiff, Go.Addr.add, ↓reduceIte] at hx538_1); (try simp only [show (1 : Int).toNat = 1 from rfl, Nat.reduceMul, Nat.reduceEqDiff, Go.Addr.add, ↓reduceIte] at hx538_2); (try simp only [show (1 : Int).toNat = 1 from rfl, Nat.reduceMul, Nat.reduceEqDiff, Go.Addr.add, ↓reduceIte] at hx538_3); have qi538 : (1 < t533.length) = True := eq_true (by omega); (try rw [show ((1 : Int)).toNat = 1 from rfl] at hx538_0); (try rw [show 1 * 4 = 4 from rfl] at hx538_0); (try rw [show ((1 : Int)).toNat = 1 from rfl] at hx538_1); (try rw [show 1 * 4 = 4 from rfl] at hx538_1); (try rw [show ((1 : Int)).toNat = 1 from rfl] at hx538_2); (try rw [show 1 * 4 = 4 from rfl] at hx538_2); (try rw [show ((1 : Int)).toNat = 1 from rfl] at hx538_3); (try rw [show 1 * 4 = 4 from rfl] at hx538_3); replace p538 := eq_true p538; replace q538 := eq_true q538) | (go_at_call 27; (with_reducible refine (prefix_Print.calls ((rd_T38 t533 1).f0.f0) ((rd_T38 t533 1).f0.f1.f0) ((rd_T38 t533 1).f0.f1.f1) ((rd_T38 t533 1).f1) t539 _ ?side1 A13.out).mono ?_); (case side1 => exact glob_keep HGLB.out (pb_ HB)); rintro e w34 ⟨rfl, hb⟩; replace HO535 := Aside0.mk (Kd.R_below (by (with_reducible repeat (first | apply Kd.R_alloc | apply Kd.R_drewN | apply Kd.R_drew)); exact HO535.out) hb); replace BK518 := bb_ BK518 hb; replace BK526 := bb_ BK526 hb; replace HB := bs_ HB hb; (try clear hb); (try clear hb2); (try clear hk); (try clear hi)))
      go_ret
      exact ⟨by first | rfl | (simp [errW_none, errW_some] <;> rfl) | (simp [*, errW_none, errW_some] <;> rfl), pb_ HB⟩
     ·
      rw [if_neg c12] at H
      exact absurd H (by simp)
    ·
     rw [if_neg c11] at H
     have c11b0 : ((t533.length : Int) == 3) = false := beq_eq_false_iff_ne.mpr c11
     have c11b1 : ((t533.length : Int) != 3) = true := bne_iff_ne.mpr c11
     obtain rfl := Option.some.inj H
     exact absurd HRT.out (by decide)
   ·
    rw [if_neg c10] at H
    have c10b0 : (t536 == 0) = false := beq_eq_false_iff_ne.mpr c10
    have c10b1 : (t536 != 0) = true := bne_iff_ne.mpr c10
    obtain rfl := Option.some.inj H
    exact absurd HRT.out (by decide)
  ·
   rw [if_neg c9] at H
   have c9b0 : (t537.toList == ([49, 48, 46, 49, 46, 49, 46, 48, 47, 50, 52] : List UInt8)) = false := beq_eq_false_iff_ne.mpr c9
   have c9b1 : (t537.toList != ([49, 48, 46, 49, 46, 49, 46, 48, 47, 50, 52] : List UInt8)) = true := bne_iff_ne.mpr c9
   obtain rfl := Option.some.inj H
   exact absurd HRT.out (by decide)
 ·
  rw [if_neg c7] at H
  have c7b0 : (t525 == 0) = false := beq_eq_false_iff_ne.mpr c7
  have c7b1 : (t525 != 0) = true := bne_iff_ne.mpr c7
  obtain rfl := Option.some.inj H
  exact absurd HRT.out (by decide)

end Go.Proofs.YtgdgklibilddgaaGreatDoor.PPr

namespace Go.Proofs.YtgdgklibilddgaaGreatDoor.PPr
open Go.RowKit Go.Proofs.YtgdgklibilddgaaGreatDoorW.PrintWords Go.Proofs.YtgdgklibilddgaaGreatDoorW.PrintLast Go.Proofs.YtgdgklibilddgaaGreatDoorW.PrintMore
attribute [local go_sem] max2_int min2_int max_two min_two max_three min_three max_four min_four   -- for this text's walks alone

end Go.Proofs.YtgdgklibilddgaaGreatDoor.PPr

namespace Go.Proofs.YtgdgklibilddgaaGreatDoor.PPr
open Go.RowKit Go.Proofs.YtgdgklibilddgaaGreatDoorW.PrintWords Go.Proofs.YtgdgklibilddgaaGreatDoorW.PrintLast Go.Proofs.YtgdgklibilddgaaGreatDoorW.PrintMore
attribute [local go_sem] max2_int min2_int max_two min_two max_three min_three max_four min_four   -- for this text's walks alone

def carve_Host.f (a0_0 : Bool) (a0_1 : Int) (a0_2 : Int) (a0_3 : Int) (a1_0 : Int) (a1_1 : Int) : Option (Bool × Int × Int × Int) := (addr_Width.f a0_0 a0_1 a0_2).bind fun t597 => ((carve_Block.f a0_0 a0_1 a0_2 a0_3 t597 a1_0 a1_1).bind fun bt598 => (some (bt598.1, bt598.2.1, bt598.2.2.1, bt598.2.2.2.2)))
def carve_Host.T1 : Bool × List (List Nat × List Nat) := (true, [([], []), ([], []), ([1], [1]), ([2], [2]), ([], []), ([0, 3, 4, 3], [0, 3, 4]), ([5], [5]), ([6], [6]), ([6], [6]), ([], []), ([9, 7, 5, 0, 1, 2, 3, 4, 5, 6, 7, 9], [7, 9]), ([8, 10, 0, 1, 2, 3, 4, 5, 6, 7, 8, 9, 10], [8])])
def carve_Host.B1 : List Nat := [0, 0, 2, 6, 0, 31, 63, 127, 127, 0, 767, 2047]
theorem carve_Host.tab1 : rtab .any (opsOf Tryz.f52 1) = carve_Host.T1 := by kernel_rfl
theorem carve_Host.bits1 : waitsOk carve_Host.T1.2 carve_Host.B1 = true := by kernel_rfl
set_option maxHeartbeats 8000000 in
set_option maxRecDepth 100000 in
theorem carve_Host.calls (a0_0 : Bool) (a0_1 : Int) (a0_2 : Int) (a0_3 : Int) (a1_0 : Int) (a1_1 : Int) (r1 : Bool) (r2 : Int) (r3 : Int) (r4 : Int) (w : World) (h : carve_Host.f a0_0 a0_1 a0_2 a0_3 a1_0 a1_1 = some (r1, r2, r3, r4)) :
  Calls Tryz.prog 52 #[.agg #[.bool a0_0, .int .u64 a0_1, .int .u64 a0_2, .int .i64 a0_3], .agg #[.int .u64 a1_0, .int .u64 a1_1]] w fun e w' => e = .returned (.tuple #[.agg #[.bool r1, .int .u64 r2, .int .u64 r3], .int .i64 r4]) ∧ Below w.heap.size w w' := by
 have hu38 := Tryz.underlying38
 have hu24 := Tryz.underlying24
 have hu26 := Tryz.underlying26
 have HB := Aside0.mk (Below.refl w.heap.size w)
 have H : ((addr_Width.f a0_0 a0_1 a0_2).bind fun t597 => ((carve_Block.f a0_0 a0_1 a0_2 a0_3 t597 a1_0 a1_1).bind fun bt598 => (some (bt598.1, bt598.2.1, bt598.2.2.1, bt598.2.2.2.2)))) = some (r1, r2, r3, r4) := h
 clear h
 replace H := Option.bind_eq_some_iff.mp H
 obtain ⟨t597, A30, H⟩ := H
 replace H : ((carve_Block.f a0_0 a0_1 a0_2 a0_3 t597 a1_0 a1_1).bind fun bt598 => (some (bt598.1, bt598.2.1, bt598.2.2.1, bt598.2.2.2.2))) = some (r1, r2, r3, r4) := H
 have A3 := Aside0.mk A30
 clear A30
 replace H := Option.bind_eq_some_iff.mp H
 obtain ⟨⟨t598, t599, t600, t601, t602⟩, A40, H⟩ := H
 replace H : (some (t598, t599, t600, t602)) = some (r1, r2, r3, r4) := H
 have A4 := Aside0.mk A40
 clear A40
 simp only [Option.some.injEq, Prod.mk.injEq] at H
 obtain ⟨rfl, rfl, rfl, rfl⟩ := H
 go_enter Tryz.func52, Tryz.ntmps52
 try go_wp2_with (first | ((with_reducible refine gate_dst (N := 2) rfl ?_); refine bx_ 2 #[.bool a0_0, .int .u64 a0_1, .int .u64 a0_2, .int .i64 a0_3] 38 ?_; intro gb594 hg w5 hbox hb; have BK594 := Aside0.mk (hbox); have GW594 := gw_ HB hg; have GE594 := gw_ HB hg; replace HB := bs_ HB hb; clear hb hbox hg) | ((with_reducible refine gate_dst (N := 3) rfl ?_); refine bx_ 3 #[.int .u64 a1_0, .int .u64 a1_1] 24 ?_; intro gb595 hg w6 hbox hb; have BK595 := Aside0.mk (hbox); have GW595 := gw_ HB hg; have GE595 := gw_ HB hg; have NB594_595 := nl_ BK594 hg; have NB595_594 := ng_ BK594 hg; replace BK594 := bb_ BK594 hb; replace HB := bs_ HB hb; clear hb hbox hg) | ((with_reducible refine gate_dst (N := 4) rfl ?_); refine bx_ 4 #[.bool false, .int .u64 0, .int .u64 0] 26 ?_; intro gb596 hg w7 hbox hb; have BK596 := Aside0.mk (hbox); have GW596 := gw_ HB hg; have GE596 := gw_ HB hg; have NB594_596 := nl_ BK594 hg; have NB596_594 := ng_ BK594 hg; have NB595_596 := nl_ BK595 hg; have NB596_595 := ng_ BK595 hg; replace BK594 := bb_ BK594 hb; replace BK595 := bb_ BK595 hb; replace HB := bs_ HB hb; clear hb hbox hg))
 replace BK594 := Aside0.mk (blk_drew BK594.out)
 replace BK595 := Aside0.mk (blk_drew BK595.out)
 replace BK596 := Aside0.mk (blk_drew BK596.out)
 replace HB := Aside0.mk (below_drew1 HB.out)
 refine start_ (n := 12) (S := fun w' => w'.cell? ⟨gb594, 0, none⟩ = some (.bool a0_0) ∧ w'.cell? ⟨gb594, 1, none⟩ = some (.int .u64 a0_1) ∧ w'.cell? ⟨gb594, 2, none⟩ = some (.int .u64 a0_2) ∧ w'.cell? ⟨gb594, 3, none⟩ = some (.int .i64 a0_3) ∧ w'.cell? ⟨gb595, 0, none⟩ = some (.int .u64 a1_0) ∧ w'.cell? ⟨gb595, 1, none⟩ = some (.int .u64 a1_1)) (ds := []) (bm_ 12 0) (by kernel_rfl) rfl rfl ⟨kc_ BK594 0, kc_ BK594 1, kc_ BK594 2, kc_ BK594 3, kc_ BK595 0, kc_ BK595 1⟩ (fun hHeld => ?_); refine with_tabW carve_Host.tab1 carve_Host.bits1 (fun HT_ HW_ => ?_)
 generalize w7.drew = w8 at BK594 BK595 BK596 HB hHeld ⊢
 refine pu_ 1 (some 10) (bm_ 12 2) rfl HT_ ⟨by rfl, by intro w'; go_simp; with_reducible rfl⟩ ?_
 refine ta_ 0 (some 9) (bm_ 12 3) rfl HT_ HW_ ⟨by rfl, by rintro w' ⟨s0, s1, s2, s3, s4, s5⟩; go_simp; with_reducible rfl⟩ hHeld ?_
 refine ta_ 2 (some 11) (bm_ 12 7) rfl HT_ HW_ ⟨by rfl, by rintro w' ⟨s0, s1, s2, s3, s4, s5⟩; go_simp; with_reducible rfl⟩ hHeld ?_
 refine ta_ 4 (some 13) (bm_ 12 23) rfl HT_ HW_ ⟨by rfl, by rintro w' ⟨s0, s1, s2, s3, s4, s5⟩; go_simp; with_reducible rfl⟩ hHeld ?_
 refine join_ (σ := Nat) 2 (bm_ 12 1023) (fun s_ => [(12, .int .i64 t597), (14, .tuple #[.agg #[.bool t598, .int .u64 t599, .int .u64 t600, .int .i64 t601], .int .i64 t602]), (6, .pointer (some ⟨s_, 0, none⟩)), (8, .tuple #[.agg #[.bool t598, .int .u64 t599, .int .u64 t600, .int .i64 t601], .int .i64 t602]), (15, .agg #[.bool t598, .int .u64 t599, .int .u64 t600, .int .i64 t601]), (16, .int .i64 t602)]) (fun s_ w' => (w'.cell? ⟨gb594, 0, none⟩ = some (.bool a0_0) ∧ w'.cell? ⟨gb594, 1, none⟩ = some (.int .u64 a0_1) ∧ w'.cell? ⟨gb594, 2, none⟩ = some (.int .u64 a0_2) ∧ w'.cell? ⟨gb594, 3, none⟩ = some (.int .i64 a0_3) ∧ w'.cell? ⟨gb595, 0, none⟩ = some (.int .u64 a1_0) ∧ w'.cell? ⟨gb595, 1, none⟩ = some (.int .u64 a1_1)) ∧ (w'.heap[gb594]? = some (.cells #[.bool a0_0, .int .u64 a0_1, .int .u64 a0_2, .int .i64 a0_3] 38 (0, 0))) ∧ (w'.heap[gb595]? = some (.cells #[.int .u64 a1_0, .int .u64 a1_1] 24 (0, 0))) ∧ (w'.heap[gb596]? = some (.cells #[.bool false, .int .u64 0, .int .u64 0] 26 (0, 0))) ∧ (w'.heap[s_]? = some (.cells #[.bool false, .int .u64 0, .int .u64 0, .int .i64 0] 38 (0, 0))) ∧ (w.heap.size ≤ s_) ∧ (w.heap.size ≤ s_) ∧ (gb594 ≠ s_) ∧ (s_ ≠ gb594) ∧ (gb595 ≠ s_) ∧ (s_ ≠ gb595) ∧ (gb596 ≠ s_) ∧ (s_ ≠ gb596) ∧ (Below w.heap.size w w')) ?_ ?_
 rotate_left
 ·
  intro hCont
  refine two_ (i := 3) (j := 9) (Ni := some 12) (Nj := some 6) (bm_ 12 31) (bm_ 12 535) rfl rfl rfl rfl (two_of HT_.out (by kernel_rfl)) (by decide) (by decide) (fun K hK => ?_) (fun K hK => ?_)
  ·
   skip
   refine gr_ Tryz.func22 #[.agg #[.bool a0_0, .int .u64 a0_1, .int .u64 a0_2]] ?_
   with_reducible refine (addr_Width.calls a0_0 a0_1 a0_2 t597 _ A3.out).mono ?_
   rintro e w9 ⟨rfl, hb⟩
   refine ⟨_, rfl, ?_⟩
   replace BK594 := bb_ BK594 hb
   replace BK595 := bb_ BK595 hb
   replace BK596 := bb_ BK596 hb
   replace HB := bs_ HB hb
   (try clear hb)
   (try clear hb2)
   (try clear hk)
   (try clear hi)
   refine hK.out _ _ ⟨kc_ BK594 0, kc_ BK594 1, kc_ BK594 2, kc_ BK594 3, kc_ BK595 0, kc_ BK595 1⟩ (fun hHeld => ?_)
   clear hK K
   refine norm_ (a' := ?_) ?_ ?_
   rotate_left
   ·
    show Act.put _ (some 12) _ = _
    simp only [Act.put, List.setIfInBounds_toArray, List.set_cons_zero, List.set_cons_succ, i64_w, i32_w]
    rfl
   refine two_ (i := 5) (j := 9) (Ni := some 14) (Nj := some 6) (bm_ 12 63) (bm_ 12 543) rfl rfl rfl rfl (two_of HT_.out (by kernel_rfl)) (by decide) (by decide) (fun K hK => ?_) (fun K hK => ?_)
   ·
    skip
    refine gr_ Tryz.func49 #[.agg #[.bool a0_0, .int .u64 a0_1, .int .u64 a0_2, .int .i64 a0_3], .int .i64 t597, .agg #[.int .u64 a1_0, .int .u64 a1_1]] ?_
    with_reducible refine (carve_Block.calls a0_0 a0_1 a0_2 a0_3 t597 a1_0 a1_1 t598 t599 t600 t601 t602 _ A4.out).mono ?_
    rintro e w10 ⟨rfl, hb⟩
    refine ⟨_, rfl, ?_⟩
    replace BK594 := bb_ BK594 hb
    replace BK595 := bb_ BK595 hb
    replace BK596 := bb_ BK596 hb
    replace HB := bs_ HB hb
    (try clear hb)
    (try clear hb2)
    (try clear hk)
    (try clear hi)
    refine hK.out _ _ ⟨kc_ BK594 0, kc_ BK594 1, kc_ BK594 2, kc_ BK594 3, kc_ BK595 0, kc_ BK595 1⟩ (fun hHeld => ?_)
    clear hK K
    refine norm_ (a' := ?_) ?_ ?_
    rotate_left
    ·
     show Act.put _ (some 14) _ = _
     simp only [Act.put, List.setIfInBounds_toArray, List.set_cons_zero, List.set_cons_succ, i64_w, i32_w]
     rfl
    refine pu_ 6 (some 8) (bm_ 12 127) rfl HT_ ⟨by rfl, by intro w'; go_simp; with_reducible rfl⟩ ?_
    refine pu_ 7 (some 15) (bm_ 12 255) rfl HT_ ⟨by rfl, by intro w'; go_simp; with_reducible rfl⟩ ?_
    refine pu_ 8 (some 16) (bm_ 12 511) rfl HT_ ⟨by rfl, by intro w'; go_simp; with_reducible rfl⟩ ?_
    refine one_ (i := 9) (N := some 6) (bm_ 12 1023) rfl rfl (one_of HT_.out (by kernel_rfl)) (by decide) (fun K hK => ?_)
    refine box_step ?hg (N := 6) ?hd (cs := #[.bool false, .int .u64 0, .int .u64 0, .int .i64 0]) (t := 38) ?hr ?_; (case hd => rfl); (case hg => rfl); (case hr => first | (go_simp; done) | (go_simp; rfl))
    intro gb603 hg w11 hbox hb
    have BK603 := Aside0.mk (hbox)
    have GW603 := gw_ HB hg
    have GE603 := gw_ HB hg
    have NB594_603 := nl_ BK594 hg
    have NB603_594 := ng_ BK594 hg
    have NB595_603 := nl_ BK595 hg
    have NB603_595 := ng_ BK595 hg
    have NB596_603 := nl_ BK596 hg
    have NB603_596 := ng_ BK596 hg
    replace BK594 := bb_ BK594 hb
    replace BK595 := bb_ BK595 hb
    replace BK596 := bb_ BK596 hb
    replace HB := bs_ HB hb
    clear hb hbox hg
    refine hK.out _ _ ⟨kc_ BK594 0, kc_ BK594 1, kc_ BK594 2, kc_ BK594 3, kc_ BK595 0, kc_ BK595 1⟩ (fun hHeld => ?_)
    clear hK K
    refine norm_ (a' := ?_) ?_ ?_
    rotate_left
    ·
     show Act.put _ (some 6) _ = _
     simp only [Act.put, List.setIfInBounds_toArray, List.set_cons_zero, List.set_cons_succ, i64_w, i32_w]
     rfl
    exact norm_ (by simp only [putAll, Act.put, List.setIfInBounds_toArray, List.set_cons_zero, List.set_cons_succ]) (hCont (gb603) _ ⟨hHeld, (pk_ BK594), (pk_ BK595), (pk_ BK596), (pk_ BK603), GW603.out, GE603.out, NB594_603.out, NB603_594.out, NB595_603.out, NB603_595.out, NB596_603.out, NB603_596.out, (pb_ HB)⟩)
   ·
    skip
    refine box_step ?hg (N := 6) ?hd (cs := #[.bool false, .int .u64 0, .int .u64 0, .int .i64 0]) (t := 38) ?hr ?_; (case hd => rfl); (case hg => rfl); (case hr => first | (go_simp; done) | (go_simp; rfl))
    intro gb603 hg w10 hbox hb
    have BK603 := Aside0.mk (hbox)
    have GW603 := gw_ HB hg
    have GE603 := gw_ HB hg
    have NB594_603 := nl_ BK594 hg
    have NB603_594 := ng_ BK594 hg
    have NB595_603 := nl_ BK595 hg
    have NB603_595 := ng_ BK595 hg
    have NB596_603 := nl_ BK596 hg
    have NB603_596 := ng_ BK596 hg
    replace BK594 := bb_ BK594 hb
    replace BK595 := bb_ BK595 hb
    replace BK596 := bb_ BK596 hb
    replace HB := bs_ HB hb
    clear hb hbox hg
    refine hK.out _ _ ⟨kc_ BK594 0, kc_ BK594 1, kc_ BK594 2, kc_ BK594 3, kc_ BK595 0, kc_ BK595 1⟩ (fun hHeld => ?_)
    clear hK K
    refine norm_ (a' := ?_) ?_ ?_
    rotate_left
    ·
     show Act.put _ (some 6) _ = _
     simp only [Act.put, List.setIfInBounds_toArray, List.set_cons_zero, List.set_cons_succ, i64_w, i32_w]
     rfl
    refine one_ (i := 5) (N := some 14) (bm_ 12 575) rfl rfl (one_of HT_.out (by kernel_rfl)) (by decide) (fun K hK => ?_)
    refine gr_ Tryz.func49 #[.agg #[.bool a0_0, .int .u64 a0_1, .int .u64 a0_2, .int .i64 a0_3], .int .i64 t597, .agg #[.int .u64 a1_0, .int .u64 a1_1]] ?_
    with_reducible refine (carve_Block.calls a0_0 a0_1 a0_2 a0_3 t597 a1_0 a1_1 t598 t599 t600 t601 t602 _ A4.out).mono ?_
    rintro e w11 ⟨rfl, hb⟩
    refine ⟨_, rfl, ?_⟩
    replace BK594 := bb_ BK594 hb
    replace BK595 := bb_ BK595 hb
    replace BK596 := bb_ BK596 hb
    replace BK603 := bb_ BK603 hb
    replace HB := bs_ HB hb
    (try clear hb)
    (try clear hb2)
    (try clear hk)
    (try clear hi)
    refine hK.out _ _ ⟨kc_ BK594 0, kc_ BK594 1, kc_ BK594 2, kc_ BK594 3, kc_ BK595 0, kc_ BK595 1⟩ (fun hHeld => ?_)
    clear hK K
    refine norm_ (a' := ?_) ?_ ?_
    rotate_left
    ·
     show Act.put _ (some 14) _ = _
     simp only [Act.put, List.setIfInBounds_toArray, List.set_cons_zero, List.set_cons_succ, i64_w, i32_w]
     rfl
    refine pu_ 6 (some 8) (bm_ 12 639) rfl HT_ ⟨by rfl, by intro w'; go_simp; with_reducible rfl⟩ ?_
    refine pu_ 7 (some 15) (bm_ 12 767) rfl HT_ ⟨by rfl, by intro w'; go_simp; with_reducible rfl⟩ ?_
    refine pu_ 8 (some 16) (bm_ 12 1023) rfl HT_ ⟨by rfl, by intro w'; go_simp; with_reducible rfl⟩ ?_
    exact norm_ (by simp only [putAll, Act.put, List.setIfInBounds_toArray, List.set_cons_zero, List.set_cons_succ]) (hCont (gb603) _ ⟨hHeld, (pk_ BK594), (pk_ BK595), (pk_ BK596), (pk_ BK603), GW603.out, GE603.out, NB594_603.out, NB603_594.out, NB595_603.out, NB603_595.out, NB596_603.out, NB603_596.out, (pb_ HB)⟩)
  ·
   skip
   refine box_step ?hg (N := 6) ?hd (cs := #[.bool false, .int .u64 0, .int .u64 0, .int .i64 0]) (t := 38) ?hr ?_; (case hd => rfl); (case hg => rfl); (case hr => first | (go_simp; done) | (go_simp; rfl))
   intro gb603 hg w9 hbox hb
   have BK603 := Aside0.mk (hbox)
   have GW603 := gw_ HB hg
   have GE603 := gw_ HB hg
   have NB594_603 := nl_ BK594 hg
   have NB603_594 := ng_ BK594 hg
   have NB595_603 := nl_ BK595 hg
   have NB603_595 := ng_ BK595 hg
   have NB596_603 := nl_ BK596 hg
   have NB603_596 := ng_ BK596 hg
   replace BK594 := bb_ BK594 hb
   replace BK595 := bb_ BK595 hb
   replace BK596 := bb_ BK596 hb
   replace HB := bs_ HB hb
   clear hb hbox hg
   refine hK.out _ _ ⟨kc_ BK594 0, kc_ BK594 1, kc_ BK594 2, kc_ BK594 3, kc_ BK595 0, kc_ BK595 1⟩ (fun hHeld => ?_)
   clear hK K
   refine norm_ (a' := ?_) ?_ ?_
   rotate_left
   ·
    show Act.put _ (some 6) _ = _
    simp only [Act.put, List.setIfInBounds_toArray, List.set_cons_zero, List.set_cons_succ, i64_w, i32_w]
    rfl
   refine one_ (i := 3) (N := some 12) (bm_ 12 543) rfl rfl (one_of HT_.out (by kernel_rfl)) (by decide) (fun K hK => ?_)
   refine gr_ Tryz.func22 #[.agg #[.bool a0_0, .int .u64 a0_1, .int .u64 a0_2]] ?_
   with_reducible refine (addr_Width.calls a0_0 a0_1 a0_2 t597 _ A3.out).mono ?_
   rintro e w10 ⟨rfl, hb⟩
   refine ⟨_, rfl, ?_⟩
   replace BK594 := bb_ BK594 hb
   replace BK595 := bb_ BK595 hb
   replace BK596 := bb_ BK596 hb
   replace BK603 := bb_ BK603 hb
   replace HB := bs_ HB hb
   (try clear hb)
   (try clear hb2)
   (try clear hk)
   (try clear hi)
   refine hK.out _ _ ⟨kc_ BK594 0, kc_ BK594 1, kc_ BK594 2, kc_ BK594 3, kc_ BK595 0, kc_ BK595 1⟩ (fun hHeld => ?_)
   clear hK K
   refine norm_ (a' := ?_) ?_ ?_
   rotate_left
   ·
    show Act.put _ (some 12) _ = _
    simp only [Act.put, List.setIfInBounds_toArray, List.set_cons_zero, List.set_cons_succ, i64_w, i32_w]
    rfl
   refine one_ (i := 5) (N := some 14) (bm_ 12 575) rfl rfl (one_of HT_.out (by kernel_rfl)) (by decide) (fun K hK => ?_)
   refine gr_ Tryz.func49 #[.agg #[.bool a0_0, .int .u64 a0_1, .int .u64 a0_2, .int .i64 a0_3], .int .i64 t597, .agg #[.int .u64 a1_0, .int .u64 a1_1]] ?_
   with_reducible refine (carve_Block.calls a0_0 a0_1 a0_2 a0_3 t597 a1_0 a1_1 t598 t599 t600 t601 t602 _ A4.out).mono ?_
   rintro e w11 ⟨rfl, hb⟩
   refine ⟨_, rfl, ?_⟩
   replace BK594 := bb_ BK594 hb
   replace BK595 := bb_ BK595 hb
   replace BK596 := bb_ BK596 hb
   replace BK603 := bb_ BK603 hb
   replace HB := bs_ HB hb
   (try clear hb)
   (try clear hb2)
   (try clear hk)
   (try clear hi)
   refine hK.out _ _ ⟨kc_ BK594 0, kc_ BK594 1, kc_ BK594 2, kc_ BK594 3, kc_ BK595 0, kc_ BK595 1⟩ (fun hHeld => ?_)
   clear hK K
   refine norm_ (a' := ?_) ?_ ?_
   rotate_left
   ·
    show Act.put _ (some 14) _ = _
    simp only [Act.put, List.setIfInBounds_toArray, List.set_cons_zero, List.set_cons_succ, i64_w, i32_w]
    rfl
   refine pu_ 6 (some 8) (bm_ 12 639) rfl HT_ ⟨by rfl, by intro w'; go_simp; with_reducible rfl⟩ ?_
   refine pu_ 7 (some 15) (bm_ 12 767) rfl HT_ ⟨by rfl, by intro w'; go_simp; with_reducible rfl⟩ ?_
   refine pu_ 8 (some 16) (bm_ 12 1023) rfl HT_ ⟨by rfl, by intro w'; go_simp; with_reducible rfl⟩ ?_
   exact norm_ (by simp only [putAll, Act.put, List.setIfInBounds_toArray, List.set_cons_zero, List.set_cons_succ]) (hCont (gb603) _ ⟨hHeld, (pk_ BK594), (pk_ BK595), (pk_ BK596), (pk_ BK603), GW603.out, GE603.out, NB594_603.out, NB603_594.out, NB595_603.out, NB603_595.out, NB596_603.out, NB603_596.out, (pb_ HB)⟩)
 rintro gb603 w12 ⟨hS_, h0_, h1_, h2_, h3_, h4_, h5_, h6_, h7_, h8_, h9_, h10_, h11_, h12_⟩
 have n0_ : Aside0 (w12.heap[gb594]? = some (.cells #[.bool a0_0, .int .u64 a0_1, .int .u64 a0_2, .int .i64 a0_3] 38 (0, 0))) := ⟨h0_⟩
 have n1_ : Aside0 (w12.heap[gb595]? = some (.cells #[.int .u64 a1_0, .int .u64 a1_1] 24 (0, 0))) := ⟨h1_⟩
 have n2_ : Aside0 (w12.heap[gb596]? = some (.cells #[.bool false, .int .u64 0, .int .u64 0] 26 (0, 0))) := ⟨h2_⟩
 have n3_ : Aside0 (w12.heap[gb603]? = some (.cells #[.bool false, .int .u64 0, .int .u64 0, .int .i64 0] 38 (0, 0))) := ⟨h3_⟩
 have n4_ : Aside0 (w.heap.size ≤ gb603) := ⟨h4_⟩
 have n5_ : Aside0 (w.heap.size ≤ gb603) := ⟨h5_⟩
 have n6_ : Aside0 (gb594 ≠ gb603) := ⟨h6_⟩
 have n7_ : Aside0 (gb603 ≠ gb594) := ⟨h7_⟩
 have n8_ : Aside0 (gb595 ≠ gb603) := ⟨h8_⟩
 have n9_ : Aside0 (gb603 ≠ gb595) := ⟨h9_⟩
 have n10_ : Aside0 (gb596 ≠ gb603) := ⟨h10_⟩
 have n11_ : Aside0 (gb603 ≠ gb596) := ⟨h11_⟩
 have n12_ : Aside0 (Below w.heap.size w w12) := ⟨h12_⟩
 clear BK594
 clear BK595
 clear BK596
 clear HB
 clear h0_ h1_ h2_ h3_ h4_ h5_ h6_ h7_ h8_ h9_ h10_ h11_ h12_
 have BK594 := n0_
 have BK595 := n1_
 have BK596 := n2_
 have BK603 := n3_
 have GW603 := n4_
 have GE603 := n5_
 have NB594_603 := n6_
 have NB603_594 := n7_
 have NB595_603 := n8_
 have NB603_595 := n9_
 have NB596_603 := n10_
 have NB603_596 := n11_
 have HB := n12_
 clear n0_ n1_ n2_ n3_ n4_ n5_ n6_ n7_ n8_ n9_ n10_ n11_ n12_
 have hHeld : w12.cell? ⟨gb594, 0, none⟩ = some (.bool a0_0) ∧ w12.cell? ⟨gb594, 1, none⟩ = some (.int .u64 a0_1) ∧ w12.cell? ⟨gb594, 2, none⟩ = some (.int .u64 a0_2) ∧ w12.cell? ⟨gb594, 3, none⟩ = some (.int .i64 a0_3) ∧ w12.cell? ⟨gb595, 0, none⟩ = some (.int .u64 a1_0) ∧ w12.cell? ⟨gb595, 1, none⟩ = some (.int .u64 a1_1) := hS_
 refine norm_ (a' := ?_) ?_ ?_
 rotate_left
 ·
  simp only [putAll, Act.put, List.setIfInBounds_toArray, List.set_cons_zero, List.set_cons_succ]
  rfl
 refine one_ (i := 10) (N := none) (bm_ 12 2047) rfl rfl (one_of HT_.out (by kernel_rfl)) (by decide) (fun K hK => ?_)
 have hs13 : w12.cell? ⟨gb603, 0, none⟩ = some (.bool false) := kc_ BK603 0
 have hfs13 := blk_frozen BK603.out 0
 have hns13_0 := NB594_603.out
 have hns13_1 := NB595_603.out
 have hns13_2 := NB596_603.out
 have hms13_0 := NB603_594.out
 have hms13_1 := NB603_595.out
 have hms13_2 := NB603_596.out
 have hs14 : w12.cell? ⟨gb603, 1, none⟩ = some (.int .u64 0) := kc_ BK603 1
 have hfs14 := blk_frozen BK603.out 1
 have hns14_0 := NB594_603.out
 have hns14_1 := NB595_603.out
 have hns14_2 := NB596_603.out
 have hms14_0 := NB603_594.out
 have hms14_1 := NB603_595.out
 have hms14_2 := NB603_596.out
 have hs15 : w12.cell? ⟨gb603, 2, none⟩ = some (.int .u64 0) := kc_ BK603 2
 have hfs15 := blk_frozen BK603.out 2
 have hns15_0 := NB594_603.out
 have hns15_1 := NB595_603.out
 have hns15_2 := NB596_603.out
 have hms15_0 := NB603_594.out
 have hms15_1 := NB603_595.out
 have hms15_2 := NB603_596.out
 have hs16 : w12.cell? ⟨gb603, 3, none⟩ = some (.int .i64 0) := kc_ BK603 3
 have hfs16 := blk_frozen BK603.out 3
 have hns16_0 := NB594_603.out
 have hns16_1 := NB595_603.out
 have hns16_2 := NB596_603.out
 have hms16_0 := NB603_594.out
 have hms16_1 := NB603_595.out
 have hms16_2 := NB603_596.out
 refine skip_ (w1 := ?_) (by rfl) rfl ?_ ?_
 rotate_left
 ·
  go_simp
  rfl
 refine hK.out _ _ ⟨((cell_far (p := ⟨gb603, _, none⟩) NB594_603.out _).trans (((cell_far (p := ⟨gb603, _, none⟩) NB594_603.out _).trans (((cell_far (p := ⟨gb603, _, none⟩) NB594_603.out _).trans (((cell_far (p := ⟨gb603, _, none⟩) NB594_603.out _).trans (hHeld.1)))))))), ((cell_far (p := ⟨gb603, _, none⟩) NB594_603.out _).trans (((cell_far (p := ⟨gb603, _, none⟩) NB594_603.out _).trans (((cell_far (p := ⟨gb603, _, none⟩) NB594_603.out _).trans (((cell_far (p := ⟨gb603, _, none⟩) NB594_603.out _).trans (hHeld.2.1)))))))), ((cell_far (p := ⟨gb603, _, none⟩) NB594_603.out _).trans (((cell_far (p := ⟨gb603, _, none⟩) NB594_603.out _).trans (((cell_far (p := ⟨gb603, _, none⟩) NB594_603.out _).trans (((cell_far (p := ⟨gb603, _, none⟩) NB594_603.out _).trans (hHeld.2.2.1)))))))), ((cell_far (p := ⟨gb603, _, none⟩) NB594_603.out _).trans (((cell_far (p := ⟨gb603, _, none⟩) NB594_603.out _).trans (((cell_far (p := ⟨gb603, _, none⟩) NB594_603.out _).trans (((cell_far (p := ⟨gb603, _, none⟩) NB594_603.out _).trans (hHeld.2.2.2.1)))))))), ((cell_far (p := ⟨gb603, _, none⟩) NB595_603.out _).trans (((cell_far (p := ⟨gb603, _, none⟩) NB595_603.out _).trans (((cell_far (p := ⟨gb603, _, none⟩) NB595_603.out _).trans (((cell_far (p := ⟨gb603, _, none⟩) NB595_603.out _).trans (hHeld.2.2.2.2.1)))))))), ((cell_far (p := ⟨gb603, _, none⟩) NB595_603.out _).trans (((cell_far (p := ⟨gb603, _, none⟩) NB595_603.out _).trans (((cell_far (p := ⟨gb603, _, none⟩) NB595_603.out _).trans (((cell_far (p := ⟨gb603, _, none⟩) NB595_603.out _).trans (hHeld.2.2.2.2.2))))))))⟩ (fun hHeld => ?_)
 clear hK K
 refine pu_ 11 (some 7) (bm_ 12 4095) rfl HT_ ⟨by rfl, by intro w'; go_simp; with_reducible rfl⟩ ?_
 refine done_ (done_of HT_.out (by kernel_rfl)) ?_
 have hnb17 := NB603_594.out
 have hnc17 := NB594_603.out
 have hnb18 := NB603_595.out
 have hnc18 := NB595_603.out
 have hnb19 := NB603_596.out
 have hnc19 := NB596_603.out
 obtain ⟨hcz20_0, hcz20_1, hcz20_2, hcz20_3, hfz20_0, hfz20_1, hfz20_2, hfz20_3⟩ := c4_ BK603
 have hnb21 := NB596_594.out
 have hnc21 := NB594_596.out
 have hnb22 := NB596_595.out
 have hnc22 := NB595_596.out
 obtain ⟨hcz23_0, hcz23_1, hcz23_2, hfz23_0, hfz23_1, hfz23_2⟩ := c3_ BK596
 try go_wp2
 refine bodyPost_ret (results_ct rfl _ _ gb596 26 #[.bool t598, .int .u64 t599, .int .u64 t600] (0, 0) _ rfl (by refine pw_ ?_; refine blk_put (cs := #[.bool t598, .int .u64 t599, .int .u64 0]) ?_ 2 _ rfl; refine pw_ ?_; refine blk_put (cs := #[.bool t598, .int .u64 0, .int .u64 0]) ?_ 1 _ rfl; refine pw_ ?_; refine blk_put (cs := #[.bool false, .int .u64 0, .int .u64 0]) ?_ 0 _ rfl; refine pw_ ?_; refine blk_far ?_ NB596_603.out _; refine pw_ ?_; refine blk_far ?_ NB596_603.out _; refine pw_ ?_; refine blk_far ?_ NB596_603.out _; refine pw_ ?_; refine blk_far ?_ NB596_603.out _; refine pw_ ?_; exact BK596.out) Tryz.underlying26 rfl (by kernel_rfl)) rfl ?_
 exact ⟨by first | rfl | (simp [errW_none, errW_some] <;> rfl) | (simp [*, errW_none, errW_some] <;> rfl), pb_ HB⟩

end Go.Proofs.YtgdgklibilddgaaGreatDoor.PPr

namespace Go.Proofs.YtgdgklibilddgaaGreatDoor.PPr
open Go.RowKit Go.Proofs.YtgdgklibilddgaaGreatDoorW.PrintWords Go.Proofs.YtgdgklibilddgaaGreatDoorW.PrintLast Go.Proofs.YtgdgklibilddgaaGreatDoorW.PrintMore
attribute [local go_sem] max2_int min2_int max_two min_two max_three min_three max_four min_four   -- for this text's walks alone

attribute [local go_sem high] eqA24 eqA26 eqA38
def carve_below.f (a0_0 : Bool) (a0_1 : Int) (a0_2 : Int) (a0_3 : Int) (a1_0 : Bool) (a1_1 : Int) (a1_2 : Int) (a2 : Int) : Option (Int × Int) := (addr_Width.f a1_0 a1_1 a1_2).bind fun t654 => ((num_Ones.f (wrap64 (t654 - a0_3))).bind fun bt655 => ((num_And.f a1_1 a1_2 bt655.1 bt655.2).bind fun bt657 => ((num_Shr.f bt657.1 bt657.2 a2).bind fun bt659 => (some (bt659.1, bt659.2)))))
def carve_below.T1 : Bool × List (List Nat × List Nat) := (true, [([], []), ([0], [0]), ([], []), ([2], [2]), ([], []), ([4], [4]), ([3, 5], [3, 5]), ([6, 3], [6]), ([1, 7, 7], [1, 7]), ([], []), ([8, 9, 8], [8, 9]), ([10, 10, 0, 1, 2, 3, 4, 5, 6, 7, 8, 9, 10], [10])])
def carve_below.B1 : List Nat := [0, 1, 0, 4, 0, 16, 60, 124, 255, 0, 1023, 2047]
theorem carve_below.tab1 : rtab .any (opsOf Tryz.f95 1) = carve_below.T1 := by kernel_rfl
theorem carve_below.bits1 : waitsOk carve_below.T1.2 carve_below.B1 = true := by kernel_rfl
set_option maxHeartbeats 8000000 in
set_option maxRecDepth 100000 in
theorem carve_below.calls (a0_0 : Bool) (a0_1 : Int) (a0_2 : Int) (a0_3 : Int) (a1_0 : Bool) (a1_1 : Int) (a1_2 : Int) (a2 : Int) (r1 : Int) (r2 : Int) (w : World) (h : carve_below.f a0_0 a0_1 a0_2 a0_3 a1_0 a1_1 a1_2 a2 = some (r1, r2)) :
  Calls Tryz.prog 95 #[.agg #[.bool a0_0, .int .u64 a0_1, .int .u64 a0_2, .int .i64 a0_3], .agg #[.bool a1_0, .int .u64 a1_1, .int .u64 a1_2], .int .i64 a2] w fun e w' => e = .returned (.agg #[.int .u64 r1, .int .u64 r2]) ∧ Below w.heap.size w w' := by
 have hu38 := Tryz.underlying38
 have hu26 := Tryz.underlying26
 have hu24 := Tryz.underlying24
 have HB := Aside0.mk (Below.refl w.heap.size w)
 have H : ((addr_Width.f a1_0 a1_1 a1_2).bind fun t654 => ((num_Ones.f (wrap64 (t654 - a0_3))).bind fun bt655 => ((num_And.f a1_1 a1_2 bt655.1 bt655.2).bind fun bt657 => ((num_Shr.f bt657.1 bt657.2 a2).bind fun bt659 => (some (bt659.1, bt659.2)))))) = some (r1, r2) := h
 clear h
 replace H := Option.bind_eq_some_iff.mp H
 obtain ⟨t654, A40, H⟩ := H
 replace H : ((num_Ones.f (wrap64 (t654 - a0_3))).bind fun bt655 => ((num_And.f a1_1 a1_2 bt655.1 bt655.2).bind fun bt657 => ((num_Shr.f bt657.1 bt657.2 a2).bind fun bt659 => (some (bt659.1, bt659.2))))) = some (r1, r2) := H
 have A4 := Aside0.mk A40
 clear A40
 replace H := Option.bind_eq_some_iff.mp H
 obtain ⟨⟨t655, t656⟩, A50, H⟩ := H
 replace H : ((num_And.f a1_1 a1_2 t655 t656).bind fun bt657 => ((num_Shr.f bt657.1 bt657.2 a2).bind fun bt659 => (some (bt659.1, bt659.2)))) = some (r1, r2) := H
 have A5 := Aside0.mk A50
 clear A50
 replace H := Option.bind_eq_some_iff.mp H
 obtain ⟨⟨t657, t658⟩, A60, H⟩ := H
 replace H : ((num_Shr.f t657 t658 a2).bind fun bt659 => (some (bt659.1, bt659.2))) = some (r1, r2) := H
 have A6 := Aside0.mk A60
 clear A60
 replace H := Option.bind_eq_some_iff.mp H
 obtain ⟨⟨t659, t660⟩, A70, H⟩ := H
 replace H : (some (t659, t660)) = some (r1, r2) := H
 have A7 := Aside0.mk A70
 clear A70
 simp only [Option.some.injEq, Prod.mk.injEq] at H
 obtain ⟨rfl, rfl⟩ := H
 go_enter Tryz.func95, Tryz.ntmps95
 try go_wp2_with (first | ((with_reducible refine gate_dst (N := 3) rfl ?_); refine bx_ 3 #[.bool a0_0, .int .u64 a0_1, .int .u64 a0_2, .int .i64 a0_3] 38 ?_; intro gb651 hg w8 hbox hb; have BK651 := Aside0.mk (hbox); have GW651 := gw_ HB hg; have GE651 := gw_ HB hg; replace HB := bs_ HB hb; clear hb hbox hg) | ((with_reducible refine gate_dst (N := 4) rfl ?_); refine bx_ 4 #[.bool a1_0, .int .u64 a1_1, .int .u64 a1_2] 26 ?_; intro gb652 hg w9 hbox hb; have BK652 := Aside0.mk (hbox); have GW652 := gw_ HB hg; have GE652 := gw_ HB hg; have NB651_652 := nl_ BK651 hg; have NB652_651 := ng_ BK651 hg; replace BK651 := bb_ BK651 hb; replace HB := bs_ HB hb; clear hb hbox hg) | ((with_reducible refine gate_dst (N := 6) rfl ?_); refine bx_ 6 #[.int .u64 0, .int .u64 0] 24 ?_; intro gb653 hg w10 hbox hb; have BK653 := Aside0.mk (hbox); have GW653 := gw_ HB hg; have GE653 := gw_ HB hg; have NB651_653 := nl_ BK651 hg; have NB653_651 := ng_ BK651 hg; have NB652_653 := nl_ BK652 hg; have NB653_652 := ng_ BK652 hg; replace BK651 := bb_ BK651 hb; replace BK652 := bb_ BK652 hb; replace HB := bs_ HB hb; clear hb hbox hg))
 replace BK651 := Aside0.mk (blk_drew BK651.out)
 replace BK652 := Aside0.mk (blk_drew BK652.out)
 replace BK653 := Aside0.mk (blk_drew BK653.out)
 replace HB := Aside0.mk (below_drew1 HB.out)
 refine start_ (n := 12) (S := fun w' => w'.cell? ⟨gb652, 0, none⟩ = some (.bool a1_0) ∧ w'.cell? ⟨gb652, 1, none⟩ = some (.int .u64 a1_1) ∧ w'.cell? ⟨gb652, 2, none⟩ = some (.int .u64 a1_2) ∧ w'.cell? ⟨gb651, 0, none⟩ = some (.bool a0_0) ∧ w'.cell? ⟨gb651, 1, none⟩ = some (.int .u64 a0_1) ∧ w'.cell? ⟨gb651, 2, none⟩ = some (.int .u64 a0_2) ∧ w'.cell? ⟨gb651, 3, none⟩ = some (.int .i64 a0_3)) (ds := []) (bm_ 12 0) (by kernel_rfl) rfl rfl ⟨kc_ BK652 0, kc_ BK652 1, kc_ BK652 2, kc_ BK651 0, kc_ BK651 1, kc_ BK651 2, kc_ BK651 3⟩ (fun hHeld => ?_); refine with_tabW carve_below.tab1 carve_below.bits1 (fun HT_ HW_ => ?_)
 generalize w10.drew = w11 at BK651 BK652 BK653 HB hHeld ⊢
 refine pu_ 0 (some 7) (bm_ 12 1) rfl HT_ ⟨by rfl, by intro w'; go_simp; with_reducible rfl⟩ ?_
 refine pu_ 4 (some 11) (bm_ 12 17) rfl HT_ ⟨by rfl, by intro w'; go_simp; with_reducible rfl⟩ ?_
 refine pu_ 9 (some 16) (bm_ 12 529) rfl HT_ ⟨by rfl, by intro w'; go_simp; with_reducible rfl⟩ ?_
 refine ta_ 1 (some 8) (bm_ 12 531) rfl HT_ HW_ ⟨by rfl, by rintro w' ⟨s0, s1, s2, s3, s4, s5, s6⟩; go_simp; with_reducible rfl⟩ hHeld ?_
 refine ta_ 2 (some 9) (bm_ 12 535) rfl HT_ HW_ ⟨by rfl, by rintro w' ⟨s0, s1, s2, s3, s4, s5, s6⟩; go_simp; with_reducible rfl⟩ hHeld ?_
 refine ta_ 5 (some 12) (bm_ 12 567) rfl HT_ HW_ ⟨by rfl, by rintro w' ⟨s0, s1, s2, s3, s4, s5, s6⟩; go_simp; with_reducible rfl⟩ hHeld ?_
 refine one_ (i := 3) (N := some 10) (bm_ 12 575) rfl rfl (one_of HT_.out (by kernel_rfl)) (by decide) (fun K hK => ?_)
 refine gr_ Tryz.func22 #[.agg #[.bool a1_0, .int .u64 a1_1, .int .u64 a1_2]] ?_
 with_reducible refine (addr_Width.calls a1_0 a1_1 a1_2 t654 _ A4.out).mono ?_
 rintro e w12 ⟨rfl, hb⟩
 refine ⟨_, rfl, ?_⟩
 replace BK651 := bb_ BK651 hb
 replace BK652 := bb_ BK652 hb
 replace BK653 := bb_ BK653 hb
 replace HB := bs_ HB hb
 (try clear hb)
 (try clear hb2)
 (try clear hk)
 (try clear hi)
 refine hK.out _ _ ⟨kc_ BK652 0, kc_ BK652 1, kc_ BK652 2, kc_ BK651 0, kc_ BK651 1, kc_ BK651 2, kc_ BK651 3⟩ (fun hHeld => ?_)
 clear hK K
 refine norm_ (a' := ?_) ?_ ?_
 rotate_left
 ·
  show Act.put _ (some 10) _ = _
  simp only [Act.put, List.setIfInBounds_toArray, List.set_cons_zero, List.set_cons_succ, i64_w, i32_w]
  rfl
 refine pu_ 6 (some 13) (bm_ 12 639) rfl HT_ ⟨by rfl, by intro w'; go_simp; with_reducible rfl⟩ ?_
 refine one_ (i := 7) (N := some 14) (bm_ 12 767) rfl rfl (one_of HT_.out (by kernel_rfl)) (by decide) (fun K hK => ?_)
 refine gr_ Tryz.func119 #[.int .i64 (wrap64 (t654 - a0_3))] ?_
 with_reducible refine (num_Ones.calls (wrap64 (t654 - a0_3)) t655 t656 _ A5.out).mono ?_
 rintro e w13 ⟨rfl, hb⟩
 refine ⟨_, rfl, ?_⟩
 replace BK651 := bb_ BK651 hb
 replace BK652 := bb_ BK652 hb
 replace BK653 := bb_ BK653 hb
 replace HB := bs_ HB hb
 (try clear hb)
 (try clear hb2)
 (try clear hk)
 (try clear hi)
 refine hK.out _ _ ⟨kc_ BK652 0, kc_ BK652 1, kc_ BK652 2, kc_ BK651 0, kc_ BK651 1, kc_ BK651 2, kc_ BK651 3⟩ (fun hHeld => ?_)
 clear hK K
 refine norm_ (a' := ?_) ?_ ?_
 rotate_left
 ·
  show Act.put _ (some 14) _ = _
  simp only [Act.put, List.setIfInBounds_toArray, List.set_cons_zero, List.set_cons_succ, i64_w, i32_w]
  rfl
 refine one_ (i := 8) (N := some 15) (bm_ 12 1023) rfl rfl (one_of HT_.out (by kernel_rfl)) (by decide) (fun K hK => ?_)
 refine gr_ Tryz.func79 #[.agg #[.int .u64 a1_1, .int .u64 a1_2], .agg #[.int .u64 t655, .int .u64 t656]] ?_
 with_reducible refine (num_And.calls a1_1 a1_2 t655 t656 t657 t658 _ A6.out).mono ?_
 rintro e w14 ⟨rfl, hb⟩
 refine ⟨_, rfl, ?_⟩
 replace BK651 := bb_ BK651 hb
 replace BK652 := bb_ BK652 hb
 replace BK653 := bb_ BK653 hb
 replace HB := bs_ HB hb
 (try clear hb)
 (try clear hb2)
 (try clear hk)
 (try clear hi)
 refine hK.out _ _ ⟨kc_ BK652 0, kc_ BK652 1, kc_ BK652 2, kc_ BK651 0, kc_ BK651 1, kc_ BK651 2, kc_ BK651 3⟩ (fun hHeld => ?_)
 clear hK K
 refine norm_ (a' := ?_) ?_ ?_
 rotate_left
 ·
  show Act.put _ (some 15) _ = _
  simp only [Act.put, List.setIfInBounds_toArray, List.set_cons_zero, List.set_cons_succ, i64_w, i32_w]
  rfl
 refine one_ (i := 10) (N := some 17) (bm_ 12 2047) rfl rfl (one_of HT_.out (by kernel_rfl)) (by decide) (fun K hK => ?_)
 refine gr_ Tryz.func56 #[.agg #[.int .u64 t657, .int .u64 t658], .int .i64 a2] ?_
 with_reducible refine (num_Shr.calls t657 t658 a2 t659 t660 _ A7.out).mono ?_
 rintro e w15 ⟨rfl, hb⟩
 refine ⟨_, rfl, ?_⟩
 replace BK651 := bb_ BK651 hb
 replace BK652 := bb_ BK652 hb
 replace BK653 := bb_ BK653 hb
 replace HB := bs_ HB hb
 (try clear hb)
 (try clear hb2)
 (try clear hk)
 (try clear hi)
 refine hK.out _ _ ⟨kc_ BK652 0, kc_ BK652 1, kc_ BK652 2, kc_ BK651 0, kc_ BK651 1, kc_ BK651 2, kc_ BK651 3⟩ (fun hHeld => ?_)
 clear hK K
 refine norm_ (a' := ?_) ?_ ?_
 rotate_left
 ·
  show Act.put _ (some 17) _ = _
  simp only [Act.put, List.setIfInBounds_toArray, List.set_cons_zero, List.set_cons_succ, i64_w, i32_w]
  rfl
 refine one_ (i := 11) (N := none) (bm_ 12 4095) rfl rfl (one_of HT_.out (by kernel_rfl)) (by decide) (fun K hK => ?_)
 have hs16 : w15.cell? ⟨gb653, 0, none⟩ = some (.int .u64 0) := kc_ BK653 0
 have hfs16 := blk_frozen BK653.out 0
 have hns16_0 := NB651_653.out
 have hns16_1 := NB652_653.out
 have hms16_0 := NB653_651.out
 have hms16_1 := NB653_652.out
 have hs17 : w15.cell? ⟨gb653, 1, none⟩ = some (.int .u64 0) := kc_ BK653 1
 have hfs17 := blk_frozen BK653.out 1
 have hns17_0 := NB651_653.out
 have hns17_1 := NB652_653.out
 have hms17_0 := NB653_651.out
 have hms17_1 := NB653_652.out
 refine skip_ (w1 := ?_) (by rfl) rfl ?_ ?_
 rotate_left
 ·
  go_simp
  rfl
 refine hK.out _ _ ⟨((cell_far (p := ⟨gb653, _, none⟩) NB652_653.out _).trans (((cell_far (p := ⟨gb653, _, none⟩) NB652_653.out _).trans (hHeld.1)))), ((cell_far (p := ⟨gb653, _, none⟩) NB652_653.out _).trans (((cell_far (p := ⟨gb653, _, none⟩) NB652_653.out _).trans (hHeld.2.1)))), ((cell_far (p := ⟨gb653, _, none⟩) NB652_653.out _).trans (((cell_far (p := ⟨gb653, _, none⟩) NB652_653.out _).trans (hHeld.2.2.1)))), ((cell_far (p := ⟨gb653, _, none⟩) NB651_653.out _).trans (((cell_far (p := ⟨gb653, _, none⟩) NB651_653.out _).trans (hHeld.2.2.2.1)))), ((cell_far (p := ⟨gb653, _, none⟩) NB651_653.out _).trans (((cell_far (p := ⟨gb653, _, none⟩) NB651_653.out _).trans (hHeld.2.2.2.2.1)))), ((cell_far (p := ⟨gb653, _, none⟩) NB651_653.out _).trans (((cell_far (p := ⟨gb653, _, none⟩) NB651_653.out _).trans (hHeld.2.2.2.2.2.1)))), ((cell_far (p := ⟨gb653, _, none⟩) NB651_653.out _).trans (((cell_far (p := ⟨gb653, _, none⟩) NB651_653.out _).trans (hHeld.2.2.2.2.2.2))))⟩ (fun hHeld => ?_)
 clear hK K
 refine done_ (done_of HT_.out (by kernel_rfl)) ?_
 try go_wp2
 refine bodyPost_ret (results_cell_row rfl _ _ gb653 24 #[.int .u64 t659, .int .u64 t660] (0, 0) _ rfl (by refine pw_ ?_; refine blk_put (cs := #[.int .u64 t659, .int .u64 0]) ?_ 1 _ rfl; refine pw_ ?_; refine blk_put (cs := #[.int .u64 0, .int .u64 0]) ?_ 0 _ rfl; refine pw_ ?_; exact BK653.out) Tryz.underlying24 rfl (by kernel_rfl)) rfl ?_
 exact ⟨by first | rfl | (simp [errW_none, errW_some] <;> rfl) | (simp [*, errW_none, errW_some] <;> rfl), pb_ HB⟩

def carve_Number.f (k : Nat) (a0_0 : Bool) (a0_1 : Int) (a0_2 : Int) (a0_3 : Int) (a1_0 : Bool) (a1_1 : Int) (a1_2 : Int) : Option (Int × Int × Int) := (prefix_Right.f a0_0 a0_1 a0_2 a0_3).bind fun t664 => (if t664 = true then ((prefix_Has.f k a0_0 a0_1 a0_2 a0_3 a1_0 a1_1 a1_2).bind fun t665 => (if t665 = true then ((carve_below.f a0_0 a0_1 a0_2 a0_3 a1_0 a1_1 a1_2 0).bind fun bt666 => (some (bt666.1, bt666.2, 0))) else (some (0, 0, 12)))) else (some (0, 0, 1)))
set_option maxHeartbeats 8000000 in
set_option maxRecDepth 100000 in
theorem carve_Number.calls (k : Nat) (a0_0 : Bool) (a0_1 : Int) (a0_2 : Int) (a0_3 : Int) (a1_0 : Bool) (a1_1 : Int) (a1_2 : Int) (r1 : Int) (r2 : Int) (r3 : Int) (w : World) (h : carve_Number.f k a0_0 a0_1 a0_2 a0_3 a1_0 a1_1 a1_2 = some (r1, r2, r3)) :
  Calls Tryz.prog 54 #[.agg #[.bool a0_0, .int .u64 a0_1, .int .u64 a0_2, .int .i64 a0_3], .agg #[.bool a1_0, .int .u64 a1_1, .int .u64 a1_2]] w fun e w' => e = .returned (.tuple #[.agg #[.int .u64 r1, .int .u64 r2], .int .i64 r3]) ∧ Below w.heap.size w w' := by
 have hu38 := Tryz.underlying38
 have hu26 := Tryz.underlying26
 have hu24 := Tryz.underlying24
 have HB := Aside0.mk (Below.refl w.heap.size w)
 have H : ((prefix_Right.f a0_0 a0_1 a0_2 a0_3).bind fun t664 => (if t664 = true then ((prefix_Has.f k a0_0 a0_1 a0_2 a0_3 a1_0 a1_1 a1_2).bind fun t665 => (if t665 = true then ((carve_below.f a0_0 a0_1 a0_2 a0_3 a1_0 a1_1 a1_2 0).bind fun bt666 => (some (bt666.1, bt666.2, 0))) else (some (0, 0, 12)))) else (some (0, 0, 1)))) = some (r1, r2, r3) := h
 clear h
 replace H := Option.bind_eq_some_iff.mp H
 obtain ⟨t664, A30, H⟩ := H
 replace H : (if t664 = true then ((prefix_Has.f k a0_0 a0_1 a0_2 a0_3 a1_0 a1_1 a1_2).bind fun t665 => (if t665 = true then ((carve_below.f a0_0 a0_1 a0_2 a0_3 a1_0 a1_1 a1_2 0).bind fun bt666 => (some (bt666.1, bt666.2, 0))) else (some (0, 0, 12)))) else (some (0, 0, 1))) = some (r1, r2, r3) := H
 have A3 := Aside0.mk A30
 clear A30
 by_cases c4 : t664 = true
 ·
  subst c4
  rw [if_pos rfl] at H
  replace H := Option.bind_eq_some_iff.mp H
  obtain ⟨t665, A50, H⟩ := H
  replace H : (if t665 = true then ((carve_below.f a0_0 a0_1 a0_2 a0_3 a1_0 a1_1 a1_2 0).bind fun bt666 => (some (bt666.1, bt666.2, 0))) else (some (0, 0, 12))) = some (r1, r2, r3) := H
  have A5 := Aside0.mk A50
  clear A50
  by_cases c6 : t665 = true
  ·
   subst c6
   rw [if_pos rfl] at H
   replace H := Option.bind_eq_some_iff.mp H
   obtain ⟨⟨t666, t667⟩, A70, H⟩ := H
   replace H : (some (t666, t667, 0)) = some (r1, r2, r3) := H
   have A7 := Aside0.mk A70
   clear A70
   simp only [Option.some.injEq, Prod.mk.injEq] at H
   obtain ⟨rfl, rfl, rfl⟩ := H
   go_enter Tryz.func54, Tryz.ntmps54
   go_wp2_with (first | ((with_reducible refine gate_dst (N := 2) rfl ?_); refine bx_ 2 #[.bool a0_0, .int .u64 a0_1, .int .u64 a0_2, .int .i64 a0_3] 38 ?_; intro gb661 hg w8 hbox hb; have BK661 := Aside0.mk (hbox); have GW661 := gw_ HB hg; have GE661 := gw_ HB hg; replace HB := bs_ HB hb; clear hb hbox hg) | ((with_reducible refine gate_dst (N := 3) rfl ?_); refine bx_ 3 #[.bool a1_0, .int .u64 a1_1, .int .u64 a1_2] 26 ?_; intro gb662 hg w9 hbox hb; have BK662 := Aside0.mk (hbox); have GW662 := gw_ HB hg; have GE662 := gw_ HB hg; have NB661_662 := nl_ BK661 hg; have NB662_661 := ng_ BK661 hg; replace BK661 := bb_ BK661 hb; replace HB := bs_ HB hb; clear hb hbox hg) | ((with_reducible refine gate_dst (N := 4) rfl ?_); refine bx_ 4 #[.int .u64 0, .int .u64 0] 24 ?_; intro gb663 hg w10 hbox hb; have BK663 := Aside0.mk (hbox); have GW663 := gw_ HB hg; have GE663 := gw_ HB hg; have NB661_663 := nl_ BK661 hg; have NB663_661 := ng_ BK661 hg; have NB662_663 := nl_ BK662 hg; have NB663_662 := ng_ BK662 hg; replace BK661 := bb_ BK661 hb; replace BK662 := bb_ BK662 hb; replace HB := bs_ HB hb; clear hb hbox hg; have hnb11 := NB661_662.out; have hnc11 := NB662_661.out; have hnb12 := NB661_663.out; have hnc12 := NB663_661.out; obtain ⟨hcz13_0, hcz13_1, hcz13_2, hcz13_3, hfz13_0, hfz13_1, hfz13_2, hfz13_3⟩ := c4_ BK661) | ((with_reducible refine gate_callee (f := 36) rfl ?_); refine gl_ (some 8) Tryz.func36 #[.agg #[.bool a0_0, .int .u64 a0_1, .int .u64 a0_2, .int .i64 a0_3]] ?_; (with_reducible refine (prefix_Right.calls a0_0 a0_1 a0_2 a0_3 true _ A3.out).mono ?_); rintro e w14 ⟨rfl, hb⟩; refine ⟨_, rfl, ?_⟩; replace BK661 := bb_ BK661 hb; replace BK662 := bb_ BK662 hb; replace BK663 := bb_ BK663 hb; replace HB := bs_ HB hb; (try clear hb); (try clear hb2); (try clear hk); (try clear hi); obtain ⟨hcz15_0, hcz15_1, hcz15_2, hcz15_3, hfz15_0, hfz15_1, hfz15_2, hfz15_3⟩ := c4_ BK661; have hnb16 := NB662_663.out; have hnc16 := NB663_662.out; obtain ⟨hcz17_0, hcz17_1, hcz17_2, hfz17_0, hfz17_1, hfz17_2⟩ := c3_ BK662) | ((with_reducible refine gate_callee (f := 40) rfl ?_); refine gl_ (some 14) Tryz.func40 #[.agg #[.bool a0_0, .int .u64 a0_1, .int .u64 a0_2, .int .i64 a0_3], .agg #[.bool a1_0, .int .u64 a1_1, .int .u64 a1_2]] ?_; (with_reducible refine (prefix_Has.calls k a0_0 a0_1 a0_2 a0_3 a1_0 a1_1 a1_2 true _ A5.out).mono ?_); rintro e w18 ⟨rfl, hb⟩; refine ⟨_, rfl, ?_⟩; replace BK661 := bb_ BK661 hb; replace BK662 := bb_ BK662 hb; replace BK663 := bb_ BK663 hb; replace HB := bs_ HB hb; (try clear hb); (try clear hb2); (try clear hk); (try clear hi); obtain ⟨hcz19_0, hcz19_1, hcz19_2, hcz19_3, hfz19_0, hfz19_1, hfz19_2, hfz19_3⟩ := c4_ BK661; obtain ⟨hcz20_0, hcz20_1, hcz20_2, hfz20_0, hfz20_1, hfz20_2⟩ := c3_ BK662) | ((with_reducible refine gate_callee (f := 95) rfl ?_); refine gl_ (some 19) Tryz.func95 #[.agg #[.bool a0_0, .int .u64 a0_1, .int .u64 a0_2, .int .i64 a0_3], .agg #[.bool a1_0, .int .u64 a1_1, .int .u64 a1_2], .int .i64 0] ?_; (with_reducible refine (carve_below.calls a0_0 a0_1 a0_2 a0_3 a1_0 a1_1 a1_2 0 t666 t667 _ A7.out).mono ?_); rintro e w21 ⟨rfl, hb⟩; refine ⟨_, rfl, ?_⟩; replace BK661 := bb_ BK661 hb; replace BK662 := bb_ BK662 hb; replace BK663 := bb_ BK663 hb; replace HB := bs_ HB hb; (try clear hb); (try clear hb2); (try clear hk); (try clear hi); obtain ⟨hcz22_0, hcz22_1, hfz22_0, hfz22_1⟩ := c2_ BK663))
   refine bodyPost_ret (results_ct rfl _ _ gb663 24 #[.int .u64 t666, .int .u64 t667] (0, 0) _ rfl (by refine pw_ ?_; refine blk_put (cs := #[.int .u64 t666, .int .u64 0]) ?_ 1 _ rfl; refine pw_ ?_; refine blk_put (cs := #[.int .u64 0, .int .u64 0]) ?_ 0 _ rfl; refine pw_ ?_; exact BK663.out) Tryz.underlying24 rfl (by kernel_rfl)) rfl ?_
   exact ⟨by first | rfl | (simp [errW_none, errW_some] <;> rfl) | (simp [*, errW_none, errW_some] <;> rfl), pb_ HB⟩
  ·
   replace c6 := Bool.eq_false_iff.mpr c6
   subst c6
   have H1 : (some (0, 0, 12)) = some (r1, r2, r3) := by rw [if_neg (show ¬ (false = true) by decide)] at H; exact H
   clear H
   have H := H1
   clear H1
   simp only [Option.some.injEq, Prod.mk.injEq] at H
   obtain ⟨rfl, rfl, rfl⟩ := H
   go_enter Tryz.func54, Tryz.ntmps54
   go_wp2_with (first | ((with_reducible refine gate_dst (N := 2) rfl ?_); refine bx_ 2 #[.bool a0_0, .int .u64 a0_1, .int .u64 a0_2, .int .i64 a0_3] 38 ?_; intro gb661 hg w23 hbox hb; have BK661 := Aside0.mk (hbox); have GW661 := gw_ HB hg; have GE661 := gw_ HB hg; replace HB := bs_ HB hb; clear hb hbox hg) | ((with_reducible refine gate_dst (N := 3) rfl ?_); refine bx_ 3 #[.bool a1_0, .int .u64 a1_1, .int .u64 a1_2] 26 ?_; intro gb662 hg w24 hbox hb; have BK662 := Aside0.mk (hbox); have GW662 := gw_ HB hg; have GE662 := gw_ HB hg; have NB661_662 := nl_ BK661 hg; have NB662_661 := ng_ BK661 hg; replace BK661 := bb_ BK661 hb; replace HB := bs_ HB hb; clear hb hbox hg) | ((with_reducible refine gate_dst (N := 4) rfl ?_); refine bx_ 4 #[.int .u64 0, .int .u64 0] 24 ?_; intro gb663 hg w25 hbox hb; have BK663 := Aside0.mk (hbox); have GW663 := gw_ HB hg; have GE663 := gw_ HB hg; have NB661_663 := nl_ BK661 hg; have NB663_661 := ng_ BK661 hg; have NB662_663 := nl_ BK662 hg; have NB663_662 := ng_ BK662 hg; replace BK661 := bb_ BK661 hb; replace BK662 := bb_ BK662 hb; replace HB := bs_ HB hb; clear hb hbox hg; have hnb26 := NB661_662.out; have hnc26 := NB662_661.out; have hnb27 := NB661_663.out; have hnc27 := NB663_661.out; obtain ⟨hcz28_0, hcz28_1, hcz28_2, hcz28_3, hfz28_0, hfz28_1, hfz28_2, hfz28_3⟩ := c4_ BK661) | ((with_reducible refine gate_callee (f := 36) rfl ?_); refine gl_ (some 8) Tryz.func36 #[.agg #[.bool a0_0, .int .u64 a0_1, .int .u64 a0_2, .int .i64 a0_3]] ?_; (with_reducible refine (prefix_Right.calls a0_0 a0_1 a0_2 a0_3 true _ A3.out).mono ?_); rintro e w29 ⟨rfl, hb⟩; refine ⟨_, rfl, ?_⟩; replace BK661 := bb_ BK661 hb; replace BK662 := bb_ BK662 hb; replace BK663 := bb_ BK663 hb; replace HB := bs_ HB hb; (try clear hb); (try clear hb2); (try clear hk); (try clear hi); obtain ⟨hcz30_0, hcz30_1, hcz30_2, hcz30_3, hfz30_0, hfz30_1, hfz30_2, hfz30_3⟩ := c4_ BK661; have hnb31 := NB662_663.out; have hnc31 := NB663_662.out; obtain ⟨hcz32_0, hcz32_1, hcz32_2, hfz32_0, hfz32_1, hfz32_2⟩ := c3_ BK662) | ((with_reducible refine gate_callee (f := 40) rfl ?_); refine gl_ (some 14) Tryz.func40 #[.agg #[.bool a0_0, .int .u64 a0_1, .int .u64 a0_2, .int .i64 a0_3], .agg #[.bool a1_0, .int .u64 a1_1, .int .u64 a1_2]] ?_; (with_reducible refine (prefix_Has.calls k a0_0 a0_1 a0_2 a0_3 a1_0 a1_1 a1_2 false _ A5.out).mono ?_); rintro e w33 ⟨rfl, hb⟩; refine ⟨_, rfl, ?_⟩; replace BK661 := bb_ BK661 hb; replace BK662 := bb_ BK662 hb; replace BK663 := bb_ BK663 hb; replace HB := bs_ HB hb; (try clear hb); (try clear hb2); (try clear hk); (try clear hi); obtain ⟨hcz34_0, hcz34_1, hfz34_0, hfz34_1⟩ := c2_ BK663))
   refine bodyPost_ret (results_ct rfl _ _ gb663 24 #[.int .u64 0, .int .u64 0] (0, 0) _ rfl (by refine pw_ ?_; refine blk_put (cs := #[.int .u64 0, .int .u64 0]) ?_ 1 _ rfl; refine pw_ ?_; refine blk_put (cs := #[.int .u64 0, .int .u64 0]) ?_ 0 _ rfl; refine pw_ ?_; exact BK663.out) Tryz.underlying24 rfl (by kernel_rfl)) rfl ?_
   exact ⟨by first | rfl | (simp [errW_none, errW_some] <;> rfl) | (simp [*, errW_none, errW_some] <;> rfl), pb_ HB⟩
 ·
  replace c4 := Bool.eq_false_iff.mpr c4
  subst c4
  have H1 : (some (0, 0, 1)) = some (r1, r2, r3) := by rw [if_neg (show ¬ (false = true) by decide)] at H; exact H
  clear H
  have H := H1
  clear H1
  simp only [Option.some.injEq, Prod.mk.injEq] at H
  obtain ⟨rfl, rfl, rfl⟩ := H
  go_enter Tryz.func54, Tryz.ntmps54
  go_wp2_with (first | ((with_reducible refine gate_dst (N := 2) rfl ?_); refine bx_ 2 #[.bool a0_0, .int .u64 a0_1, .int .u64 a0_2, .int .i64 a0_3] 38 ?_; intro gb661 hg w35 hbox hb; have BK661 := Aside0.mk (hbox); have GW661 := gw_ HB hg; have GE661 := gw_ HB hg; replace HB := bs_ HB hb; clear hb hbox hg) | ((with_reducible refine gate_dst (N := 3) rfl ?_); refine bx_ 3 #[.bool a1_0, .int .u64 a1_1, .int .u64 a1_2] 26 ?_; intro gb662 hg w36 hbox hb; have BK662 := Aside0.mk (hbox); have GW662 := gw_ HB hg; have GE662 := gw_ HB hg; have NB661_662 := nl_ BK661 hg; have NB662_661 := ng_ BK661 hg; replace BK661 := bb_ BK661 hb; replace HB := bs_ HB hb; clear hb hbox hg) | ((with_reducible refine gate_dst (N := 4) rfl ?_); refine bx_ 4 #[.int .u64 0, .int .u64 0] 24 ?_; intro gb663 hg w37 hbox hb; have BK663 := Aside0.mk (hbox); have GW663 := gw_ HB hg; have GE663 := gw_ HB hg; have NB661_663 := nl_ BK661 hg; have NB663_661 := ng_ BK661 hg; have NB662_663 := nl_ BK662 hg; have NB663_662 := ng_ BK662 hg; replace BK661 := bb_ BK661 hb; replace BK662 := bb_ BK662 hb; replace HB := bs_ HB hb; clear hb hbox hg; have hnb38 := NB661_662.out; have hnc38 := NB662_661.out; have hnb39 := NB661_663.out; have hnc39 := NB663_661.out; obtain ⟨hcz40_0, hcz40_1, hcz40_2, hcz40_3, hfz40_0, hfz40_1, hfz40_2, hfz40_3⟩ := c4_ BK661) | ((with_reducible refine gate_callee (f := 36) rfl ?_); refine gl_ (some 8) Tryz.func36 #[.agg #[.bool a0_0, .int .u64 a0_1, .int .u64 a0_2, .int .i64 a0_3]] ?_; (with_reducible refine (prefix_Right.calls a0_0 a0_1 a0_2 a0_3 false _ A3.out).mono ?_); rintro e w41 ⟨rfl, hb⟩; refine ⟨_, rfl, ?_⟩; replace BK661 := bb_ BK661 hb; replace BK662 := bb_ BK662 hb; replace BK663 := bb_ BK663 hb; replace HB := bs_ HB hb; (try clear hb); (try clear hb2); (try clear hk); (try clear hi); have hnb42 := NB663_662.out; have hnc42 := NB662_663.out; obtain ⟨hcz43_0, hcz43_1, hfz43_0, hfz43_1⟩ := c2_ BK663))
  refine bodyPost_ret (results_ct rfl _ _ gb663 24 #[.int .u64 0, .int .u64 0] (0, 0) _ rfl (by refine pw_ ?_; refine blk_put (cs := #[.int .u64 0, .int .u64 0]) ?_ 1 _ rfl; refine pw_ ?_; refine blk_put (cs := #[.int .u64 0, .int .u64 0]) ?_ 0 _ rfl; refine pw_ ?_; exact BK663.out) Tryz.underlying24 rfl (by kernel_rfl)) rfl ?_
  exact ⟨by first | rfl | (simp [errW_none, errW_some] <;> rfl) | (simp [*, errW_none, errW_some] <;> rfl), pb_ HB⟩

end Go.Proofs.YtgdgklibilddgaaGreatDoor.PPr

namespace Go.Proofs.YtgdgklibilddgaaGreatDoor.PPr
open Go.RowKit Go.Proofs.YtgdgklibilddgaaGreatDoorW.PrintWords Go.Proofs.YtgdgklibilddgaaGreatDoorW.PrintLast Go.Proofs.YtgdgklibilddgaaGreatDoorW.PrintMore
attribute [local go_sem] max2_int min2_int max_two min_two max_three min_three max_four min_four   -- for this text's walks alone

def platbookref03_Has.j0 : Nat → Bool → Bool → Int → Int → Int → Bool → Int → Int → Option (Bool)
 | 0, _, _, _, _, _, _, _, _ => none
 | k + 1, x20, x247000, x247001, x247002, x247003, x248000, x248001, x248002 => if x20 = true then (some false) else ((platbookref03_Row.f k x247000 x247001 x247002).bind fun t250 => ((platbookref03_Row.f k x248000 x248001 x248002).bind fun t253 => ((platbookref03_Alike.f k t250 t253).bind fun t256 => (some (decide (t256 ≥ x247003))))))
def platbookref03_Has.f (k : Nat) (a0_0 : Bool) (a0_1 : Int) (a0_2 : Int) (a0_3 : Int) (a1_0 : Bool) (a1_1 : Int) (a1_2 : Int) : Option (Bool) := (platbookref03_Right.f k a0_0 a0_1 a0_2 a0_3).bind fun t248 => (if t248 = true then ((platbookref02_Right.f a1_0 a1_1 a1_2).bind fun t249 => (if t249 = true then (platbookref03_Has.j0 k (a1_0 != a0_0) a0_0 a0_1 a0_2 a0_3 a1_0 a1_1 a1_2) else (platbookref03_Has.j0 k true a0_0 a0_1 a0_2 a0_3 a1_0 a1_1 a1_2))) else (platbookref03_Has.j0 k true a0_0 a0_1 a0_2 a0_3 a1_0 a1_1 a1_2))
def platbookref03_Has.T3 : Bool × List (List Nat × List Nat) := (true, [([], []), ([0], [0]), ([1], [1]), ([], []), ([3, 2], [3]), ([2, 4, 4], [2, 4]), ([], []), ([6], [6]), ([5, 7], [5, 7]), ([8, 5, 0, 1, 2, 3, 4, 5, 6, 7, 8], [8])])
def platbookref03_Has.B3 : List Nat := [0, 1, 3, 0, 15, 31, 0, 64, 255, 511]
theorem platbookref03_Has.tab3 : rtab .any (opsOf Tryz.f41 3) = platbookref03_Has.T3 := by kernel_rfl
theorem platbookref03_Has.bits3 : waitsOk platbookref03_Has.T3.2 platbookref03_Has.B3 = true := by kernel_rfl
set_option maxHeartbeats 8000000 in
set_option maxRecDepth 100000 in
theorem platbookref03_Has.calls (k : Nat) (a0_0 : Bool) (a0_1 : Int) (a0_2 : Int) (a0_3 : Int) (a1_0 : Bool) (a1_1 : Int) (a1_2 : Int) (r : Bool) (w : World) (h : platbookref03_Has.f k a0_0 a0_1 a0_2 a0_3 a1_0 a1_1 a1_2 = some r) :
  Calls Tryz.prog 41 #[.agg #[.bool a0_0, .int .u64 a0_1, .int .u64 a0_2, .int .i64 a0_3], .agg #[.bool a1_0, .int .u64 a1_1, .int .u64 a1_2]] w fun e w' => e = .returned (.bool r) ∧ Below w.heap.size w w' := by
 have hu38 := Tryz.underlying38
 have hu26 := Tryz.underlying26
 have HB := Aside0.mk (Below.refl w.heap.size w)
 have H : ((platbookref03_Right.f k a0_0 a0_1 a0_2 a0_3).bind fun t248 => (if t248 = true then ((platbookref02_Right.f a1_0 a1_1 a1_2).bind fun t249 => (if t249 = true then (platbookref03_Has.j0 k (a1_0 != a0_0) a0_0 a0_1 a0_2 a0_3 a1_0 a1_1 a1_2) else (platbookref03_Has.j0 k true a0_0 a0_1 a0_2 a0_3 a1_0 a1_1 a1_2))) else (platbookref03_Has.j0 k true a0_0 a0_1 a0_2 a0_3 a1_0 a1_1 a1_2))) = some r := h
 clear h
 have HC3 := Aside0.mk H
 clear H
 go_enter Tryz.func41, Tryz.ntmps41
 go_upto_region 1 with (first | ((with_reducible refine gate_dst (N := 2) rfl ?_); refine bx_ 2 #[.bool a0_0, .int .u64 a0_1, .int .u64 a0_2, .int .i64 a0_3] 38 ?_; intro gb246 hg w4 hbox hb; have BK246 := Aside0.mk (hbox); have GW246 := gw_ HB hg; have GE246 := gw_ HB hg; replace HB := bs_ HB hb; clear hb hbox hg) | ((with_reducible refine gate_dst (N := 3) rfl ?_); refine bx_ 3 #[.bool a1_0, .int .u64 a1_1, .int .u64 a1_2] 26 ?_; intro gb247 hg w5 hbox hb; have BK247 := Aside0.mk (hbox); have GW247 := gw_ HB hg; have GE247 := gw_ HB hg; have NB246_247 := nl_ BK246 hg; have NB247_246 := ng_ BK246 hg; replace BK246 := bb_ BK246 hb; replace HB := bs_ HB hb; clear hb hbox hg))
 (try simp only [Act.put, List.setIfInBounds_toArray, List.set_cons_zero, List.set_cons_succ])
 go_cut [20] (fun v20 wc => ∃ (kq : Nat) (x20_2 : Bool), v20 = .bool x20_2 ∧ Aside0 (platbookref03_Has.j0 kq x20_2 a0_0 a0_1 a0_2 a0_3 a1_0 a1_1 a1_2 = some r) ∧ Aside0 (kq ≤ k) ∧ Aside0 (wc.heap[gb246]? = some (.cells #[.bool a0_0, .int .u64 a0_1, .int .u64 a0_2, .int .i64 a0_3] 38 (0, 0))) ∧ Aside0 (wc.heap[gb247]? = some (.cells #[.bool a1_0, .int .u64 a1_1, .int .u64 a1_2] 26 (0, 0))) ∧ Aside0 (Below w.heap.size w wc))
 case first =>
  have H := HC3.out
  clear HC3
  replace H := Option.bind_eq_some_iff.mp H
  obtain ⟨t248, A60, H⟩ := H
  replace H : (if t248 = true then ((platbookref02_Right.f a1_0 a1_1 a1_2).bind fun t249 => (if t249 = true then (platbookref03_Has.j0 k (a1_0 != a0_0) a0_0 a0_1 a0_2 a0_3 a1_0 a1_1 a1_2) else (platbookref03_Has.j0 k true a0_0 a0_1 a0_2 a0_3 a1_0 a1_1 a1_2))) else (platbookref03_Has.j0 k true a0_0 a0_1 a0_2 a0_3 a1_0 a1_1 a1_2)) = some r := H
  have A6 := Aside0.mk A60
  clear A60
  by_cases c7 : t248 = true
  ·
   subst c7
   rw [if_pos rfl] at H
   replace H := Option.bind_eq_some_iff.mp H
   obtain ⟨t249, A80, H⟩ := H
   replace H : (if t249 = true then (platbookref03_Has.j0 k (a1_0 != a0_0) a0_0 a0_1 a0_2 a0_3 a1_0 a1_1 a1_2) else (platbookref03_Has.j0 k true a0_0 a0_1 a0_2 a0_3 a1_0 a1_1 a1_2)) = some r := H
   have A8 := Aside0.mk A80
   clear A80
   by_cases c9 : t249 = true
   ·
    subst c9
    rw [if_pos rfl] at H
    have H' := Aside0.mk H
    clear H
    have hnb10 := NB246_247.out
    have hnc10 := NB247_246.out
    obtain ⟨hcz11_0, hcz11_1, hcz11_2, hcz11_3, hfz11_0, hfz11_1, hfz11_2, hfz11_3⟩ := c4_ BK246
    go_wp2_with (first | ((with_reducible refine gate_callee (f := 29) rfl ?_); refine gl_ (some 6) Tryz.func29 #[.agg #[.bool a0_0, .int .u64 a0_1, .int .u64 a0_2, .int .i64 a0_3]] ?_; (with_reducible refine (platbookref03_Right.calls k a0_0 a0_1 a0_2 a0_3 true _ A6.out).mono ?_); rintro e w12 ⟨rfl, hb⟩; refine ⟨_, rfl, ?_⟩; replace BK246 := bb_ BK246 hb; replace BK247 := bb_ BK247 hb; replace HB := bs_ HB hb; (try clear hb); (try clear hb2); (try clear hk); (try clear hi); obtain ⟨hcz13_0, hcz13_1, hcz13_2, hfz13_0, hfz13_1, hfz13_2⟩ := c3_ BK247) | (go_at_call 19; (with_reducible refine (platbookref02_Right.calls a1_0 a1_1 a1_2 true _ A8.out).mono ?_); rintro e w14 ⟨rfl, hb⟩; replace BK246 := bb_ BK246 hb; replace BK247 := bb_ BK247 hb; replace HB := bs_ HB hb; (try clear hb); (try clear hb2); (try clear hk); (try clear hi); obtain ⟨hcz15_0, hcz15_1, hcz15_2, hfz15_0, hfz15_1, hfz15_2⟩ := c3_ BK247; obtain ⟨hcz16_0, hcz16_1, hcz16_2, hcz16_3, hfz16_0, hfz16_1, hfz16_2, hfz16_3⟩ := c4_ BK246))
    go_meet
    case rel => exact ⟨_, ((a1_0 != a0_0)), (by first | rfl | (simp; done) | (simp [*]; done)), H', ⟨by first | omega | exact Nat.le_refl _⟩, ⟨by refine pw_ ?_; exact BK246.out⟩, ⟨by refine pw_ ?_; exact BK247.out⟩, ⟨pb_ HB⟩⟩
   ·
    replace c9 := Bool.eq_false_iff.mpr c9
    subst c9
    have H1 : (platbookref03_Has.j0 k true a0_0 a0_1 a0_2 a0_3 a1_0 a1_1 a1_2) = some r := by rw [if_neg (show ¬ (false = true) by decide)] at H; exact H
    clear H
    have H := H1
    clear H1
    have H' := Aside0.mk H
    clear H
    have hnb17 := NB246_247.out
    have hnc17 := NB247_246.out
    obtain ⟨hcz18_0, hcz18_1, hcz18_2, hcz18_3, hfz18_0, hfz18_1, hfz18_2, hfz18_3⟩ := c4_ BK246
    go_wp2_with (first | ((with_reducible refine gate_callee (f := 29) rfl ?_); refine gl_ (some 6) Tryz.func29 #[.agg #[.bool a0_0, .int .u64 a0_1, .int .u64 a0_2, .int .i64 a0_3]] ?_; (with_reducible refine (platbookref03_Right.calls k a0_0 a0_1 a0_2 a0_3 true _ A6.out).mono ?_); rintro e w19 ⟨rfl, hb⟩; refine ⟨_, rfl, ?_⟩; replace BK246 := bb_ BK246 hb; replace BK247 := bb_ BK247 hb; replace HB := bs_ HB hb; (try clear hb); (try clear hb2); (try clear hk); (try clear hi); obtain ⟨hcz20_0, hcz20_1, hcz20_2, hfz20_0, hfz20_1, hfz20_2⟩ := c3_ BK247) | (go_at_call 19; (with_reducible refine (platbookref02_Right.calls a1_0 a1_1 a1_2 false _ A8.out).mono ?_); rintro e w21 ⟨rfl, hb⟩; replace BK246 := bb_ BK246 hb; replace BK247 := bb_ BK247 hb; replace HB := bs_ HB hb; (try clear hb); (try clear hb2); (try clear hk); (try clear hi)))
    go_meet
    case rel => exact ⟨_, (true), (by first | rfl | (simp; done) | (simp [*]; done)), H', ⟨by first | omega | exact Nat.le_refl _⟩, ⟨by refine pw_ ?_; exact BK246.out⟩, ⟨by refine pw_ ?_; exact BK247.out⟩, ⟨pb_ HB⟩⟩
  ·
   replace c7 := Bool.eq_false_iff.mpr c7
   subst c7
   have H1 : (platbookref03_Has.j0 k true a0_0 a0_1 a0_2 a0_3 a1_0 a1_1 a1_2) = some r := by rw [if_neg (show ¬ (false = true) by decide)] at H; exact H
   clear H
   have H := H1
   clear H1
   have H' := Aside0.mk H
   clear H
   have hnb22 := NB246_247.out
   have hnc22 := NB247_246.out
   obtain ⟨hcz23_0, hcz23_1, hcz23_2, hcz23_3, hfz23_0, hfz23_1, hfz23_2, hfz23_3⟩ := c4_ BK246
   go_wp2_with (first | ((with_reducible refine gate_callee (f := 29) rfl ?_); refine gl_ (some 6) Tryz.func29 #[.agg #[.bool a0_0, .int .u64 a0_1, .int .u64 a0_2, .int .i64 a0_3]] ?_; (with_reducible refine (platbookref03_Right.calls k a0_0 a0_1 a0_2 a0_3 false _ A6.out).mono ?_); rintro e w24 ⟨rfl, hb⟩; refine ⟨_, rfl, ?_⟩; replace BK246 := bb_ BK246 hb; replace BK247 := bb_ BK247 hb; replace HB := bs_ HB hb; (try clear hb); (try clear hb2); (try clear hk); (try clear hi)))
   go_meet
   case rel => exact ⟨_, (true), (by first | rfl | (simp; done) | (simp [*]; done)), H', ⟨by first | omega | exact Nat.le_refl _⟩, ⟨by refine pw_ ?_; exact BK246.out⟩, ⟨by refine pw_ ?_; exact BK247.out⟩, ⟨pb_ HB⟩⟩
 case rest =>
  clear HC3
  try clear c1
  try clear c2
  try clear p2
  try clear c4
  try clear c7
  try clear c9
  try clear c10
  try clear c17
  try clear c22
  try clear hcz11_0
  try clear hcz11_1
  try clear hcz11_2
  try clear hcz11_3
  try clear hcz13_0
  try clear hcz13_1
  try clear hcz13_2
  try clear hcz15_0
  try clear hcz15_1
  try clear hcz15_2
  try clear hcz16_0
  try clear hcz16_1
  try clear hcz16_2
  try clear hcz16_3
  try clear hcz18_0
  try clear hcz18_1
  try clear hcz18_2
  try clear hcz18_3
  try clear hcz20_0
  try clear hcz20_1
  try clear hcz20_2
  try clear hcz23_0
  try clear hcz23_1
  try clear hcz23_2
  try clear hcz23_3
  try clear hfz11_0
  try clear hfz11_1
  try clear hfz11_2
  try clear hfz11_3
  try clear hfz13_0
  try clear hfz13_1
  try clear hfz13_2
  try clear hfz15_0
  try clear hfz15_1
  try clear hfz15_2
  try clear hfz16_0
  try clear hfz16_1
  try clear hfz16_2
  try clear hfz16_3
  try clear hfz18_0
  try clear hfz18_1
  try clear hfz18_2
  try clear hfz18_3
  try clear hfz20_0
  try clear hfz20_1
  try clear hfz20_2
  try clear hfz23_0
  try clear hfz23_1
  try clear hfz23_2
  try clear hfz23_3
  obtain ⟨kq, x20_2, rfl, HA, HJ2, BK246, BK247, HB⟩ := hcut
  cases kq with
  | zero => exact absurd HA.out (by simp [platbookref03_Has.j0])
  | succ kj2 =>
   have H := HA.out
   clear HA
   simp only [platbookref03_Has.j0] at H
   by_cases c25 : x20_2 = true
   ·
    subst c25
    rw [if_pos rfl] at H
    obtain rfl := Option.some.inj H
    go_wp2
    go_ret
    exact ⟨by first | rfl | (simp [errW_none, errW_some] <;> rfl) | (simp [*, errW_none, errW_some] <;> rfl), pb_ HB⟩
   ·
    replace c25 := Bool.eq_false_iff.mpr c25
    subst c25
    have H1 : ((platbookref03_Row.f kj2 a0_0 a0_1 a0_2).bind fun t250 => ((platbookref03_Row.f kj2 a1_0 a1_1 a1_2).bind fun t253 => ((platbookref03_Alike.f kj2 t250 t253).bind fun t256 => (some (decide (t256 ≥ a0_3)))))) = some r := by rw [if_neg (show ¬ (false = true) by decide)] at H; exact H
    clear H
    have H := H1
    clear H1
    replace H := Option.bind_eq_some_iff.mp H
    obtain ⟨t250, A260, H⟩ := H
    replace H : ((platbookref03_Row.f kj2 a1_0 a1_1 a1_2).bind fun t253 => ((platbookref03_Alike.f kj2 t250 t253).bind fun t256 => (some (decide (t256 ≥ a0_3))))) = some r := H
    have A26 := Aside0.mk A260
    clear A260
    replace H := Option.bind_eq_some_iff.mp H
    obtain ⟨t253, A270, H⟩ := H
    replace H : ((platbookref03_Alike.f kj2 t250 t253).bind fun t256 => (some (decide (t256 ≥ a0_3)))) = some r := H
    have A27 := Aside0.mk A270
    clear A270
    replace H := Option.bind_eq_some_iff.mp H
    obtain ⟨t256, A280, H⟩ := H
    replace H : (some (decide (t256 ≥ a0_3))) = some r := H
    have A28 := Aside0.mk A280
    clear A280
    obtain rfl := Option.some.inj H
    try go_wp2
    replace BK246 := Aside0.mk (blk_drew BK246.out)
    replace BK247 := Aside0.mk (blk_drew BK247.out)
    replace HB := Aside0.mk (below_drew1 HB.out)
    refine start_ (n := 10) (S := fun w' => w'.cell? ⟨gb246, 0, none⟩ = some (.bool a0_0) ∧ w'.cell? ⟨gb246, 1, none⟩ = some (.int .u64 a0_1) ∧ w'.cell? ⟨gb246, 2, none⟩ = some (.int .u64 a0_2) ∧ w'.cell? ⟨gb246, 3, none⟩ = some (.int .i64 a0_3) ∧ w'.cell? ⟨gb247, 0, none⟩ = some (.bool a1_0) ∧ w'.cell? ⟨gb247, 1, none⟩ = some (.int .u64 a1_1) ∧ w'.cell? ⟨gb247, 2, none⟩ = some (.int .u64 a1_2)) (ds := []) (bm_ 10 0) (by kernel_rfl) rfl rfl ⟨kc_ BK246 0, kc_ BK246 1, kc_ BK246 2, kc_ BK246 3, kc_ BK247 0, kc_ BK247 1, kc_ BK247 2⟩ (fun hHeld => ?_); refine with_tabW platbookref03_Has.tab3 platbookref03_Has.bits3 (fun HT_ HW_ => ?_)
    generalize wc.drew = w29 at BK246 BK247 HB hHeld ⊢
    refine pu_ 0 (some 21) (bm_ 10 1) rfl HT_ ⟨by rfl, by intro w'; go_simp; with_reducible rfl⟩ ?_
    refine pu_ 6 (some 27) (bm_ 10 65) rfl HT_ ⟨by rfl, by intro w'; go_simp; with_reducible rfl⟩ ?_
    refine ta_ 1 (some 22) (bm_ 10 67) rfl HT_ HW_ ⟨by rfl, by rintro w' ⟨s0, s1, s2, s3, s4, s5, s6⟩; go_simp; with_reducible rfl⟩ hHeld ?_
    refine ta_ 3 (some 24) (bm_ 10 75) rfl HT_ HW_ ⟨by rfl, by rintro w' ⟨s0, s1, s2, s3, s4, s5, s6⟩; go_simp; with_reducible rfl⟩ hHeld ?_
    refine ta_ 7 (some 28) (bm_ 10 203) rfl HT_ HW_ ⟨by rfl, by rintro w' ⟨s0, s1, s2, s3, s4, s5, s6⟩; go_simp; with_reducible rfl⟩ hHeld ?_
    refine one_ (i := 2) (N := some 23) (bm_ 10 207) rfl rfl (one_of HT_.out (by kernel_rfl)) (by decide) (fun K hK => ?_)
    refine gr_ Tryz.func83 #[.agg #[.bool a0_0, .int .u64 a0_1, .int .u64 a0_2]] ?_
    with_reducible refine (platbookref03_Row.calls kj2 a0_0 a0_1 a0_2 t250 _ A26.out).mono ?_
    rintro e w30 ⟨v251, rfl, ho0, hb⟩
    refine ⟨_, rfl, ?_⟩
    have HO252 := Aside0.mk (Kd.R_lower ho0 (below_size (pb_ HB)))
    replace BK246 := bb_ BK246 hb
    replace BK247 := bb_ BK247 hb
    replace HB := bs_ HB hb
    (try clear hb)
    (try clear hb2)
    (try clear hk)
    (try clear hi)
    (try clear ho0)
    refine hK.out _ _ ⟨kc_ BK246 0, kc_ BK246 1, kc_ BK246 2, kc_ BK246 3, kc_ BK247 0, kc_ BK247 1, kc_ BK247 2⟩ (fun hHeld => ?_)
    clear hK K
    refine norm_ (a' := ?_) ?_ ?_
    rotate_left
    ·
     show Act.put _ (some 23) _ = _
     simp only [Act.put, List.setIfInBounds_toArray, List.set_cons_zero, List.set_cons_succ, i64_w, i32_w]
     rfl
    refine one_ (i := 4) (N := some 25) (bm_ 10 223) rfl rfl (one_of HT_.out (by kernel_rfl)) (by decide) (fun K hK => ?_)
    refine gr_ Tryz.func83 #[.agg #[.bool a1_0, .int .u64 a1_1, .int .u64 a1_2]] ?_
    with_reducible refine (platbookref03_Row.calls kj2 a1_0 a1_1 a1_2 t253 _ A27.out).mono ?_
    rintro e w31 ⟨v254, rfl, ho0, hb⟩
    refine ⟨_, rfl, ?_⟩
    have HO255 := Aside0.mk (Kd.R_lower (Kd.R_new' ho0 (Kd.R_lt (by (with_reducible repeat (first | apply Kd.R_alloc | apply Kd.R_drewN | apply Kd.R_drew)); exact HO252.out))) (below_size (pb_ HB)))
    replace HO252 := Aside0.mk (Kd.R_elder' (by (with_reducible repeat (first | apply Kd.R_alloc | apply Kd.R_drewN | apply Kd.R_drew)); exact HO252.out) (Kd.R_base ho0) hb)
    replace BK246 := bb_ BK246 hb
    replace BK247 := bb_ BK247 hb
    replace HB := bs_ HB hb
    (try clear hb)
    (try clear hb2)
    (try clear hk)
    (try clear hi)
    (try clear ho0)
    obtain ⟨Ao32, co32, eo32⟩ := Kd.R_slice HO252.out
    (first | subst eo32 | (injection eo32 with f1_ f2_ f3_; have f4_ := f1_.symm; have f5_ := f3_.symm; clear f1_ f2_ f3_; subst f4_; subst f5_))
    obtain ⟨Ao33, co33, eo33⟩ := Kd.R_slice HO255.out
    (first | subst eo33 | (injection eo33 with f1_ f2_ f3_; have f4_ := f1_.symm; have f5_ := f3_.symm; clear f1_ f2_ f3_; subst f4_; subst f5_))
    refine hK.out _ _ ⟨kc_ BK246 0, kc_ BK246 1, kc_ BK246 2, kc_ BK246 3, kc_ BK247 0, kc_ BK247 1, kc_ BK247 2⟩ (fun hHeld => ?_)
    clear hK K
    refine norm_ (a' := ?_) ?_ ?_
    rotate_left
    ·
     show Act.put _ (some 25) _ = _
     simp only [Act.put, List.setIfInBounds_toArray, List.set_cons_zero, List.set_cons_succ, i64_w, i32_w]
     rfl
    refine one_ (i := 5) (N := some 26) (bm_ 10 255) rfl rfl (one_of HT_.out (by kernel_rfl)) (by decide) (fun K hK => ?_)
    refine gr_ Tryz.func82 #[.slice Ao32 t250.length co32, .slice Ao33 t253.length co33] ?_
    with_reducible refine (platbookref03_Alike.calls kj2 _ _ t250 _ _ t253 t256 _ ?side1 ?side2 ?side3 ?side4 A28.out).mono ?_
    (case side1 => repeat (first | exact (Kd.R_reads' HO252.out).2.2 | (with_reducible refine Kd.C_alloc ?_ _) | (with_reducible refine Kd.C_drewN ?_ _) | (with_reducible refine Kd.C_drew ?_)))
    (case side2 => exact (Kd.R_reads' HO252.out).2.1)
    (case side3 => repeat (first | exact (Kd.R_reads' HO255.out).2.2 | (with_reducible refine Kd.C_alloc ?_ _) | (with_reducible refine Kd.C_drewN ?_ _) | (with_reducible refine Kd.C_drew ?_)))
    (case side4 => exact (Kd.R_reads' HO255.out).2.1)
    rintro e w' ⟨rfl, ⟨nd, rfl⟩⟩
    refine ⟨_, rfl, ?_⟩
    refine hK.out _ _ ⟨kc_ BK246 0, kc_ BK246 1, kc_ BK246 2, kc_ BK246 3, kc_ BK247 0, kc_ BK247 1, kc_ BK247 2⟩ (fun hHeld => ?_)
    clear hK K
    refine norm_ (a' := ?_) ?_ ?_
    rotate_left
    ·
     show Act.put _ (some 26) _ = _
     simp only [Act.put, List.setIfInBounds_toArray, List.set_cons_zero, List.set_cons_succ, i64_w, i32_w]
     rfl
    refine pu_ 8 (some 29) (bm_ 10 511) rfl HT_ ⟨by rfl, by intro w'; go_simp; with_reducible rfl⟩ ?_
    refine pu_ 9 (some 4) (bm_ 10 1023) rfl HT_ ⟨by rfl, by intro w'; go_simp; with_reducible rfl⟩ ?_
    refine done_ (done_of HT_.out (by kernel_rfl)) ?_
    try go_wp2
    go_ret
    exact ⟨by first | rfl | (simp [errW_none, errW_some] <;> rfl) | (simp [*, errW_none, errW_some] <;> rfl), pb_ HB⟩

def platbookref03_Within.f (k : Nat) (a0_0 : Bool) (a0_1 : Int) (a0_2 : Int) (a0_3 : Int) (a1_0 : Bool) (a1_1 : Int) (a1_2 : Int) (a1_3 : Int) : Option (Bool) := (platbookref03_Right.f k a0_0 a0_1 a0_2 a0_3).bind fun t259 => (if t259 = true then ((platbookref03_Right.f k a1_0 a1_1 a1_2 a1_3).bind fun t260 => (if t260 = true then ((platbookref03_Has.f k a1_0 a1_1 a1_2 a1_3 a0_0 a0_1 a0_2).bind fun t261 => (if t261 = true then ((platbookref03_Last.f k a0_0 a0_1 a0_2 a0_3).bind fun bt262 => ((platbookref03_Has.f k a1_0 a1_1 a1_2 a1_3 bt262.1 bt262.2.1 bt262.2.2).bind fun t265 => (some t265))) else (some false))) else (some false))) else (some false))
def platbookref03_Within.T1 : Bool × List (List Nat × List Nat) := (true, [([], []), ([0], [0]), ([1, 1], [1]), ([2], [2]), ([3, 2, 2], [2, 3]), ([2, 4], [2, 4]), ([5, 4], [5]), ([6], [6]), ([6], [6]), ([8, 6], [6, 8]), ([7, 9, 6, 6], [6, 7, 9]), ([6, 10], [6, 10]), ([11, 10], [11]), ([12], [12]), ([12], [12]), ([14, 12, 12], [12, 14]), ([13, 15, 15, 12], [12, 13, 15]), ([12, 16], [12, 16]), ([17, 16, 0, 1, 2, 3, 4, 5, 6, 7, 8, 9, 10, 11, 12, 13, 14, 15, 16, 17], [17])])
def platbookref03_Within.B1 : List Nat := [0, 1, 3, 7, 15, 31, 63, 127, 127, 383, 1023, 2047, 4095, 8191, 8191, 24575, 65535, 131071, 262143]
theorem platbookref03_Within.tab1 : rtab .any (opsOf Tryz.f42 1) = platbookref03_Within.T1 := by kernel_rfl
theorem platbookref03_Within.bits1 : waitsOk platbookref03_Within.T1.2 platbookref03_Within.B1 = true := by kernel_rfl
set_option maxHeartbeats 8000000 in
set_option maxRecDepth 100000 in
theorem platbookref03_Within.calls (k : Nat) (a0_0 : Bool) (a0_1 : Int) (a0_2 : Int) (a0_3 : Int) (a1_0 : Bool) (a1_1 : Int) (a1_2 : Int) (a1_3 : Int) (r : Bool) (w : World) (h : platbookref03_Within.f k a0_0 a0_1 a0_2 a0_3 a1_0 a1_1 a1_2 a1_3 = some r) :
  Calls Tryz.prog 42 #[.agg #[.bool a0_0, .int .u64 a0_1, .int .u64 a0_2, .int .i64 a0_3], .agg #[.bool a1_0, .int .u64 a1_1, .int .u64 a1_2, .int .i64 a1_3]] w fun e w' => e = .returned (.bool r) ∧ Below w.heap.size w w' := by
 have hu38 := Tryz.underlying38
 have hu26 := Tryz.underlying26
 have HB := Aside0.mk (Below.refl w.heap.size w)
 have H : ((platbookref03_Right.f k a0_0 a0_1 a0_2 a0_3).bind fun t259 => (if t259 = true then ((platbookref03_Right.f k a1_0 a1_1 a1_2 a1_3).bind fun t260 => (if t260 = true then ((platbookref03_Has.f k a1_0 a1_1 a1_2 a1_3 a0_0 a0_1 a0_2).bind fun t261 => (if t261 = true then ((platbookref03_Last.f k a0_0 a0_1 a0_2 a0_3).bind fun bt262 => ((platbookref03_Has.f k a1_0 a1_1 a1_2 a1_3 bt262.1 bt262.2.1 bt262.2.2).bind fun t265 => (some t265))) else (some false))) else (some false))) else (some false))) = some r := h
 clear h
 replace H := Option.bind_eq_some_iff.mp H
 obtain ⟨t259, A30, H⟩ := H
 replace H : (if t259 = true then ((platbookref03_Right.f k a1_0 a1_1 a1_2 a1_3).bind fun t260 => (if t260 = true then ((platbookref03_Has.f k a1_0 a1_1 a1_2 a1_3 a0_0 a0_1 a0_2).bind fun t261 => (if t261 = true then ((platbookref03_Last.f k a0_0 a0_1 a0_2 a0_3).bind fun bt262 => ((platbookref03_Has.f k a1_0 a1_1 a1_2 a1_3 bt262.1 bt262.2.1 bt262.2.2).bind fun t265 => (some t265))) else (some false))) else (some false))) else (some false)) = some r := H
 have A3 := Aside0.mk A30
 clear A30
 by_cases c4 : t259 = true
 ·
  subst c4
  rw [if_pos rfl] at H
  replace H := Option.bind_eq_some_iff.mp H
  obtain ⟨t260, A50, H⟩ := H
  replace H : (if t260 = true then ((platbookref03_Has.f k a1_0 a1_1 a1_2 a1_3 a0_0 a0_1 a0_2).bind fun t261 => (if t261 = true then ((platbookref03_Last.f k a0_0 a0_1 a0_2 a0_3).bind fun bt262 => ((platbookref03_Has.f k a1_0 a1_1 a1_2 a1_3 bt262.1 bt262.2.1 bt262.2.2).bind fun t265 => (some t265))) else (some false))) else (some false)) = some r := H
  have A5 := Aside0.mk A50
  clear A50
  by_cases c6 : t260 = true
  ·
   subst c6
   rw [if_pos rfl] at H
   replace H := Option.bind_eq_some_iff.mp H
   obtain ⟨t261, A70, H⟩ := H
   replace H : (if t261 = true then ((platbookref03_Last.f k a0_0 a0_1 a0_2 a0_3).bind fun bt262 => ((platbookref03_Has.f k a1_0 a1_1 a1_2 a1_3 bt262.1 bt262.2.1 bt262.2.2).bind fun t265 => (some t265))) else (some false)) = some r := H
   have A7 := Aside0.mk A70
   clear A70
   by_cases c8 : t261 = true
   ·
    subst c8
    rw [if_pos rfl] at H
    replace H := Option.bind_eq_some_iff.mp H
    obtain ⟨⟨t262, t263, t264⟩, A90, H⟩ := H
    replace H : ((platbookref03_Has.f k a1_0 a1_1 a1_2 a1_3 t262 t263 t264).bind fun t265 => (some t265)) = some r := H
    have A9 := Aside0.mk A90
    clear A90
    replace H := Option.bind_eq_some_iff.mp H
    obtain ⟨t265, A100, H⟩ := H
    replace H : (some t265) = some r := H
    have A10 := Aside0.mk A100
    clear A100
    obtain rfl := Option.some.inj H
    go_enter Tryz.func42, Tryz.ntmps42
    try go_wp2_with (first | ((with_reducible refine gate_dst (N := 2) rfl ?_); refine bx_ 2 #[.bool a0_0, .int .u64 a0_1, .int .u64 a0_2, .int .i64 a0_3] 38 ?_; intro gb257 hg w11 hbox hb; have BK257 := Aside0.mk (hbox); have GW257 := gw_ HB hg; have GE257 := gw_ HB hg; replace HB := bs_ HB hb; clear hb hbox hg) | ((with_reducible refine gate_dst (N := 3) rfl ?_); refine bx_ 3 #[.bool a1_0, .int .u64 a1_1, .int .u64 a1_2, .int .i64 a1_3] 38 ?_; intro gb258 hg w12 hbox hb; have BK258 := Aside0.mk (hbox); have GW258 := gw_ HB hg; have GE258 := gw_ HB hg; have NB257_258 := nl_ BK257 hg; have NB258_257 := ng_ BK257 hg; replace BK257 := bb_ BK257 hb; replace HB := bs_ HB hb; clear hb hbox hg))
    replace BK257 := Aside0.mk (blk_drew BK257.out)
    replace BK258 := Aside0.mk (blk_drew BK258.out)
    replace HB := Aside0.mk (below_drew1 HB.out)
    refine start_ (n := 19) (S := fun w' => w'.cell? ⟨gb257, 0, none⟩ = some (.bool a0_0) ∧ w'.cell? ⟨gb257, 1, none⟩ = some (.int .u64 a0_1) ∧ w'.cell? ⟨gb257, 2, none⟩ = some (.int .u64 a0_2) ∧ w'.cell? ⟨gb257, 3, none⟩ = some (.int .i64 a0_3) ∧ w'.cell? ⟨gb258, 0, none⟩ = some (.bool a1_0) ∧ w'.cell? ⟨gb258, 1, none⟩ = some (.int .u64 a1_1) ∧ w'.cell? ⟨gb258, 2, none⟩ = some (.int .u64 a1_2) ∧ w'.cell? ⟨gb258, 3, none⟩ = some (.int .i64 a1_3)) (ds := []) (bm_ 19 0) (by kernel_rfl) rfl rfl ⟨kc_ BK257 0, kc_ BK257 1, kc_ BK257 2, kc_ BK257 3, kc_ BK258 0, kc_ BK258 1, kc_ BK258 2, kc_ BK258 3⟩ (fun hHeld => ?_); refine with_tabW platbookref03_Within.tab1 platbookref03_Within.bits1 (fun HT_ HW_ => ?_)
    generalize w12.drew = w13 at BK257 BK258 HB hHeld ⊢
    refine ta_ 0 (some 5) (bm_ 19 1) rfl HT_ HW_ ⟨by rfl, by rintro w' ⟨s0, s1, s2, s3, s4, s5, s6, s7⟩; go_simp; with_reducible rfl⟩ hHeld ?_
    refine one_ (i := 1) (N := some 6) (bm_ 19 3) rfl rfl (one_of HT_.out (by kernel_rfl)) (by decide) (fun K hK => ?_)
    refine gr_ Tryz.func29 #[.agg #[.bool a0_0, .int .u64 a0_1, .int .u64 a0_2, .int .i64 a0_3]] ?_
    with_reducible refine (platbookref03_Right.calls k a0_0 a0_1 a0_2 a0_3 true _ A3.out).mono ?_
    rintro e w14 ⟨rfl, hb⟩
    refine ⟨_, rfl, ?_⟩
    replace BK257 := bb_ BK257 hb
    replace BK258 := bb_ BK258 hb
    replace HB := bs_ HB hb
    (try clear hb)
    (try clear hb2)
    (try clear hk)
    (try clear hi)
    refine hK.out _ _ ⟨kc_ BK257 0, kc_ BK257 1, kc_ BK257 2, kc_ BK257 3, kc_ BK258 0, kc_ BK258 1, kc_ BK258 2, kc_ BK258 3⟩ (fun hHeld => ?_)
    clear hK K
    refine norm_ (a' := ?_) ?_ ?_
    rotate_left
    ·
     show Act.put _ (some 6) _ = _
     simp only [Act.put, List.setIfInBounds_toArray, List.set_cons_zero, List.set_cons_succ, i64_w, i32_w]
     rfl
    refine pu_ 2 (some 7) (bm_ 19 7) rfl HT_ ⟨by rfl, by intro w'; go_simp; with_reducible rfl⟩ ?_
    refine ta_ 3 (some 8) (bm_ 19 15) rfl HT_ HW_ ⟨by rfl, by rintro w' ⟨s0, s1, s2, s3, s4, s5, s6, s7⟩; go_simp; with_reducible rfl⟩ hHeld ?_
    refine one_ (i := 4) (N := some 9) (bm_ 19 31) rfl rfl (one_of HT_.out (by kernel_rfl)) (by decide) (fun K hK => ?_)
    refine gr_ Tryz.func29 #[.agg #[.bool a1_0, .int .u64 a1_1, .int .u64 a1_2, .int .i64 a1_3]] ?_
    with_reducible refine (platbookref03_Right.calls k a1_0 a1_1 a1_2 a1_3 true _ A5.out).mono ?_
    rintro e w15 ⟨rfl, hb⟩
    refine ⟨_, rfl, ?_⟩
    replace BK257 := bb_ BK257 hb
    replace BK258 := bb_ BK258 hb
    replace HB := bs_ HB hb
    (try clear hb)
    (try clear hb2)
    (try clear hk)
    (try clear hi)
    refine hK.out _ _ ⟨kc_ BK257 0, kc_ BK257 1, kc_ BK257 2, kc_ BK257 3, kc_ BK258 0, kc_ BK258 1, kc_ BK258 2, kc_ BK258 3⟩ (fun hHeld => ?_)
    clear hK K
    refine norm_ (a' := ?_) ?_ ?_
    rotate_left
    ·
     show Act.put _ (some 9) _ = _
     simp only [Act.put, List.setIfInBounds_toArray, List.set_cons_zero, List.set_cons_succ, i64_w, i32_w]
     rfl
    refine pu_ 5 (some 10) (bm_ 19 63) rfl HT_ ⟨by rfl, by intro w'; go_simp; with_reducible rfl⟩ ?_
    refine pu_ 6 (some 11) (bm_ 19 127) rfl HT_ ⟨by rfl, by intro w'; go_simp; with_reducible rfl⟩ ?_
    refine pu_ 8 (some 13) (bm_ 19 383) rfl HT_ ⟨by rfl, by intro w'; go_simp; with_reducible rfl⟩ ?_
    refine ta_ 7 (some 12) (bm_ 19 511) rfl HT_ HW_ ⟨by rfl, by rintro w' ⟨s0, s1, s2, s3, s4, s5, s6, s7⟩; go_simp; with_reducible rfl⟩ hHeld ?_
    refine ta_ 9 (some 14) (bm_ 19 1023) rfl HT_ HW_ ⟨by rfl, by rintro w' ⟨s0, s1, s2, s3, s4, s5, s6, s7⟩; go_simp; with_reducible rfl⟩ hHeld ?_
    refine one_ (i := 10) (N := some 15) (bm_ 19 2047) rfl rfl (one_of HT_.out (by kernel_rfl)) (by decide) (fun K hK => ?_)
    refine gr_ Tryz.func41 #[.agg #[.bool a1_0, .int .u64 a1_1, .int .u64 a1_2, .int .i64 a1_3], .agg #[.bool a0_0, .int .u64 a0_1, .int .u64 a0_2]] ?_
    with_reducible refine (platbookref03_Has.calls k a1_0 a1_1 a1_2 a1_3 a0_0 a0_1 a0_2 true _ A7.out).mono ?_
    rintro e w16 ⟨rfl, hb⟩
    refine ⟨_, rfl, ?_⟩
    replace BK257 := bb_ BK257 hb
    replace BK258 := bb_ BK258 hb
    replace HB := bs_ HB hb
    (try clear hb)
    (try clear hb2)
    (try clear hk)
    (try clear hi)
    refine hK.out _ _ ⟨kc_ BK257 0, kc_ BK257 1, kc_ BK257 2, kc_ BK257 3, kc_ BK258 0, kc_ BK258 1, kc_ BK258 2, kc_ BK258 3⟩ (fun hHeld => ?_)
    clear hK K
    refine norm_ (a' := ?_) ?_ ?_
    rotate_left
    ·
     show Act.put _ (some 15) _ = _
     simp only [Act.put, List.setIfInBounds_toArray, List.set_cons_zero, List.set_cons_succ, i64_w, i32_w]
     rfl
    refine pu_ 11 (some 16) (bm_ 19 4095) rfl HT_ ⟨by rfl, by intro w'; go_simp; with_reducible rfl⟩ ?_
    refine pu_ 12 (some 17) (bm_ 19 8191) rfl HT_ ⟨by rfl, by intro w'; go_simp; with_reducible rfl⟩ ?_
    refine ta_ 13 (some 18) (bm_ 19 16383) rfl HT_ HW_ ⟨by rfl, by rintro w' ⟨s0, s1, s2, s3, s4, s5, s6, s7⟩; go_simp; with_reducible rfl⟩ hHeld ?_
    refine ta_ 14 (some 19) (bm_ 19 32767) rfl HT_ HW_ ⟨by rfl, by rintro w' ⟨s0, s1, s2, s3, s4, s5, s6, s7⟩; go_simp; with_reducible rfl⟩ hHeld ?_
    refine one_ (i := 15) (N := some 20) (bm_ 19 65535) rfl rfl (one_of HT_.out (by kernel_rfl)) (by decide) (fun K hK => ?_)
    refine gr_ Tryz.func39 #[.agg #[.bool a0_0, .int .u64 a0_1, .int .u64 a0_2, .int .i64 a0_3]] ?_
    with_reducible refine (platbookref03_Last.calls k a0_0 a0_1 a0_2 a0_3 t262 t263 t264 _ A9.out).mono ?_
    rintro e w17 ⟨rfl, hb⟩
    refine ⟨_, rfl, ?_⟩
    replace BK257 := bb_ BK257 hb
    replace BK258 := bb_ BK258 hb
    replace HB := bs_ HB hb
    (try clear hb)
    (try clear hb2)
    (try clear hk)
    (try clear hi)
    refine hK.out _ _ ⟨kc_ BK257 0, kc_ BK257 1, kc_ BK257 2, kc_ BK257 3, kc_ BK258 0, kc_ BK258 1, kc_ BK258 2, kc_ BK258 3⟩ (fun hHeld => ?_)
    clear hK K
    refine norm_ (a' := ?_) ?_ ?_
    rotate_left
    ·
     show Act.put _ (some 20) _ = _
     simp only [Act.put, List.setIfInBounds_toArray, List.set_cons_zero, List.set_cons_succ, i64_w, i32_w]
     rfl
    refine one_ (i := 16) (N := some 21) (bm_ 19 131071) rfl rfl (one_of HT_.out (by kernel_rfl)) (by decide) (fun K hK => ?_)
    refine gr_ Tryz.func41 #[.agg #[.bool a1_0, .int .u64 a1_1, .int .u64 a1_2, .int .i64 a1_3], .agg #[.bool t262, .int .u64 t263, .int .u64 t264]] ?_
    with_reducible refine (platbookref03_Has.calls k a1_0 a1_1 a1_2 a1_3 t262 t263 t264 t265 _ A10.out).mono ?_
    rintro e w18 ⟨rfl, hb⟩
    refine ⟨_, rfl, ?_⟩
    replace BK257 := bb_ BK257 hb
    replace BK258 := bb_ BK258 hb
    replace HB := bs_ HB hb
    (try clear hb)
    (try clear hb2)
    (try clear hk)
    (try clear hi)
    refine hK.out _ _ ⟨kc_ BK257 0, kc_ BK257 1, kc_ BK257 2, kc_ BK257 3, kc_ BK258 0, kc_ BK258 1, kc_ BK258 2, kc_ BK258 3⟩ (fun hHeld => ?_)
    clear hK K
    refine norm_ (a' := ?_) ?_ ?_
    rotate_left
    ·
     show Act.put _ (some 21) _ = _
     simp only [Act.put, List.setIfInBounds_toArray, List.set_cons_zero, List.set_cons_succ, i64_w, i32_w]
     rfl
    refine pu_ 17 (some 22) (bm_ 19 262143) rfl HT_ ⟨by rfl, by intro w'; go_simp; with_reducible rfl⟩ ?_
    refine pu_ 18 (some 4) (bm_ 19 524287) rfl HT_ ⟨by rfl, by intro w'; go_simp; with_reducible rfl⟩ ?_
    refine done_ (done_of HT_.out (by kernel_rfl)) ?_
    try go_wp2
    go_ret
    exact ⟨by first | rfl | (simp [errW_none, errW_some] <;> rfl) | (simp [*, errW_none, errW_some] <;> rfl), pb_ HB⟩
   ·
    replace c8 := Bool.eq_false_iff.mpr c8
    subst c8
    have H1 : (some false) = some r := by rw [if_neg (show ¬ (false = true) by decide)] at H; exact H
    clear H
    have H := H1
    clear H1
    obtain rfl := Option.some.inj H
    go_enter Tryz.func42, Tryz.ntmps42
    try go_wp2_with (first | ((with_reducible refine gate_dst (N := 2) rfl ?_); refine bx_ 2 #[.bool a0_0, .int .u64 a0_1, .int .u64 a0_2, .int .i64 a0_3] 38 ?_; intro gb257 hg w19 hbox hb; have BK257 := Aside0.mk (hbox); have GW257 := gw_ HB hg; have GE257 := gw_ HB hg; replace HB := bs_ HB hb; clear hb hbox hg) | ((with_reducible refine gate_dst (N := 3) rfl ?_); refine bx_ 3 #[.bool a1_0, .int .u64 a1_1, .int .u64 a1_2, .int .i64 a1_3] 38 ?_; intro gb258 hg w20 hbox hb; have BK258 := Aside0.mk (hbox); have GW258 := gw_ HB hg; have GE258 := gw_ HB hg; have NB257_258 := nl_ BK257 hg; have NB258_257 := ng_ BK257 hg; replace BK257 := bb_ BK257 hb; replace HB := bs_ HB hb; clear hb hbox hg))
    replace BK257 := Aside0.mk (blk_drew BK257.out)
    replace BK258 := Aside0.mk (blk_drew BK258.out)
    replace HB := Aside0.mk (below_drew1 HB.out)
    refine start_ (n := 19) (S := fun w' => w'.cell? ⟨gb257, 0, none⟩ = some (.bool a0_0) ∧ w'.cell? ⟨gb257, 1, none⟩ = some (.int .u64 a0_1) ∧ w'.cell? ⟨gb257, 2, none⟩ = some (.int .u64 a0_2) ∧ w'.cell? ⟨gb257, 3, none⟩ = some (.int .i64 a0_3) ∧ w'.cell? ⟨gb258, 0, none⟩ = some (.bool a1_0) ∧ w'.cell? ⟨gb258, 1, none⟩ = some (.int .u64 a1_1) ∧ w'.cell? ⟨gb258, 2, none⟩ = some (.int .u64 a1_2) ∧ w'.cell? ⟨gb258, 3, none⟩ = some (.int .i64 a1_3)) (ds := []) (bm_ 19 0) (by kernel_rfl) rfl rfl ⟨kc_ BK257 0, kc_ BK257 1, kc_ BK257 2, kc_ BK257 3, kc_ BK258 0, kc_ BK258 1, kc_ BK258 2, kc_ BK258 3⟩ (fun hHeld => ?_); refine with_tabW platbookref03_Within.tab1 platbookref03_Within.bits1 (fun HT_ HW_ => ?_)
    generalize w20.drew = w21 at BK257 BK258 HB hHeld ⊢
    refine ta_ 0 (some 5) (bm_ 19 1) rfl HT_ HW_ ⟨by rfl, by rintro w' ⟨s0, s1, s2, s3, s4, s5, s6, s7⟩; go_simp; with_reducible rfl⟩ hHeld ?_
    refine one_ (i := 1) (N := some 6) (bm_ 19 3) rfl rfl (one_of HT_.out (by kernel_rfl)) (by decide) (fun K hK => ?_)
    refine gr_ Tryz.func29 #[.agg #[.bool a0_0, .int .u64 a0_1, .int .u64 a0_2, .int .i64 a0_3]] ?_
    with_reducible refine (platbookref03_Right.calls k a0_0 a0_1 a0_2 a0_3 true _ A3.out).mono ?_
    rintro e w22 ⟨rfl, hb⟩
    refine ⟨_, rfl, ?_⟩
    replace BK257 := bb_ BK257 hb
    replace BK258 := bb_ BK258 hb
    replace HB := bs_ HB hb
    (try clear hb)
    (try clear hb2)
    (try clear hk)
    (try clear hi)
    refine hK.out _ _ ⟨kc_ BK257 0, kc_ BK257 1, kc_ BK257 2, kc_ BK257 3, kc_ BK258 0, kc_ BK258 1, kc_ BK258 2, kc_ BK258 3⟩ (fun hHeld => ?_)
    clear hK K
    refine norm_ (a' := ?_) ?_ ?_
    rotate_left
    ·
     show Act.put _ (some 6) _ = _
     simp only [Act.put, List.setIfInBounds_toArray, List.set_cons_zero, List.set_cons_succ, i64_w, i32_w]
     rfl
    refine pu_ 2 (some 7) (bm_ 19 7) rfl HT_ ⟨by rfl, by intro w'; go_simp; with_reducible rfl⟩ ?_
    refine ta_ 3 (some 8) (bm_ 19 15) rfl HT_ HW_ ⟨by rfl, by rintro w' ⟨s0, s1, s2, s3, s4, s5, s6, s7⟩; go_simp; with_reducible rfl⟩ hHeld ?_
    refine one_ (i := 4) (N := some 9) (bm_ 19 31) rfl rfl (one_of HT_.out (by kernel_rfl)) (by decide) (fun K hK => ?_)
    refine gr_ Tryz.func29 #[.agg #[.bool a1_0, .int .u64 a1_1, .int .u64 a1_2, .int .i64 a1_3]] ?_
    with_reducible refine (platbookref03_Right.calls k a1_0 a1_1 a1_2 a1_3 true _ A5.out).mono ?_
    rintro e w23 ⟨rfl, hb⟩
    refine ⟨_, rfl, ?_⟩
    replace BK257 := bb_ BK257 hb
    replace BK258 := bb_ BK258 hb
    replace HB := bs_ HB hb
    (try clear hb)
    (try clear hb2)
    (try clear hk)
    (try clear hi)
    refine hK.out _ _ ⟨kc_ BK257 0, kc_ BK257 1, kc_ BK257 2, kc_ BK257 3, kc_ BK258 0, kc_ BK258 1, kc_ BK258 2, kc_ BK258 3⟩ (fun hHeld => ?_)
    clear hK K
    refine norm_ (a' := ?_) ?_ ?_
    rotate_left
    ·
     show Act.put _ (some 9) _ = _
     simp only [Act.put, List.setIfInBounds_toArray, List.set_cons_zero, List.set_cons_succ, i64_w, i32_w]
     rfl
    refine pu_ 5 (some 10) (bm_ 19 63) rfl HT_ ⟨by rfl, by intro w'; go_simp; with_reducible rfl⟩ ?_
    refine pu_ 6 (some 11) (bm_ 19 127) rfl HT_ ⟨by rfl, by intro w'; go_simp; with_reducible rfl⟩ ?_
    refine pu_ 8 (some 13) (bm_ 19 383) rfl HT_ ⟨by rfl, by intro w'; go_simp; with_reducible rfl⟩ ?_
    refine ta_ 7 (some 12) (bm_ 19 511) rfl HT_ HW_ ⟨by rfl, by rintro w' ⟨s0, s1, s2, s3, s4, s5, s6, s7⟩; go_simp; with_reducible rfl⟩ hHeld ?_
    refine ta_ 9 (some 14) (bm_ 19 1023) rfl HT_ HW_ ⟨by rfl, by rintro w' ⟨s0, s1, s2, s3, s4, s5, s6, s7⟩; go_simp; with_reducible rfl⟩ hHeld ?_
    refine one_ (i := 10) (N := some 15) (bm_ 19 2047) rfl rfl (one_of HT_.out (by kernel_rfl)) (by decide) (fun K hK => ?_)
    refine gr_ Tryz.func41 #[.agg #[.bool a1_0, .int .u64 a1_1, .int .u64 a1_2, .int .i64 a1_3], .agg #[.bool a0_0, .int .u64 a0_1, .int .u64 a0_2]] ?_
    with_reducible refine (platbookref03_Has.calls k a1_0 a1_1 a1_2 a1_3 a0_0 a0_1 a0_2 false _ A7.out).mono ?_
    rintro e w24 ⟨rfl, hb⟩
    refine ⟨_, rfl, ?_⟩
    replace BK257 := bb_ BK257 hb
    replace BK258 := bb_ BK258 hb
    replace HB := bs_ HB hb
    (try clear hb)
    (try clear hb2)
    (try clear hk)
    (try clear hi)
    refine hK.out _ _ ⟨kc_ BK257 0, kc_ BK257 1, kc_ BK257 2, kc_ BK257 3, kc_ BK258 0, kc_ BK258 1, kc_ BK258 2, kc_ BK258 3⟩ (fun hHeld => ?_)
    clear hK K
    refine norm_ (a' := ?_) ?_ ?_
    rotate_left
    ·
     show Act.put _ (some 15) _ = _
     simp only [Act.put, List.setIfInBounds_toArray, List.set_cons_zero, List.set_cons_succ, i64_w, i32_w]
     rfl
    refine pu_ 11 (some 16) (bm_ 19 4095) rfl HT_ ⟨by rfl, by intro w'; go_simp; with_reducible rfl⟩ ?_
    refine pu_ 12 (some 17) (bm_ 19 8191) rfl HT_ ⟨by rfl, by intro w'; go_simp; with_reducible rfl⟩ ?_
    refine pure_ (i := 13) (N := some 18) (v := undef) (a' := ?_) (bm_ 19 16383) rfl rfl (any_of HT_.out (by kernel_rfl)) (fun _ _ _ h => h) (Or.inr ⟨by rfl, rfl⟩) ?_ ?_
    rotate_left
    ·
     simp only [Act.put, List.setIfInBounds_toArray, List.set_cons_zero, List.set_cons_succ, i64_w, i32_w]
     rfl
    refine pure_ (i := 14) (N := some 19) (v := undef) (a' := ?_) (bm_ 19 32767) rfl rfl (any_of HT_.out (by kernel_rfl)) (fun _ _ _ h => h) (Or.inr ⟨by rfl, rfl⟩) ?_ ?_
    rotate_left
    ·
     simp only [Act.put, List.setIfInBounds_toArray, List.set_cons_zero, List.set_cons_succ, i64_w, i32_w]
     rfl
    refine pure_ (i := 15) (N := some 20) (v := undef) (a' := ?_) (bm_ 19 65535) rfl rfl (any_of HT_.out (by kernel_rfl)) (fun _ _ _ h => h) (Or.inr ⟨by rfl, rfl⟩) ?_ ?_
    rotate_left
    ·
     simp only [Act.put, List.setIfInBounds_toArray, List.set_cons_zero, List.set_cons_succ, i64_w, i32_w]
     rfl
    refine pure_ (i := 16) (N := some 21) (v := undef) (a' := ?_) (bm_ 19 131071) rfl rfl (any_of HT_.out (by kernel_rfl)) (fun _ _ _ h => h) (Or.inr ⟨by rfl, rfl⟩) ?_ ?_
    rotate_left
    ·
     simp only [Act.put, List.setIfInBounds_toArray, List.set_cons_zero, List.set_cons_succ, i64_w, i32_w]
     rfl
    refine pu_ 17 (some 22) (bm_ 19 262143) rfl HT_ ⟨by rfl, by intro w'; go_simp; with_reducible rfl⟩ ?_
    refine pu_ 18 (some 4) (bm_ 19 524287) rfl HT_ ⟨by rfl, by intro w'; go_simp; with_reducible rfl⟩ ?_
    refine done_ (done_of HT_.out (by kernel_rfl)) ?_
    try go_wp2
    go_ret
    exact ⟨by first | rfl | (simp [errW_none, errW_some] <;> rfl) | (simp [*, errW_none, errW_some] <;> rfl), pb_ HB⟩
  ·
   replace c6 := Bool.eq_false_iff.mpr c6
   subst c6
   have H1 : (some false) = some r := by rw [if_neg (show ¬ (false = true) by decide)] at H; exact H
   clear H
   have H := H1
   clear H1
   obtain rfl := Option.some.inj H
   go_enter Tryz.func42, Tryz.ntmps42
   try go_wp2_with (first | ((with_reducible refine gate_dst (N := 2) rfl ?_); refine bx_ 2 #[.bool a0_0, .int .u64 a0_1, .int .u64 a0_2, .int .i64 a0_3] 38 ?_; intro gb257 hg w25 hbox hb; have BK257 := Aside0.mk (hbox); have GW257 := gw_ HB hg; have GE257 := gw_ HB hg; replace HB := bs_ HB hb; clear hb hbox hg) | ((with_reducible refine gate_dst (N := 3) rfl ?_); refine bx_ 3 #[.bool a1_0, .int .u64 a1_1, .int .u64 a1_2, .int .i64 a1_3] 38 ?_; intro gb258 hg w26 hbox hb; have BK258 := Aside0.mk (hbox); have GW258 := gw_ HB hg; have GE258 := gw_ HB hg; have NB257_258 := nl_ BK257 hg; have NB258_257 := ng_ BK257 hg; replace BK257 := bb_ BK257 hb; replace HB := bs_ HB hb; clear hb hbox hg))
   replace BK257 := Aside0.mk (blk_drew BK257.out)
   replace BK258 := Aside0.mk (blk_drew BK258.out)
   replace HB := Aside0.mk (below_drew1 HB.out)
   refine start_ (n := 19) (S := fun w' => w'.cell? ⟨gb257, 0, none⟩ = some (.bool a0_0) ∧ w'.cell? ⟨gb257, 1, none⟩ = some (.int .u64 a0_1) ∧ w'.cell? ⟨gb257, 2, none⟩ = some (.int .u64 a0_2) ∧ w'.cell? ⟨gb257, 3, none⟩ = some (.int .i64 a0_3) ∧ w'.cell? ⟨gb258, 0, none⟩ = some (.bool a1_0) ∧ w'.cell? ⟨gb258, 1, none⟩ = some (.int .u64 a1_1) ∧ w'.cell? ⟨gb258, 2, none⟩ = some (.int .u64 a1_2) ∧ w'.cell? ⟨gb258, 3, none⟩ = some (.int .i64 a1_3)) (ds := []) (bm_ 19 0) (by kernel_rfl) rfl rfl ⟨kc_ BK257 0, kc_ BK257 1, kc_ BK257 2, kc_ BK257 3, kc_ BK258 0, kc_ BK258 1, kc_ BK258 2, kc_ BK258 3⟩ (fun hHeld => ?_); refine with_tabW platbookref03_Within.tab1 platbookref03_Within.bits1 (fun HT_ HW_ => ?_)
   generalize w26.drew = w27 at BK257 BK258 HB hHeld ⊢
   refine ta_ 0 (some 5) (bm_ 19 1) rfl HT_ HW_ ⟨by rfl, by rintro w' ⟨s0, s1, s2, s3, s4, s5, s6, s7⟩; go_simp; with_reducible rfl⟩ hHeld ?_
   refine one_ (i := 1) (N := some 6) (bm_ 19 3) rfl rfl (one_of HT_.out (by kernel_rfl)) (by decide) (fun K hK => ?_)
   refine gr_ Tryz.func29 #[.agg #[.bool a0_0, .int .u64 a0_1, .int .u64 a0_2, .int .i64 a0_3]] ?_
   with_reducible refine (platbookref03_Right.calls k a0_0 a0_1 a0_2 a0_3 true _ A3.out).mono ?_
   rintro e w28 ⟨rfl, hb⟩
   refine ⟨_, rfl, ?_⟩
   replace BK257 := bb_ BK257 hb
   replace BK258 := bb_ BK258 hb
   replace HB := bs_ HB hb
   (try clear hb)
   (try clear hb2)
   (try clear hk)
   (try clear hi)
   refine hK.out _ _ ⟨kc_ BK257 0, kc_ BK257 1, kc_ BK257 2, kc_ BK257 3, kc_ BK258 0, kc_ BK258 1, kc_ BK258 2, kc_ BK258 3⟩ (fun hHeld => ?_)
   clear hK K
   refine norm_ (a' := ?_) ?_ ?_
   rotate_left
   ·
    show Act.put _ (some 6) _ = _
    simp only [Act.put, List.setIfInBounds_toArray, List.set_cons_zero, List.set_cons_succ, i64_w, i32_w]
    rfl
   refine pu_ 2 (some 7) (bm_ 19 7) rfl HT_ ⟨by rfl, by intro w'; go_simp; with_reducible rfl⟩ ?_
   refine ta_ 3 (some 8) (bm_ 19 15) rfl HT_ HW_ ⟨by rfl, by rintro w' ⟨s0, s1, s2, s3, s4, s5, s6, s7⟩; go_simp; with_reducible rfl⟩ hHeld ?_
   refine one_ (i := 4) (N := some 9) (bm_ 19 31) rfl rfl (one_of HT_.out (by kernel_rfl)) (by decide) (fun K hK => ?_)
   refine gr_ Tryz.func29 #[.agg #[.bool a1_0, .int .u64 a1_1, .int .u64 a1_2, .int .i64 a1_3]] ?_
   with_reducible refine (platbookref03_Right.calls k a1_0 a1_1 a1_2 a1_3 false _ A5.out).mono ?_
   rintro e w29 ⟨rfl, hb⟩
   refine ⟨_, rfl, ?_⟩
   replace BK257 := bb_ BK257 hb
   replace BK258 := bb_ BK258 hb
   replace HB := bs_ HB hb
   (try clear hb)
   (try clear hb2)
   (try clear hk)
   (try clear hi)
   refine hK.out _ _ ⟨kc_ BK257 0, kc_ BK257 1, kc_ BK257 2, kc_ BK257 3, kc_ BK258 0, kc_ BK258 1, kc_ BK258 2, kc_ BK258 3⟩ (fun hHeld => ?_)
   clear hK K
   refine norm_ (a' := ?_) ?_ ?_
   rotate_left
   ·
    show Act.put _ (some 9) _ = _
    simp only [Act.put, List.setIfInBounds_toArray, List.set_cons_zero, List.set_cons_succ, i64_w, i32_w]
    rfl
   refine pu_ 5 (some 10) (bm_ 19 63) rfl HT_ ⟨by rfl, by intro w'; go_simp; with_reducible rfl⟩ ?_
   refine pu_ 6 (some 11) (bm_ 19 127) rfl HT_ ⟨by rfl, by intro w'; go_simp; with_reducible rfl⟩ ?_
   refine pure_ (i := 7) (N := some 12) (v := undef) (a' := ?_) (bm_ 19 255) rfl rfl (any_of HT_.out (by kernel_rfl)) (fun _ _ _ h => h) (Or.inr ⟨by rfl, rfl⟩) ?_ ?_
   rotate_left
   ·
    simp only [Act.put, List.setIfInBounds_toArray, List.set_cons_zero, List.set_cons_succ, i64_w, i32_w]
    rfl
   refine pure_ (i := 8) (N := some 13) (v := undef) (a' := ?_) (bm_ 19 511) rfl rfl (any_of HT_.out (by kernel_rfl)) (fun _ _ _ h => h) (Or.inr ⟨by rfl, rfl⟩) ?_ ?_
   rotate_left
   ·
    simp only [Act.put, List.setIfInBounds_toArray, List.set_cons_zero, List.set_cons_succ, i64_w, i32_w]
    rfl
   refine pure_ (i := 9) (N := some 14) (v := undef) (a' := ?_) (bm_ 19 1023) rfl rfl (any_of HT_.out (by kernel_rfl)) (fun _ _ _ h => h) (Or.inr ⟨by rfl, rfl⟩) ?_ ?_
   rotate_left
   ·
    simp only [Act.put, List.setIfInBounds_toArray, List.set_cons_zero, List.set_cons_succ, i64_w, i32_w]
    rfl
   refine pure_ (i := 10) (N := some 15) (v := undef) (a' := ?_) (bm_ 19 2047) rfl rfl (any_of HT_.out (by kernel_rfl)) (fun _ _ _ h => h) (Or.inr ⟨by rfl, rfl⟩) ?_ ?_
   rotate_left
   ·
    simp only [Act.put, List.setIfInBounds_toArray, List.set_cons_zero, List.set_cons_succ, i64_w, i32_w]
    rfl
   refine pu_ 11 (some 16) (bm_ 19 4095) rfl HT_ ⟨by rfl, by intro w'; go_simp; with_reducible rfl⟩ ?_
   refine pu_ 12 (some 17) (bm_ 19 8191) rfl HT_ ⟨by rfl, by intro w'; go_simp; with_reducible rfl⟩ ?_
   refine pure_ (i := 13) (N := some 18) (v := undef) (a' := ?_) (bm_ 19 16383) rfl rfl (any_of HT_.out (by kernel_rfl)) (fun _ _ _ h => h) (Or.inr ⟨by rfl, rfl⟩) ?_ ?_
   rotate_left
   ·
    simp only [Act.put, List.setIfInBounds_toArray, List.set_cons_zero, List.set_cons_succ, i64_w, i32_w]
    rfl
   refine pure_ (i := 14) (N := some 19) (v := undef) (a' := ?_) (bm_ 19 32767) rfl rfl (any_of HT_.out (by kernel_rfl)) (fun _ _ _ h => h) (Or.inr ⟨by rfl, rfl⟩) ?_ ?_
   rotate_left
   ·
    simp only [Act.put, List.setIfInBounds_toArray, List.set_cons_zero, List.set_cons_succ, i64_w, i32_w]
    rfl
   refine pure_ (i := 15) (N := some 20) (v := undef) (a' := ?_) (bm_ 19 65535) rfl rfl (any_of HT_.out (by kernel_rfl)) (fun _ _ _ h => h) (Or.inr ⟨by rfl, rfl⟩) ?_ ?_
   rotate_left
   ·
    simp only [Act.put, List.setIfInBounds_toArray, List.set_cons_zero, List.set_cons_succ, i64_w, i32_w]
    rfl
   refine pure_ (i := 16) (N := some 21) (v := undef) (a' := ?_) (bm_ 19 131071) rfl rfl (any_of HT_.out (by kernel_rfl)) (fun _ _ _ h => h) (Or.inr ⟨by rfl, rfl⟩) ?_ ?_
   rotate_left
   ·
    simp only [Act.put, List.setIfInBounds_toArray, List.set_cons_zero, List.set_cons_succ, i64_w, i32_w]
    rfl
   refine pu_ 17 (some 22) (bm_ 19 262143) rfl HT_ ⟨by rfl, by intro w'; go_simp; with_reducible rfl⟩ ?_
   refine pu_ 18 (some 4) (bm_ 19 524287) rfl HT_ ⟨by rfl, by intro w'; go_simp; with_reducible rfl⟩ ?_
   refine done_ (done_of HT_.out (by kernel_rfl)) ?_
   try go_wp2
   go_ret
   exact ⟨by first | rfl | (simp [errW_none, errW_some] <;> rfl) | (simp [*, errW_none, errW_some] <;> rfl), pb_ HB⟩
 ·
  replace c4 := Bool.eq_false_iff.mpr c4
  subst c4
  have H1 : (some false) = some r := by rw [if_neg (show ¬ (false = true) by decide)] at H; exact H
  clear H
  have H := H1
  clear H1
  obtain rfl := Option.some.inj H
  go_enter Tryz.func42, Tryz.ntmps42
  try go_wp2_with (first | ((with_reducible refine gate_dst (N := 2) rfl ?_); refine bx_ 2 #[.bool a0_0, .int .u64 a0_1, .int .u64 a0_2, .int .i64 a0_3] 38 ?_; intro gb257 hg w30 hbox hb; have BK257 := Aside0.mk (hbox); have GW257 := gw_ HB hg; have GE257 := gw_ HB hg; replace HB := bs_ HB hb; clear hb hbox hg) | ((with_reducible refine gate_dst (N := 3) rfl ?_); refine bx_ 3 #[.bool a1_0, .int .u64 a1_1, .int .u64 a1_2, .int .i64 a1_3] 38 ?_; intro gb258 hg w31 hbox hb; have BK258 := Aside0.mk (hbox); have GW258 := gw_ HB hg; have GE258 := gw_ HB hg; have NB257_258 := nl_ BK257 hg; have NB258_257 := ng_ BK257 hg; replace BK257 := bb_ BK257 hb; replace HB := bs_ HB hb; clear hb hbox hg))
  replace BK257 := Aside0.mk (blk_drew BK257.out)
  replace BK258 := Aside0.mk (blk_drew BK258.out)
  replace HB := Aside0.mk (below_drew1 HB.out)
  refine start_ (n := 19) (S := fun w' => w'.cell? ⟨gb257, 0, none⟩ = some (.bool a0_0) ∧ w'.cell? ⟨gb257, 1, none⟩ = some (.int .u64 a0_1) ∧ w'.cell? ⟨gb257, 2, none⟩ = some (.int .u64 a0_2) ∧ w'.cell? ⟨gb257, 3, none⟩ = some (.int .i64 a0_3)) (ds := []) (bm_ 19 0) (by kernel_rfl) rfl rfl ⟨kc_ BK257 0, kc_ BK257 1, kc_ BK257 2, kc_ BK257 3⟩ (fun hHeld => ?_); refine with_tabW platbookref03_Within.tab1 platbookref03_Within.bits1 (fun HT_ HW_ => ?_)
  generalize w31.drew = w32 at BK257 BK258 HB hHeld ⊢
  refine ta_ 0 (some 5) (bm_ 19 1) rfl HT_ HW_ ⟨by rfl, by rintro w' ⟨s0, s1, s2, s3⟩; go_simp; with_reducible rfl⟩ hHeld ?_
  refine one_ (i := 1) (N := some 6) (bm_ 19 3) rfl rfl (one_of HT_.out (by kernel_rfl)) (by decide) (fun K hK => ?_)
  refine gr_ Tryz.func29 #[.agg #[.bool a0_0, .int .u64 a0_1, .int .u64 a0_2, .int .i64 a0_3]] ?_
  with_reducible refine (platbookref03_Right.calls k a0_0 a0_1 a0_2 a0_3 false _ A3.out).mono ?_
  rintro e w33 ⟨rfl, hb⟩
  refine ⟨_, rfl, ?_⟩
  replace BK257 := bb_ BK257 hb
  replace BK258 := bb_ BK258 hb
  replace HB := bs_ HB hb
  (try clear hb)
  (try clear hb2)
  (try clear hk)
  (try clear hi)
  refine hK.out _ _ ⟨kc_ BK257 0, kc_ BK257 1, kc_ BK257 2, kc_ BK257 3⟩ (fun hHeld => ?_)
  clear hK K
  refine norm_ (a' := ?_) ?_ ?_
  rotate_left
  ·
   show Act.put _ (some 6) _ = _
   simp only [Act.put, List.setIfInBounds_toArray, List.set_cons_zero, List.set_cons_succ, i64_w, i32_w]
   rfl
  refine pu_ 2 (some 7) (bm_ 19 7) rfl HT_ ⟨by rfl, by intro w'; go_simp; with_reducible rfl⟩ ?_
  refine pure_ (i := 3) (N := some 8) (v := undef) (a' := ?_) (bm_ 19 15) rfl rfl (any_of HT_.out (by kernel_rfl)) (fun _ _ _ h => h) (Or.inr ⟨by rfl, rfl⟩) ?_ ?_
  rotate_left
  ·
   simp only [Act.put, List.setIfInBounds_toArray, List.set_cons_zero, List.set_cons_succ, i64_w, i32_w]
   rfl
  refine pure_ (i := 4) (N := some 9) (v := undef) (a' := ?_) (bm_ 19 31) rfl rfl (any_of HT_.out (by kernel_rfl)) (fun _ _ _ h => h) (Or.inr ⟨by rfl, rfl⟩) ?_ ?_
  rotate_left
  ·
   simp only [Act.put, List.setIfInBounds_toArray, List.set_cons_zero, List.set_cons_succ, i64_w, i32_w]
   rfl
  refine pu_ 5 (some 10) (bm_ 19 63) rfl HT_ ⟨by rfl, by intro w'; go_simp; with_reducible rfl⟩ ?_
  refine pu_ 6 (some 11) (bm_ 19 127) rfl HT_ ⟨by rfl, by intro w'; go_simp; with_reducible rfl⟩ ?_
  refine pure_ (i := 7) (N := some 12) (v := undef) (a' := ?_) (bm_ 19 255) rfl rfl (any_of HT_.out (by kernel_rfl)) (fun _ _ _ h => h) (Or.inr ⟨by rfl, rfl⟩) ?_ ?_
  rotate_left
  ·
   simp only [Act.put, List.setIfInBounds_toArray, List.set_cons_zero, List.set_cons_succ, i64_w, i32_w]
   rfl
  refine pure_ (i := 8) (N := some 13) (v := undef) (a' := ?_) (bm_ 19 511) rfl rfl (any_of HT_.out (by kernel_rfl)) (fun _ _ _ h => h) (Or.inr ⟨by rfl, rfl⟩) ?_ ?_
  rotate_left
  ·
   simp only [Act.put, List.setIfInBounds_toArray, List.set_cons_zero, List.set_cons_succ, i64_w, i32_w]
   rfl
  refine pure_ (i := 9) (N := some 14) (v := undef) (a' := ?_) (bm_ 19 1023) rfl rfl (any_of HT_.out (by kernel_rfl)) (fun _ _ _ h => h) (Or.inr ⟨by rfl, rfl⟩) ?_ ?_
  rotate_left
  ·
   simp only [Act.put, List.setIfInBounds_toArray, List.set_cons_zero, List.set_cons_succ, i64_w, i32_w]
   rfl
  refine pure_ (i := 10) (N := some 15) (v := undef) (a' := ?_) (bm_ 19 2047) rfl rfl (any_of HT_.out (by kernel_rfl)) (fun _ _ _ h => h) (Or.inr ⟨by rfl, rfl⟩) ?_ ?_
  rotate_left
  ·
   simp only [Act.put, List.setIfInBounds_toArray, List.set_cons_zero, List.set_cons_succ, i64_w, i32_w]
   rfl
  refine pu_ 11 (some 16) (bm_ 19 4095) rfl HT_ ⟨by rfl, by intro w'; go_simp; with_reducible rfl⟩ ?_
  refine pu_ 12 (some 17) (bm_ 19 8191) rfl HT_ ⟨by rfl, by intro w'; go_simp; with_reducible rfl⟩ ?_
  refine pure_ (i := 13) (N := some 18) (v := undef) (a' := ?_) (bm_ 19 16383) rfl rfl (any_of HT_.out (by kernel_rfl)) (fun _ _ _ h => h) (Or.inr ⟨by rfl, rfl⟩) ?_ ?_
  rotate_left
  ·
   simp only [Act.put, List.setIfInBounds_toArray, List.set_cons_zero, List.set_cons_succ, i64_w, i32_w]
   rfl
  refine pure_ (i := 14) (N := some 19) (v := undef) (a' := ?_) (bm_ 19 32767) rfl rfl (any_of HT_.out (by kernel_rfl)) (fun _ _ _ h => h) (Or.inr ⟨by rfl, rfl⟩) ?_ ?_
  rotate_left
  ·
   simp only [Act.put, List.setIfInBounds_toArray, List.set_cons_zero, List.set_cons_succ, i64_w, i32_w]
   rfl
  refine pure_ (i := 15) (N := some 20) (v := undef) (a' := ?_) (bm_ 19 65535) rfl rfl (any_of HT_.out (by kernel_rfl)) (fun _ _ _ h => h) (Or.inr ⟨by rfl, rfl⟩) ?_ ?_
  rotate_left
  ·
   simp only [Act.put, List.setIfInBounds_toArray, List.set_cons_zero, List.set_cons_succ, i64_w, i32_w]
   rfl
  refine pure_ (i := 16) (N := some 21) (v := undef) (a' := ?_) (bm_ 19 131071) rfl rfl (any_of HT_.out (by kernel_rfl)) (fun _ _ _ h => h) (Or.inr ⟨by rfl, rfl⟩) ?_ ?_
  rotate_left
  ·
   simp only [Act.put, List.setIfInBounds_toArray, List.set_cons_zero, List.set_cons_succ, i64_w, i32_w]
   rfl
  refine pu_ 17 (some 22) (bm_ 19 262143) rfl HT_ ⟨by rfl, by intro w'; go_simp; with_reducible rfl⟩ ?_
  refine pu_ 18 (some 4) (bm_ 19 524287) rfl HT_ ⟨by rfl, by intro w'; go_simp; with_reducible rfl⟩ ?_
  refine done_ (done_of HT_.out (by kernel_rfl)) ?_
  try go_wp2
  go_ret
  exact ⟨by first | rfl | (simp [errW_none, errW_some] <;> rfl) | (simp [*, errW_none, errW_some] <;> rfl), pb_ HB⟩

end Go.Proofs.YtgdgklibilddgaaGreatDoor.PPr

namespace Go.Proofs.YtgdgklibilddgaaGreatDoor.PPr
open Go.RowKit Go.Proofs.YtgdgklibilddgaaGreatDoorW.PrintWords Go.Proofs.YtgdgklibilddgaaGreatDoorW.PrintLast Go.Proofs.YtgdgklibilddgaaGreatDoorW.PrintMore
attribute [local go_sem] max2_int min2_int max_two min_two max_three min_three max_four min_four   -- for this text's walks alone

def carve_Index.j0 : Nat → Bool → Bool → Int → Int → Int → Bool → Int → Int → Int → Option (Int × Int × Int)
 | 0, _, _, _, _, _, _, _, _, _ => none
 | k + 1, x6, x759000, x759001, x759002, x759003, x760000, x760001, x760002, x760003 => if x6 = true then (some (0, 0, 1)) else ((prefix_Within.f k x760000 x760001 x760002 x760003 x759000 x759001 x759002 x759003).bind fun t763 => (if t763 = true then ((addr_Width.f x760000 x760001 x760002).bind fun t764 => ((carve_below.f x759000 x759001 x759002 x759003 x760000 x760001 x760002 (wrap64 (t764 - x760003))).bind fun bt765 => (some (bt765.1, bt765.2, 0)))) else (some (0, 0, 12))))
def carve_Index.f (k : Nat) (a0_0 : Bool) (a0_1 : Int) (a0_2 : Int) (a0_3 : Int) (a1_0 : Bool) (a1_1 : Int) (a1_2 : Int) (a1_3 : Int) : Option (Int × Int × Int) := (prefix_Right.f a0_0 a0_1 a0_2 a0_3).bind fun t761 => (if t761 = true then ((prefix_Right.f a1_0 a1_1 a1_2 a1_3).bind fun t762 => (carve_Index.j0 k (!t762) a0_0 a0_1 a0_2 a0_3 a1_0 a1_1 a1_2 a1_3)) else (carve_Index.j0 k true a0_0 a0_1 a0_2 a0_3 a1_0 a1_1 a1_2 a1_3))
def carve_Index.T5 : Bool × List (List Nat × List Nat) := (true, [([], []), ([], []), ([1], [1]), ([], []), ([3], [3]), ([4], [4]), ([], []), ([6], [6]), ([5, 7], [5, 7]), ([0, 2, 8, 5], [0, 2, 8]), ([9, 9, 0, 1, 2, 3, 4, 5, 6, 7, 8, 9], [9]), ([10, 0, 1, 2, 3, 4, 5, 6, 7, 8, 9, 10], [])])
def carve_Index.B5 : List Nat := [0, 0, 2, 0, 8, 24, 0, 64, 248, 511, 1023, 2047]
theorem carve_Index.tab5 : rtab .any (opsOf Tryz.f60 5) = carve_Index.T5 := by kernel_rfl
theorem carve_Index.bits5 : waitsOk carve_Index.T5.2 carve_Index.B5 = true := by kernel_rfl
set_option maxHeartbeats 8000000 in
set_option maxRecDepth 100000 in
theorem carve_Index.calls (k : Nat) (a0_0 : Bool) (a0_1 : Int) (a0_2 : Int) (a0_3 : Int) (a1_0 : Bool) (a1_1 : Int) (a1_2 : Int) (a1_3 : Int) (r1 : Int) (r2 : Int) (r3 : Int) (w : World) (h : carve_Index.f k a0_0 a0_1 a0_2 a0_3 a1_0 a1_1 a1_2 a1_3 = some (r1, r2, r3)) :
  Calls Tryz.prog 60 #[.agg #[.bool a0_0, .int .u64 a0_1, .int .u64 a0_2, .int .i64 a0_3], .agg #[.bool a1_0, .int .u64 a1_1, .int .u64 a1_2, .int .i64 a1_3]] w fun e w' => e = .returned (.tuple #[.agg #[.int .u64 r1, .int .u64 r2], .int .i64 r3]) ∧ Below w.heap.size w w' := by
 have hu38 := Tryz.underlying38
 have hu24 := Tryz.underlying24
 have hu26 := Tryz.underlying26
 have HB := Aside0.mk (Below.refl w.heap.size w)
 have H : ((prefix_Right.f a0_0 a0_1 a0_2 a0_3).bind fun t761 => (if t761 = true then ((prefix_Right.f a1_0 a1_1 a1_2 a1_3).bind fun t762 => (carve_Index.j0 k (!t762) a0_0 a0_1 a0_2 a0_3 a1_0 a1_1 a1_2 a1_3)) else (carve_Index.j0 k true a0_0 a0_1 a0_2 a0_3 a1_0 a1_1 a1_2 a1_3))) = some (r1, r2, r3) := h
 clear h
 have HC3 := Aside0.mk H
 clear H
 go_enter Tryz.func60, Tryz.ntmps60
 go_upto_region 1 with (first | ((with_reducible refine gate_dst (N := 2) rfl ?_); refine bx_ 2 #[.bool a0_0, .int .u64 a0_1, .int .u64 a0_2, .int .i64 a0_3] 38 ?_; intro gb758 hg w4 hbox hb; have BK758 := Aside0.mk (hbox); have GW758 := gw_ HB hg; have GE758 := gw_ HB hg; replace HB := bs_ HB hb; clear hb hbox hg) | ((with_reducible refine gate_dst (N := 3) rfl ?_); refine bx_ 3 #[.bool a1_0, .int .u64 a1_1, .int .u64 a1_2, .int .i64 a1_3] 38 ?_; intro gb759 hg w5 hbox hb; have BK759 := Aside0.mk (hbox); have GW759 := gw_ HB hg; have GE759 := gw_ HB hg; have NB758_759 := nl_ BK758 hg; have NB759_758 := ng_ BK758 hg; replace BK758 := bb_ BK758 hb; replace HB := bs_ HB hb; clear hb hbox hg) | ((with_reducible refine gate_dst (N := 4) rfl ?_); refine bx_ 4 #[.int .u64 0, .int .u64 0] 24 ?_; intro gb760 hg w6 hbox hb; have BK760 := Aside0.mk (hbox); have GW760 := gw_ HB hg; have GE760 := gw_ HB hg; have NB758_760 := nl_ BK758 hg; have NB760_758 := ng_ BK758 hg; have NB759_760 := nl_ BK759 hg; have NB760_759 := ng_ BK759 hg; replace BK758 := bb_ BK758 hb; replace BK759 := bb_ BK759 hb; replace HB := bs_ HB hb; clear hb hbox hg))
 (try simp only [Act.put, List.setIfInBounds_toArray, List.set_cons_zero, List.set_cons_succ])
 go_cut [6] (fun v6 wc => ∃ (kq : Nat) (x6_2 : Bool), v6 = .bool x6_2 ∧ Aside0 (carve_Index.j0 kq x6_2 a0_0 a0_1 a0_2 a0_3 a1_0 a1_1 a1_2 a1_3 = some (r1, r2, r3)) ∧ Aside0 (kq ≤ k) ∧ Aside0 (wc.heap[gb758]? = some (.cells #[.bool a0_0, .int .u64 a0_1, .int .u64 a0_2, .int .i64 a0_3] 38 (0, 0))) ∧ Aside0 (wc.heap[gb759]? = some (.cells #[.bool a1_0, .int .u64 a1_1, .int .u64 a1_2, .int .i64 a1_3] 38 (0, 0))) ∧ Aside0 (wc.heap[gb760]? = some (.cells #[.int .u64 0, .int .u64 0] 24 (0, 0))) ∧ Aside0 (Below w.heap.size w wc))
 case first =>
  have H := HC3.out
  clear HC3
  replace H := Option.bind_eq_some_iff.mp H
  obtain ⟨t761, A70, H⟩ := H
  replace H : (if t761 = true then ((prefix_Right.f a1_0 a1_1 a1_2 a1_3).bind fun t762 => (carve_Index.j0 k (!t762) a0_0 a0_1 a0_2 a0_3 a1_0 a1_1 a1_2 a1_3)) else (carve_Index.j0 k true a0_0 a0_1 a0_2 a0_3 a1_0 a1_1 a1_2 a1_3)) = some (r1, r2, r3) := H
  have A7 := Aside0.mk A70
  clear A70
  by_cases c8 : t761 = true
  ·
   subst c8
   rw [if_pos rfl] at H
   replace H := Option.bind_eq_some_iff.mp H
   obtain ⟨t762, A90, H⟩ := H
   replace H : (carve_Index.j0 k (!t762) a0_0 a0_1 a0_2 a0_3 a1_0 a1_1 a1_2 a1_3) = some (r1, r2, r3) := H
   have A9 := Aside0.mk A90
   clear A90
   have H' := Aside0.mk H
   clear H
   have hnb10 := NB758_759.out
   have hnc10 := NB759_758.out
   have hnb11 := NB758_760.out
   have hnc11 := NB760_758.out
   obtain ⟨hcz12_0, hcz12_1, hcz12_2, hcz12_3, hfz12_0, hfz12_1, hfz12_2, hfz12_3⟩ := c4_ BK758
   go_wp2_with (first | ((with_reducible refine gate_callee (f := 36) rfl ?_); refine gl_ (some 8) Tryz.func36 #[.agg #[.bool a0_0, .int .u64 a0_1, .int .u64 a0_2, .int .i64 a0_3]] ?_; (with_reducible refine (prefix_Right.calls a0_0 a0_1 a0_2 a0_3 true _ A7.out).mono ?_); rintro e w13 ⟨rfl, hb⟩; refine ⟨_, rfl, ?_⟩; replace BK758 := bb_ BK758 hb; replace BK759 := bb_ BK759 hb; replace BK760 := bb_ BK760 hb; replace HB := bs_ HB hb; (try clear hb); (try clear hb2); (try clear hk); (try clear hi); have hnb14 := NB759_760.out; have hnc14 := NB760_759.out; obtain ⟨hcz15_0, hcz15_1, hcz15_2, hcz15_3, hfz15_0, hfz15_1, hfz15_2, hfz15_3⟩ := c4_ BK759) | (go_at_call 36; (with_reducible refine (prefix_Right.calls a1_0 a1_1 a1_2 a1_3 t762 _ A9.out).mono ?_); rintro e w16 ⟨rfl, hb⟩; replace BK758 := bb_ BK758 hb; replace BK759 := bb_ BK759 hb; replace BK760 := bb_ BK760 hb; replace HB := bs_ HB hb; (try clear hb); (try clear hb2); (try clear hk); (try clear hi)))
   go_meet
   case rel => exact ⟨_, (!t762), (by first | rfl | (simp; done) | (simp [*]; done)), H', ⟨by first | omega | exact Nat.le_refl _⟩, ⟨by refine pw_ ?_; exact BK758.out⟩, ⟨by refine pw_ ?_; exact BK759.out⟩, ⟨by refine pw_ ?_; exact BK760.out⟩, ⟨pb_ HB⟩⟩
  ·
   replace c8 := Bool.eq_false_iff.mpr c8
   subst c8
   have H1 : (carve_Index.j0 k true a0_0 a0_1 a0_2 a0_3 a1_0 a1_1 a1_2 a1_3) = some (r1, r2, r3) := by rw [if_neg (show ¬ (false = true) by decide)] at H; exact H
   clear H
   have H := H1
   clear H1
   have H' := Aside0.mk H
   clear H
   have hnb17 := NB758_759.out
   have hnc17 := NB759_758.out
   have hnb18 := NB758_760.out
   have hnc18 := NB760_758.out
   obtain ⟨hcz19_0, hcz19_1, hcz19_2, hcz19_3, hfz19_0, hfz19_1, hfz19_2, hfz19_3⟩ := c4_ BK758
   go_wp2_with (first | ((with_reducible refine gate_callee (f := 36) rfl ?_); refine gl_ (some 8) Tryz.func36 #[.agg #[.bool a0_0, .int .u64 a0_1, .int .u64 a0_2, .int .i64 a0_3]] ?_; (with_reducible refine (prefix_Right.calls a0_0 a0_1 a0_2 a0_3 false _ A7.out).mono ?_); rintro e w20 ⟨rfl, hb⟩; refine ⟨_, rfl, ?_⟩; replace BK758 := bb_ BK758 hb; replace BK759 := bb_ BK759 hb; replace BK760 := bb_ BK760 hb; replace HB := bs_ HB hb; (try clear hb); (try clear hb2); (try clear hk); (try clear hi)))
   go_meet
   case rel => exact ⟨_, (true), (by first | rfl | (simp; done) | (simp [*]; done)), H', ⟨by first | omega | exact Nat.le_refl _⟩, ⟨by refine pw_ ?_; exact BK758.out⟩, ⟨by refine pw_ ?_; exact BK759.out⟩, ⟨by refine pw_ ?_; exact BK760.out⟩, ⟨pb_ HB⟩⟩
 case rest =>
  clear HC3
  try clear c1
  try clear p2
  try clear c3
  try clear c6
  try clear c8
  try clear c10
  try clear c11
  try clear c14
  try clear c17
  try clear c18
  try clear hcz12_0
  try clear hcz12_1
  try clear hcz12_2
  try clear hcz12_3
  try clear hcz15_0
  try clear hcz15_1
  try clear hcz15_2
  try clear hcz15_3
  try clear hcz19_0
  try clear hcz19_1
  try clear hcz19_2
  try clear hcz19_3
  try clear hfz12_0
  try clear hfz12_1
  try clear hfz12_2
  try clear hfz12_3
  try clear hfz15_0
  try clear hfz15_1
  try clear hfz15_2
  try clear hfz15_3
  try clear hfz19_0
  try clear hfz19_1
  try clear hfz19_2
  try clear hfz19_3
  obtain ⟨kq, x6_2, rfl, HA, HJ2, BK758, BK759, BK760, HB⟩ := hcut
  cases kq with
  | zero => exact absurd HA.out (by simp [carve_Index.j0])
  | succ kj2 =>
   have H := HA.out
   clear HA
   simp only [carve_Index.j0] at H
   by_cases c21 : x6_2 = true
   ·
    subst c21
    rw [if_pos rfl] at H
    simp only [Option.some.injEq, Prod.mk.injEq] at H
    obtain ⟨rfl, rfl, rfl⟩ := H
    have hnb22 := NB760_758.out
    have hnc22 := NB758_760.out
    have hnb23 := NB760_759.out
    have hnc23 := NB759_760.out
    obtain ⟨hcz24_0, hcz24_1, hfz24_0, hfz24_1⟩ := c2_ BK760
    go_wp2
    refine bodyPost_ret (results_ct rfl _ _ gb760 24 #[.int .u64 0, .int .u64 0] (0, 0) _ rfl (by refine pw_ ?_; refine blk_put (cs := #[.int .u64 0, .int .u64 0]) ?_ 1 _ rfl; refine pw_ ?_; refine blk_put (cs := #[.int .u64 0, .int .u64 0]) ?_ 0 _ rfl; refine pw_ ?_; exact BK760.out) Tryz.underlying24 rfl (by kernel_rfl)) rfl ?_
    exact ⟨by first | rfl | (simp [errW_none, errW_some] <;> rfl) | (simp [*, errW_none, errW_some] <;> rfl), pb_ HB⟩
   ·
    replace c21 := Bool.eq_false_iff.mpr c21
    subst c21
    have H1 : ((prefix_Within.f kj2 a1_0 a1_1 a1_2 a1_3 a0_0 a0_1 a0_2 a0_3).bind fun t763 => (if t763 = true then ((addr_Width.f a1_0 a1_1 a1_2).bind fun t764 => ((carve_below.f a0_0 a0_1 a0_2 a0_3 a1_0 a1_1 a1_2 (wrap64 (t764 - a1_3))).bind fun bt765 => (some (bt765.1, bt765.2, 0)))) else (some (0, 0, 12)))) = some (r1, r2, r3) := by rw [if_neg (show ¬ (false = true) by decide)] at H; exact H
    clear H
    have H := H1
    clear H1
    replace H := Option.bind_eq_some_iff.mp H
    obtain ⟨t763, A250, H⟩ := H
    replace H : (if t763 = true then ((addr_Width.f a1_0 a1_1 a1_2).bind fun t764 => ((carve_below.f a0_0 a0_1 a0_2 a0_3 a1_0 a1_1 a1_2 (wrap64 (t764 - a1_3))).bind fun bt765 => (some (bt765.1, bt765.2, 0)))) else (some (0, 0, 12))) = some (r1, r2, r3) := H
    have A25 := Aside0.mk A250
    clear A250
    by_cases c26 : t763 = true
    ·
     subst c26
     rw [if_pos rfl] at H
     replace H := Option.bind_eq_some_iff.mp H
     obtain ⟨t764, A270, H⟩ := H
     replace H : ((carve_below.f a0_0 a0_1 a0_2 a0_3 a1_0 a1_1 a1_2 (wrap64 (t764 - a1_3))).bind fun bt765 => (some (bt765.1, bt765.2, 0))) = some (r1, r2, r3) := H
     have A27 := Aside0.mk A270
     clear A270
     replace H := Option.bind_eq_some_iff.mp H
     obtain ⟨⟨t765, t766⟩, A280, H⟩ := H
     replace H : (some (t765, t766, 0)) = some (r1, r2, r3) := H
     have A28 := Aside0.mk A280
     clear A280
     simp only [Option.some.injEq, Prod.mk.injEq] at H
     obtain ⟨rfl, rfl, rfl⟩ := H
     have hnb29 := NB759_758.out
     have hnc29 := NB758_759.out
     have hnb30 := NB759_760.out
     have hnc30 := NB760_759.out
     obtain ⟨hcz31_0, hcz31_1, hcz31_2, hcz31_3, hfz31_0, hfz31_1, hfz31_2, hfz31_3⟩ := c4_ BK759
     have hnb32 := NB758_760.out
     have hnc32 := NB760_758.out
     obtain ⟨hcz33_0, hcz33_1, hcz33_2, hcz33_3, hfz33_0, hfz33_1, hfz33_2, hfz33_3⟩ := c4_ BK758
     try go_wp2_with (first | ((with_reducible refine gate_callee (f := 32) rfl ?_); refine gl_ (some 19) Tryz.func32 #[.agg #[.bool a1_0, .int .u64 a1_1, .int .u64 a1_2, .int .i64 a1_3], .agg #[.bool a0_0, .int .u64 a0_1, .int .u64 a0_2, .int .i64 a0_3]] ?_; (with_reducible refine (prefix_Within.calls kj2 a1_0 a1_1 a1_2 a1_3 a0_0 a0_1 a0_2 a0_3 true _ A25.out).mono ?_); rintro e w34 ⟨rfl, hb⟩; refine ⟨_, rfl, ?_⟩; replace BK758 := bb_ BK758 hb; replace BK759 := bb_ BK759 hb; replace BK760 := bb_ BK760 hb; replace HB := bs_ HB hb; (try clear hb); (try clear hb2); (try clear hk); (try clear hi)))
     replace BK758 := Aside0.mk (blk_drew BK758.out)
     replace BK759 := Aside0.mk (blk_drew BK759.out)
     replace BK760 := Aside0.mk (blk_drew BK760.out)
     replace HB := Aside0.mk (below_drew1 HB.out)
     refine start_ (n := 12) (S := fun w' => w'.cell? ⟨gb758, 0, none⟩ = some (.bool a0_0) ∧ w'.cell? ⟨gb758, 1, none⟩ = some (.int .u64 a0_1) ∧ w'.cell? ⟨gb758, 2, none⟩ = some (.int .u64 a0_2) ∧ w'.cell? ⟨gb758, 3, none⟩ = some (.int .i64 a0_3) ∧ w'.cell? ⟨gb759, 0, none⟩ = some (.bool a1_0) ∧ w'.cell? ⟨gb759, 1, none⟩ = some (.int .u64 a1_1) ∧ w'.cell? ⟨gb759, 2, none⟩ = some (.int .u64 a1_2) ∧ w'.cell? ⟨gb759, 3, none⟩ = some (.int .i64 a1_3)) (ds := []) (bm_ 12 0) (by kernel_rfl) rfl rfl ⟨kc_ BK758 0, kc_ BK758 1, kc_ BK758 2, kc_ BK758 3, kc_ BK759 0, kc_ BK759 1, kc_ BK759 2, kc_ BK759 3⟩ (fun hHeld => ?_); refine with_tabW carve_Index.tab5 carve_Index.bits5 (fun HT_ HW_ => ?_)
     generalize w34.drew = w35 at BK758 BK759 BK760 HB hHeld ⊢
     refine pu_ 1 (some 23) (bm_ 12 2) rfl HT_ ⟨by rfl, by intro w'; go_simp; with_reducible rfl⟩ ?_
     refine pu_ 3 (some 25) (bm_ 12 10) rfl HT_ ⟨by rfl, by intro w'; go_simp; with_reducible rfl⟩ ?_
     refine pu_ 6 (some 28) (bm_ 12 74) rfl HT_ ⟨by rfl, by intro w'; go_simp; with_reducible rfl⟩ ?_
     refine ta_ 0 (some 22) (bm_ 12 75) rfl HT_ HW_ ⟨by rfl, by rintro w' ⟨s0, s1, s2, s3, s4, s5, s6, s7⟩; go_simp; with_reducible rfl⟩ hHeld ?_
     refine ta_ 2 (some 24) (bm_ 12 79) rfl HT_ HW_ ⟨by rfl, by rintro w' ⟨s0, s1, s2, s3, s4, s5, s6, s7⟩; go_simp; with_reducible rfl⟩ hHeld ?_
     refine ta_ 4 (some 26) (bm_ 12 95) rfl HT_ HW_ ⟨by rfl, by rintro w' ⟨s0, s1, s2, s3, s4, s5, s6, s7⟩; go_simp; with_reducible rfl⟩ hHeld ?_
     refine ta_ 7 (some 29) (bm_ 12 223) rfl HT_ HW_ ⟨by rfl, by rintro w' ⟨s0, s1, s2, s3, s4, s5, s6, s7⟩; go_simp; with_reducible rfl⟩ hHeld ?_
     refine one_ (i := 5) (N := some 27) (bm_ 12 255) rfl rfl (one_of HT_.out (by kernel_rfl)) (by decide) (fun K hK => ?_)
     refine gr_ Tryz.func22 #[.agg #[.bool a1_0, .int .u64 a1_1, .int .u64 a1_2]] ?_
     with_reducible refine (addr_Width.calls a1_0 a1_1 a1_2 t764 _ A27.out).mono ?_
     rintro e w36 ⟨rfl, hb⟩
     refine ⟨_, rfl, ?_⟩
     replace BK758 := bb_ BK758 hb
     replace BK759 := bb_ BK759 hb
     replace BK760 := bb_ BK760 hb
     replace HB := bs_ HB hb
     (try clear hb)
     (try clear hb2)
     (try clear hk)
     (try clear hi)
     refine hK.out _ _ ⟨kc_ BK758 0, kc_ BK758 1, kc_ BK758 2, kc_ BK758 3, kc_ BK759 0, kc_ BK759 1, kc_ BK759 2, kc_ BK759 3⟩ (fun hHeld => ?_)
     clear hK K
     refine norm_ (a' := ?_) ?_ ?_
     rotate_left
     ·
      show Act.put _ (some 27) _ = _
      simp only [Act.put, List.setIfInBounds_toArray, List.set_cons_zero, List.set_cons_succ, i64_w, i32_w]
      rfl
     refine pu_ 8 (some 30) (bm_ 12 511) rfl HT_ ⟨by rfl, by intro w'; go_simp; with_reducible rfl⟩ ?_
     refine one_ (i := 9) (N := some 31) (bm_ 12 1023) rfl rfl (one_of HT_.out (by kernel_rfl)) (by decide) (fun K hK => ?_)
     refine gr_ Tryz.func95 #[.agg #[.bool a0_0, .int .u64 a0_1, .int .u64 a0_2, .int .i64 a0_3], .agg #[.bool a1_0, .int .u64 a1_1, .int .u64 a1_2], .int .i64 (wrap64 (t764 - a1_3))] ?_
     with_reducible refine (carve_below.calls a0_0 a0_1 a0_2 a0_3 a1_0 a1_1 a1_2 (wrap64 (t764 - a1_3)) t765 t766 _ A28.out).mono ?_
     rintro e w37 ⟨rfl, hb⟩
     refine ⟨_, rfl, ?_⟩
     replace BK758 := bb_ BK758 hb
     replace BK759 := bb_ BK759 hb
     replace BK760 := bb_ BK760 hb
     replace HB := bs_ HB hb
     (try clear hb)
     (try clear hb2)
     (try clear hk)
     (try clear hi)
     refine hK.out _ _ ⟨kc_ BK758 0, kc_ BK758 1, kc_ BK758 2, kc_ BK758 3, kc_ BK759 0, kc_ BK759 1, kc_ BK759 2, kc_ BK759 3⟩ (fun hHeld => ?_)
     clear hK K
     refine norm_ (a' := ?_) ?_ ?_
     rotate_left
     ·
      show Act.put _ (some 31) _ = _
      simp only [Act.put, List.setIfInBounds_toArray, List.set_cons_zero, List.set_cons_succ, i64_w, i32_w]
      rfl
     refine one_ (i := 10) (N := none) (bm_ 12 2047) rfl rfl (one_of HT_.out (by kernel_rfl)) (by decide) (fun K hK => ?_)
     have hs38 : w37.cell? ⟨gb760, 0, none⟩ = some (.int .u64 0) := kc_ BK760 0
     have hfs38 := blk_frozen BK760.out 0
     have hns38_0 := NB758_760.out
     have hns38_1 := NB759_760.out
     have hms38_0 := NB760_758.out
     have hms38_1 := NB760_759.out
     have hs39 : w37.cell? ⟨gb760, 1, none⟩ = some (.int .u64 0) := kc_ BK760 1
     have hfs39 := blk_frozen BK760.out 1
     have hns39_0 := NB758_760.out
     have hns39_1 := NB759_760.out
     have hms39_0 := NB760_758.out
     have hms39_1 := NB760_759.out
     refine skip_ (w1 := ?_) (by rfl) rfl ?_ ?_
     rotate_left
     ·
      go_simp
      rfl
     refine hK.out _ _ ⟨((cell_far (p := ⟨gb760, _, none⟩) NB758_760.out _).trans (((cell_far (p := ⟨gb760, _, none⟩) NB758_760.out _).trans (hHeld.1)))), ((cell_far (p := ⟨gb760, _, none⟩) NB758_760.out _).trans (((cell_far (p := ⟨gb760, _, none⟩) NB758_760.out _).trans (hHeld.2.1)))), ((cell_far (p := ⟨gb760, _, none⟩) NB758_760.out _).trans (((cell_far (p := ⟨gb760, _, none⟩) NB758_760.out _).trans (hHeld.2.2.1)))), ((cell_far (p := ⟨gb760, _, none⟩) NB758_760.out _).trans (((cell_far (p := ⟨gb760, _, none⟩) NB758_760.out _).trans (hHeld.2.2.2.1)))), ((cell_far (p := ⟨gb760, _, none⟩) NB759_760.out _).trans (((cell_far (p := ⟨gb760, _, none⟩) NB759_760.out _).trans (hHeld.2.2.2.2.1)))), ((cell_far (p := ⟨gb760, _, none⟩) NB759_760.out _).trans (((cell_far (p := ⟨gb760, _, none⟩) NB759_760.out _).trans (hHeld.2.2.2.2.2.1)))), ((cell_far (p := ⟨gb760, _, none⟩) NB759_760.out _).trans (((cell_far (p := ⟨gb760, _, none⟩) NB759_760.out _).trans (hHeld.2.2.2.2.2.2.1)))), ((cell_far (p := ⟨gb760, _, none⟩) NB759_760.out _).trans (((cell_far (p := ⟨gb760, _, none⟩) NB759_760.out _).trans (hHeld.2.2.2.2.2.2.2))))⟩ (fun hHeld => ?_)
     clear hK K
     refine pu_ 11 (some 5) (bm_ 12 4095) rfl HT_ ⟨by rfl, by intro w'; go_simp; with_reducible rfl⟩ ?_
     refine done_ (done_of HT_.out (by kernel_rfl)) ?_
     try go_wp2
     refine bodyPost_ret (results_ct rfl _ _ gb760 24 #[.int .u64 t765, .int .u64 t766] (0, 0) _ rfl (by refine pw_ ?_; refine blk_put (cs := #[.int .u64 t765, .int .u64 0]) ?_ 1 _ rfl; refine pw_ ?_; refine blk_put (cs := #[.int .u64 0, .int .u64 0]) ?_ 0 _ rfl; refine pw_ ?_; exact BK760.out) Tryz.underlying24 rfl (by kernel_rfl)) rfl ?_
     exact ⟨by first | rfl | (simp [errW_none, errW_some] <;> rfl) | (simp [*, errW_none, errW_some] <;> rfl), pb_ HB⟩
    ·
     replace c26 := Bool.eq_false_iff.mpr c26
     subst c26
     have H1 : (some (0, 0, 12)) = some (r1, r2, r3) := by rw [if_neg (show ¬ (false = true) by decide)] at H; exact H
     clear H
     have H := H1
     clear H1
     simp only [Option.some.injEq, Prod.mk.injEq] at H
     obtain ⟨rfl, rfl, rfl⟩ := H
     have hnb40 := NB759_758.out
     have hnc40 := NB758_759.out
     have hnb41 := NB759_760.out
     have hnc41 := NB760_759.out
     obtain ⟨hcz42_0, hcz42_1, hcz42_2, hcz42_3, hfz42_0, hfz42_1, hfz42_2, hfz42_3⟩ := c4_ BK759
     have hnb43 := NB758_760.out
     have hnc43 := NB760_758.out
     obtain ⟨hcz44_0, hcz44_1, hcz44_2, hcz44_3, hfz44_0, hfz44_1, hfz44_2, hfz44_3⟩ := c4_ BK758
     go_wp2_with (first | ((with_reducible refine gate_callee (f := 32) rfl ?_); refine gl_ (some 19) Tryz.func32 #[.agg #[.bool a1_0, .int .u64 a1_1, .int .u64 a1_2, .int .i64 a1_3], .agg #[.bool a0_0, .int .u64 a0_1, .int .u64 a0_2, .int .i64 a0_3]] ?_; (with_reducible refine (prefix_Within.calls kj2 a1_0 a1_1 a1_2 a1_3 a0_0 a0_1 a0_2 a0_3 false _ A25.out).mono ?_); rintro e w45 ⟨rfl, hb⟩; refine ⟨_, rfl, ?_⟩; replace BK758 := bb_ BK758 hb; replace BK759 := bb_ BK759 hb; replace BK760 := bb_ BK760 hb; replace HB := bs_ HB hb; (try clear hb); (try clear hb2); (try clear hk); (try clear hi); obtain ⟨hcz46_0, hcz46_1, hfz46_0, hfz46_1⟩ := c2_ BK760))
     refine bodyPost_ret (results_ct rfl _ _ gb760 24 #[.int .u64 0, .int .u64 0] (0, 0) _ rfl (by refine pw_ ?_; refine blk_put (cs := #[.int .u64 0, .int .u64 0]) ?_ 1 _ rfl; refine pw_ ?_; refine blk_put (cs := #[.int .u64 0, .int .u64 0]) ?_ 0 _ rfl; refine pw_ ?_; exact BK760.out) Tryz.underlying24 rfl (by kernel_rfl)) rfl ?_
     exact ⟨by first | rfl | (simp [errW_none, errW_some] <;> rfl) | (simp [*, errW_none, errW_some] <;> rfl), pb_ HB⟩

def platbookref04_Num.f (k : Nat) (l0 : List Int) : Option (Int × Int) := (platbookref03_Addr.f k true l0).bind fun bt768 => (some (bt768.2.1, bt768.2.2))
set_option maxHeartbeats 8000000 in
set_option maxRecDepth 100000 in
theorem platbookref04_Num.calls (k : Nat) (A0 : Option Addr) (c0 : Nat) (l0 : List Int) (r1 : Int) (r2 : Int) (w : World) (hr0 : Kd.C (Kd.int .i64) w A0 l0.length l0) (hc0 : l0.length ≤ c0) (h : platbookref04_Num.f k l0 = some (r1, r2)) :
  Calls Tryz.prog 97 #[.slice A0 l0.length c0] w fun e w' => e = .returned (.agg #[.int .u64 r1, .int .u64 r2]) ∧ Below w.heap.size w w' := by
 have hu24 := Tryz.underlying24
 have hfd26_1 : ∀ (x0 : Bool) (x1 : Int) (x2 : Int) (W : World), (Instr.field 26 (.agg #[.bool x0, .int .u64 x1, .int .u64 x2]) 1).run Tryz.prog W = .ok (.agg #[.int .u64 x1, .int .u64 x2]) W := by intros; kernel_rfl
 have HR0 := Aside0.mk hr0
 have HC0 := Aside0.mk hc0
 clear hr0 hc0
 have HB := Aside0.mk (Below.refl w.heap.size w)
 have H : ((platbookref03_Addr.f k true l0).bind fun bt768 => (some (bt768.2.1, bt768.2.2))) = some (r1, r2) := h
 clear h
 replace H := Option.bind_eq_some_iff.mp H
 obtain ⟨⟨t768, t769, t770⟩, A20, H⟩ := H
 replace H : (some (t769, t770)) = some (r1, r2) := H
 have A2 := Aside0.mk A20
 clear A20
 simp only [Option.some.injEq, Prod.mk.injEq] at H
 obtain ⟨rfl, rfl⟩ := H
 go_enter Tryz.func97, Tryz.ntmps97
 go_wp2_with (first | ((with_reducible refine gate_dst (N := 2) rfl ?_); refine bx_ 2 #[.int .u64 0, .int .u64 0] 24 ?_; intro gb767 hg w3 hbox hb; have BK767 := Aside0.mk (hbox); have GW767 := gw_ HB hg; have GE767 := gw_ HB hg; replace HB := bs_ HB hb; clear hb hbox hg) | ((with_reducible refine gate_callee (f := 93) rfl ?_); refine gl_ (some 4) Tryz.func93 #[.bool true, .slice A0 l0.length c0] ?_; (with_reducible refine (platbookref03_Addr.calls k true _ _ l0 t768 t769 t770 _ ?side1 ?side2 A2.out).mono ?_); (case side1 => repeat (first | exact (Kd.C_below HR0.out HB.out) | (with_reducible refine Kd.C_alloc ?_ _) | (with_reducible refine Kd.C_drewN ?_ _) | (with_reducible refine Kd.C_drew ?_))); (case side2 => exact HC0.out); rintro e w4 ⟨rfl, hb⟩; refine ⟨_, rfl, ?_⟩; replace BK767 := bb_ BK767 hb; replace HB := bs_ HB hb; (try clear hb); (try clear hb2); (try clear hk); (try clear hi); obtain ⟨hcz5_0, hcz5_1, hfz5_0, hfz5_1⟩ := c2_ BK767))
 refine bodyPost_ret (results_cell_row rfl _ _ gb767 24 #[.int .u64 t769, .int .u64 t770] (0, 0) _ rfl (by refine pw_ ?_; refine blk_put (cs := #[.int .u64 t769, .int .u64 0]) ?_ 1 _ rfl; refine pw_ ?_; refine blk_put (cs := #[.int .u64 0, .int .u64 0]) ?_ 0 _ rfl; refine pw_ ?_; exact BK767.out) Tryz.underlying24 rfl (by kernel_rfl)) rfl ?_
 exact ⟨by first | rfl | (simp [errW_none, errW_some] <;> rfl) | (simp [*, errW_none, errW_some] <;> rfl), pb_ HB⟩

def platbookref04_Index.j0 : Nat → Bool → Bool → Int → Int → Int → Bool → Int → Int → Int → Option (Int × Int × Int)
 | 0, _, _, _, _, _, _, _, _, _ => none
 | k + 1, x13, x772000, x772001, x772002, x772003, x773000, x773001, x773002, x773003 => if x13 = true then (some (0, 0, 1)) else ((platbookref03_Within.f k x773000 x773001 x773002 x773003 x772000 x772001 x772002 x772003).bind fun t776 => (if t776 = true then ((platbookref03_Row.f k x773000 x773001 x773002).bind fun t777 => (if 0 ≤ x772003 then (if x772003 ≤ x773003 then (if x773003 ≤ (t777.length : Int) then ((platbookref04_Num.f k ((t777.take (x773003 : Int).toNat).drop (x772003 : Int).toNat)).bind fun bt784 => (some (bt784.1, bt784.2, 0))) else (none)) else (none)) else (none))) else (some (0, 0, 12))))
def platbookref04_Index.f (k : Nat) (a0_0 : Bool) (a0_1 : Int) (a0_2 : Int) (a0_3 : Int) (a1_0 : Bool) (a1_1 : Int) (a1_2 : Int) (a1_3 : Int) : Option (Int × Int × Int) := (platbookref03_Right.f k a0_0 a0_1 a0_2 a0_3).bind fun t774 => (if t774 = true then ((platbookref03_Right.f k a1_0 a1_1 a1_2 a1_3).bind fun t775 => (platbookref04_Index.j0 k (!t775) a0_0 a0_1 a0_2 a0_3 a1_0 a1_1 a1_2 a1_3)) else (platbookref04_Index.j0 k true a0_0 a0_1 a0_2 a0_3 a1_0 a1_1 a1_2 a1_3))
def platbookref04_Index.T5 : Bool × List (List Nat × List Nat) := (true, [([], []), ([0], [0]), ([1], [1]), ([], []), ([3], [3]), ([], []), ([5], [5]), ([2, 4, 6], [2, 4, 6]), ([7, 2], [7]), ([8, 8, 0, 1, 2, 3, 4, 5, 6, 7, 8], [8]), ([9, 0, 1, 2, 3, 4, 5, 6, 7, 8, 9], [])])
def platbookref04_Index.B5 : List Nat := [0, 1, 3, 0, 8, 0, 32, 127, 255, 511, 1023]
theorem platbookref04_Index.tab5 : rtab .any (opsOf Tryz.f61 5) = platbookref04_Index.T5 := by kernel_rfl
theorem platbookref04_Index.bits5 : waitsOk platbookref04_Index.T5.2 platbookref04_Index.B5 = true := by kernel_rfl
set_option maxHeartbeats 8000000 in
set_option maxRecDepth 100000 in
theorem platbookref04_Index.calls (k : Nat) (a0_0 : Bool) (a0_1 : Int) (a0_2 : Int) (a0_3 : Int) (a1_0 : Bool) (a1_1 : Int) (a1_2 : Int) (a1_3 : Int) (r1 : Int) (r2 : Int) (r3 : Int) (w : World) (h : platbookref04_Index.f k a0_0 a0_1 a0_2 a0_3 a1_0 a1_1 a1_2 a1_3 = some (r1, r2, r3)) :
  Calls Tryz.prog 61 #[.agg #[.bool a0_0, .int .u64 a0_1, .int .u64 a0_2, .int .i64 a0_3], .agg #[.bool a1_0, .int .u64 a1_1, .int .u64 a1_2, .int .i64 a1_3]] w fun e w' => e = .returned (.tuple #[.agg #[.int .u64 r1, .int .u64 r2], .int .i64 r3]) ∧ Below w.heap.size w w' := by
 have hu38 := Tryz.underlying38
 have hu24 := Tryz.underlying24
 have hu26 := Tryz.underlying26
 have HB := Aside0.mk (Below.refl w.heap.size w)
 have H : ((platbookref03_Right.f k a0_0 a0_1 a0_2 a0_3).bind fun t774 => (if t774 = true then ((platbookref03_Right.f k a1_0 a1_1 a1_2 a1_3).bind fun t775 => (platbookref04_Index.j0 k (!t775) a0_0 a0_1 a0_2 a0_3 a1_0 a1_1 a1_2 a1_3)) else (platbookref04_Index.j0 k true a0_0 a0_1 a0_2 a0_3 a1_0 a1_1 a1_2 a1_3))) = some (r1, r2, r3) := h
 clear h
 have HC3 := Aside0.mk H
 clear H
 go_enter Tryz.func61, Tryz.ntmps61
 go_upto_region 1 with (first | ((with_reducible refine gate_dst (N := 2) rfl ?_); refine bx_ 2 #[.bool a0_0, .int .u64 a0_1, .int .u64 a0_2, .int .i64 a0_3] 38 ?_; intro gb771 hg w4 hbox hb; have BK771 := Aside0.mk (hbox); have GW771 := gw_ HB hg; have GE771 := gw_ HB hg; replace HB := bs_ HB hb; clear hb hbox hg) | ((with_reducible refine gate_dst (N := 3) rfl ?_); refine bx_ 3 #[.bool a1_0, .int .u64 a1_1, .int .u64 a1_2, .int .i64 a1_3] 38 ?_; intro gb772 hg w5 hbox hb; have BK772 := Aside0.mk (hbox); have GW772 := gw_ HB hg; have GE772 := gw_ HB hg; have NB771_772 := nl_ BK771 hg; have NB772_771 := ng_ BK771 hg; replace BK771 := bb_ BK771 hb; replace HB := bs_ HB hb; clear hb hbox hg) | ((with_reducible refine gate_dst (N := 4) rfl ?_); refine bx_ 4 #[.int .u64 0, .int .u64 0] 24 ?_; intro gb773 hg w6 hbox hb; have BK773 := Aside0.mk (hbox); have GW773 := gw_ HB hg; have GE773 := gw_ HB hg; have NB771_773 := nl_ BK771 hg; have NB773_771 := ng_ BK771 hg; have NB772_773 := nl_ BK772 hg; have NB773_772 := ng_ BK772 hg; replace BK771 := bb_ BK771 hb; replace BK772 := bb_ BK772 hb; replace HB := bs_ HB hb; clear hb hbox hg))
 (try simp only [Act.put, List.setIfInBounds_toArray, List.set_cons_zero, List.set_cons_succ])
 go_cut [13] (fun v13 wc => ∃ (kq : Nat) (x13_2 : Bool), v13 = .bool x13_2 ∧ Aside0 (platbookref04_Index.j0 kq x13_2 a0_0 a0_1 a0_2 a0_3 a1_0 a1_1 a1_2 a1_3 = some (r1, r2, r3)) ∧ Aside0 (kq ≤ k) ∧ Aside0 (wc.heap[gb771]? = some (.cells #[.bool a0_0, .int .u64 a0_1, .int .u64 a0_2, .int .i64 a0_3] 38 (0, 0))) ∧ Aside0 (wc.heap[gb772]? = some (.cells #[.bool a1_0, .int .u64 a1_1, .int .u64 a1_2, .int .i64 a1_3] 38 (0, 0))) ∧ Aside0 (wc.heap[gb773]? = some (.cells #[.int .u64 0, .int .u64 0] 24 (0, 0))) ∧ Aside0 (Below w.heap.size w wc))
 case first =>
  have H := HC3.out
  clear HC3
  replace H := Option.bind_eq_some_iff.mp H
  obtain ⟨t774, A70, H⟩ := H
  replace H : (if t774 = true then ((platbookref03_Right.f k a1_0 a1_1 a1_2 a1_3).bind fun t775 => (platbookref04_Index.j0 k (!t775) a0_0 a0_1 a0_2 a0_3 a1_0 a1_1 a1_2 a1_3)) else (platbookref04_Index.j0 k true a0_0 a0_1 a0_2 a0_3 a1_0 a1_1 a1_2 a1_3)) = some (r1, r2, r3) := H
  have A7 := Aside0.mk A70
  clear A70
  by_cases c8 : t774 = true
  ·
   subst c8
   rw [if_pos rfl] at H
   replace H := Option.bind_eq_some_iff.mp H
   obtain ⟨t775, A90, H⟩ := H
   replace H : (platbookref04_Index.j0 k (!t775) a0_0 a0_1 a0_2 a0_3 a1_0 a1_1 a1_2 a1_3) = some (r1, r2, r3) := H
   have A9 := Aside0.mk A90
   clear A90
   have H' := Aside0.mk H
   clear H
   have hnb10 := NB771_772.out
   have hnc10 := NB772_771.out
   have hnb11 := NB771_773.out
   have hnc11 := NB773_771.out
   obtain ⟨hcz12_0, hcz12_1, hcz12_2, hcz12_3, hfz12_0, hfz12_1, hfz12_2, hfz12_3⟩ := c4_ BK771
   go_wp2_with (first | ((with_reducible refine gate_callee (f := 29) rfl ?_); refine gl_ (some 7) Tryz.func29 #[.agg #[.bool a0_0, .int .u64 a0_1, .int .u64 a0_2, .int .i64 a0_3]] ?_; (with_reducible refine (platbookref03_Right.calls k a0_0 a0_1 a0_2 a0_3 true _ A7.out).mono ?_); rintro e w13 ⟨rfl, hb⟩; refine ⟨_, rfl, ?_⟩; replace BK771 := bb_ BK771 hb; replace BK772 := bb_ BK772 hb; replace BK773 := bb_ BK773 hb; replace HB := bs_ HB hb; (try clear hb); (try clear hb2); (try clear hk); (try clear hi); have hnb14 := NB772_773.out; have hnc14 := NB773_772.out; obtain ⟨hcz15_0, hcz15_1, hcz15_2, hcz15_3, hfz15_0, hfz15_1, hfz15_2, hfz15_3⟩ := c4_ BK772) | (go_at_call 29; (with_reducible refine (platbookref03_Right.calls k a1_0 a1_1 a1_2 a1_3 t775 _ A9.out).mono ?_); rintro e w16 ⟨rfl, hb⟩; replace BK771 := bb_ BK771 hb; replace BK772 := bb_ BK772 hb; replace BK773 := bb_ BK773 hb; replace HB := bs_ HB hb; (try clear hb); (try clear hb2); (try clear hk); (try clear hi)))
   go_meet
   case rel => exact ⟨_, (!t775), (by first | rfl | (simp; done) | (simp [*]; done)), H', ⟨by first | omega | exact Nat.le_refl _⟩, ⟨by refine pw_ ?_; exact BK771.out⟩, ⟨by refine pw_ ?_; exact BK772.out⟩, ⟨by refine pw_ ?_; exact BK773.out⟩, ⟨pb_ HB⟩⟩
  ·
   replace c8 := Bool.eq_false_iff.mpr c8
   subst c8
   have H1 : (platbookref04_Index.j0 k true a0_0 a0_1 a0_2 a0_3 a1_0 a1_1 a1_2 a1_3) = some (r1, r2, r3) := by rw [if_neg (show ¬ (false = true) by decide)] at H; exact H
   clear H
   have H := H1
   clear H1
   have H' := Aside0.mk H
   clear H
   have hnb17 := NB771_772.out
   have hnc17 := NB772_771.out
   have hnb18 := NB771_773.out
   have hnc18 := NB773_771.out
   obtain ⟨hcz19_0, hcz19_1, hcz19_2, hcz19_3, hfz19_0, hfz19_1, hfz19_2, hfz19_3⟩ := c4_ BK771
   go_wp2_with (first | ((with_reducible refine gate_callee (f := 29) rfl ?_); refine gl_ (some 7) Tryz.func29 #[.agg #[.bool a0_0, .int .u64 a0_1, .int .u64 a0_2, .int .i64 a0_3]] ?_; (with_reducible refine (platbookref03_Right.calls k a0_0 a0_1 a0_2 a0_3 false _ A7.out).mono ?_); rintro e w20 ⟨rfl, hb⟩; refine ⟨_, rfl, ?_⟩; replace BK771 := bb_ BK771 hb; replace BK772 := bb_ BK772 hb; replace BK773 := bb_ BK773 hb; replace HB := bs_ HB hb; (try clear hb); (try clear hb2); (try clear hk); (try clear hi)))
   go_meet
   case rel => exact ⟨_, (true), (by first | rfl | (simp; done) | (simp [*]; done)), H', ⟨by first | omega | exact Nat.le_refl _⟩, ⟨by refine pw_ ?_; exact BK771.out⟩, ⟨by refine pw_ ?_; exact BK772.out⟩, ⟨by refine pw_ ?_; exact BK773.out⟩, ⟨pb_ HB⟩⟩
 case rest =>
  clear HC3
  try clear c1
  try clear c2
  try clear p2
  try clear c6
  try clear c8
  try clear c10
  try clear c11
  try clear c14
  try clear c17
  try clear c18
  try clear hcz12_0
  try clear hcz12_1
  try clear hcz12_2
  try clear hcz12_3
  try clear hcz15_0
  try clear hcz15_1
  try clear hcz15_2
  try clear hcz15_3
  try clear hcz19_0
  try clear hcz19_1
  try clear hcz19_2
  try clear hcz19_3
  try clear hfz12_0
  try clear hfz12_1
  try clear hfz12_2
  try clear hfz12_3
  try clear hfz15_0
  try clear hfz15_1
  try clear hfz15_2
  try clear hfz15_3
  try clear hfz19_0
  try clear hfz19_1
  try clear hfz19_2
  try clear hfz19_3
  obtain ⟨kq, x13_2, rfl, HA, HJ2, BK771, BK772, BK773, HB⟩ := hcut
  cases kq with
  | zero => exact absurd HA.out (by simp [platbookref04_Index.j0])
  | succ kj2 =>
   have H := HA.out
   clear HA
   simp only [platbookref04_Index.j0] at H
   by_cases c21 : x13_2 = true
   ·
    subst c21
    rw [if_pos rfl] at H
    simp only [Option.some.injEq, Prod.mk.injEq] at H
    obtain ⟨rfl, rfl, rfl⟩ := H
    have hnb22 := NB773_771.out
    have hnc22 := NB771_773.out
    have hnb23 := NB773_772.out
    have hnc23 := NB772_773.out
    obtain ⟨hcz24_0, hcz24_1, hfz24_0, hfz24_1⟩ := c2_ BK773
    go_wp2
    refine bodyPost_ret (results_ct rfl _ _ gb773 24 #[.int .u64 0, .int .u64 0] (0, 0) _ rfl (by refine pw_ ?_; refine blk_put (cs := #[.int .u64 0, .int .u64 0]) ?_ 1 _ rfl; refine pw_ ?_; refine blk_put (cs := #[.int .u64 0, .int .u64 0]) ?_ 0 _ rfl; refine pw_ ?_; exact BK773.out) Tryz.underlying24 rfl (by kernel_rfl)) rfl ?_
    exact ⟨by first | rfl | (simp [errW_none, errW_some] <;> rfl) | (simp [*, errW_none, errW_some] <;> rfl), pb_ HB⟩
   ·
    replace c21 := Bool.eq_false_iff.mpr c21
    subst c21
    have H1 : ((platbookref03_Within.f kj2 a1_0 a1_1 a1_2 a1_3 a0_0 a0_1 a0_2 a0_3).bind fun t776 => (if t776 = true then ((platbookref03_Row.f kj2 a1_0 a1_1 a1_2).bind fun t777 => (if 0 ≤ a0_3 then (if a0_3 ≤ a1_3 then (if a1_3 ≤ (t777.length : Int) then ((platbookref04_Num.f kj2 ((t777.take (a1_3 : Int).toNat).drop (a0_3 : Int).toNat)).bind fun bt784 => (some (bt784.1, bt784.2, 0))) else (none)) else (none)) else (none))) else (some (0, 0, 12)))) = some (r1, r2, r3) := by rw [if_neg (show ¬ (false = true) by decide)] at H; exact H
    clear H
    have H := H1
    clear H1
    replace H := Option.bind_eq_some_iff.mp H
    obtain ⟨t776, A250, H⟩ := H
    replace H : (if t776 = true then ((platbookref03_Row.f kj2 a1_0 a1_1 a1_2).bind fun t777 => (if 0 ≤ a0_3 then (if a0_3 ≤ a1_3 then (if a1_3 ≤ (t777.length : Int) then ((platbookref04_Num.f kj2 ((t777.take (a1_3 : Int).toNat).drop (a0_3 : Int).toNat)).bind fun bt784 => (some (bt784.1, bt784.2, 0))) else (none)) else (none)) else (none))) else (some (0, 0, 12))) = some (r1, r2, r3) := H
    have A25 := Aside0.mk A250
    clear A250
    by_cases c26 : t776 = true
    ·
     subst c26
     rw [if_pos rfl] at H
     replace H := Option.bind_eq_some_iff.mp H
     obtain ⟨t777, A270, H⟩ := H
     replace H : (if 0 ≤ a0_3 then (if a0_3 ≤ a1_3 then (if a1_3 ≤ (t777.length : Int) then ((platbookref04_Num.f kj2 ((t777.take (a1_3 : Int).toNat).drop (a0_3 : Int).toNat)).bind fun bt784 => (some (bt784.1, bt784.2, 0))) else (none)) else (none)) else (none)) = some (r1, r2, r3) := H
     have A27 := Aside0.mk A270
     clear A270
     by_cases c28 : 0 ≤ a0_3
     ·
      rw [if_pos c28] at H
      have c28b0 := eq_true c28
      have c28b1 : decide (0 ≤ a0_3) = true := decide_eq_true c28
      clear c28
      by_cases c29 : a0_3 ≤ a1_3
      ·
       rw [if_pos c29] at H
       have c29b0 := eq_true c29
       have c29b1 : decide (a0_3 ≤ a1_3) = true := decide_eq_true c29
       clear c29
       by_cases c30 : a1_3 ≤ (t777.length : Int)
       ·
        rw [if_pos c30] at H
        have c30b0 := eq_true c30
        have c30b1 : decide (a1_3 ≤ (t777.length : Int)) = true := decide_eq_true c30
        clear c30
        obtain ⟨y780, hy780⟩ : ∃ y_ : List Int, y_ = ((t777.take (a1_3 : Int).toNat).drop (a0_3 : Int).toNat) := ⟨_, rfl⟩
        replace H : ((platbookref04_Num.f kj2 y780).bind fun bt784 => (some (bt784.1, bt784.2, 0))) = some (r1, r2, r3) := by first | (rw [hy780]; with_reducible exact H) | (have H2_ := (Option.bind_some _ _).symm.trans H; rw [hy780]; with_reducible exact H2_) | (have H2_ := (Option.bind_some _ _).symm.trans H; with_reducible exact H2_) | with_reducible exact H | (rw [hy780]; exact H) | exact H
        have Ny780 := Aside0.mk hy780
        clear hy780
        replace H := Option.bind_eq_some_iff.mp H
        obtain ⟨⟨t784, t785⟩, A310, H⟩ := H
        replace H : (some (t784, t785, 0)) = some (r1, r2, r3) := H
        have A31 := Aside0.mk A310
        clear A310
        simp only [Option.some.injEq, Prod.mk.injEq] at H
        obtain ⟨rfl, rfl, rfl⟩ := H
        have hnb32 := NB772_771.out
        have hnc32 := NB771_772.out
        have hnb33 := NB772_773.out
        have hnc33 := NB773_772.out
        obtain ⟨hcz34_0, hcz34_1, hcz34_2, hcz34_3, hfz34_0, hfz34_1, hfz34_2, hfz34_3⟩ := c4_ BK772
        have hnb35 := NB771_773.out
        have hnc35 := NB773_771.out
        obtain ⟨hcz36_0, hcz36_1, hcz36_2, hcz36_3, hfz36_0, hfz36_1, hfz36_2, hfz36_3⟩ := c4_ BK771
        try go_wp2_with (first | ((with_reducible refine gate_callee (f := 42) rfl ?_); refine gl_ (some 17) Tryz.func42 #[.agg #[.bool a1_0, .int .u64 a1_1, .int .u64 a1_2, .int .i64 a1_3], .agg #[.bool a0_0, .int .u64 a0_1, .int .u64 a0_2, .int .i64 a0_3]] ?_; (with_reducible refine (platbookref03_Within.calls kj2 a1_0 a1_1 a1_2 a1_3 a0_0 a0_1 a0_2 a0_3 true _ A25.out).mono ?_); rintro e w37 ⟨rfl, hb⟩; refine ⟨_, rfl, ?_⟩; replace BK771 := bb_ BK771 hb; replace BK772 := bb_ BK772 hb; replace BK773 := bb_ BK773 hb; replace HB := bs_ HB hb; (try clear hb); (try clear hb2); (try clear hk); (try clear hi)))
        replace BK771 := Aside0.mk (blk_drew BK771.out)
        replace BK772 := Aside0.mk (blk_drew BK772.out)
        replace BK773 := Aside0.mk (blk_drew BK773.out)
        replace HB := Aside0.mk (below_drew1 HB.out)
        refine start_ (n := 11) (S := fun w' => w'.cell? ⟨gb772, 0, none⟩ = some (.bool a1_0) ∧ w'.cell? ⟨gb772, 1, none⟩ = some (.int .u64 a1_1) ∧ w'.cell? ⟨gb772, 2, none⟩ = some (.int .u64 a1_2) ∧ w'.cell? ⟨gb772, 3, none⟩ = some (.int .i64 a1_3) ∧ w'.cell? ⟨gb771, 0, none⟩ = some (.bool a0_0) ∧ w'.cell? ⟨gb771, 1, none⟩ = some (.int .u64 a0_1) ∧ w'.cell? ⟨gb771, 2, none⟩ = some (.int .u64 a0_2) ∧ w'.cell? ⟨gb771, 3, none⟩ = some (.int .i64 a0_3)) (ds := []) (bm_ 11 0) (by kernel_rfl) rfl rfl ⟨kc_ BK772 0, kc_ BK772 1, kc_ BK772 2, kc_ BK772 3, kc_ BK771 0, kc_ BK771 1, kc_ BK771 2, kc_ BK771 3⟩ (fun hHeld => ?_); refine with_tabW platbookref04_Index.tab5 platbookref04_Index.bits5 (fun HT_ HW_ => ?_)
        generalize w37.drew = w38 at BK771 BK772 BK773 HB hHeld ⊢
        refine pu_ 0 (some 20) (bm_ 11 1) rfl HT_ ⟨by rfl, by intro w'; go_simp; with_reducible rfl⟩ ?_
        refine pu_ 3 (some 23) (bm_ 11 9) rfl HT_ ⟨by rfl, by intro w'; go_simp; with_reducible rfl⟩ ?_
        refine pu_ 5 (some 25) (bm_ 11 41) rfl HT_ ⟨by rfl, by intro w'; go_simp; with_reducible rfl⟩ ?_
        refine ta_ 1 (some 21) (bm_ 11 43) rfl HT_ HW_ ⟨by rfl, by rintro w' ⟨s0, s1, s2, s3, s4, s5, s6, s7⟩; go_simp; with_reducible rfl⟩ hHeld ?_
        refine ta_ 4 (some 24) (bm_ 11 59) rfl HT_ HW_ ⟨by rfl, by rintro w' ⟨s0, s1, s2, s3, s4, s5, s6, s7⟩; go_simp; with_reducible rfl⟩ hHeld ?_
        refine ta_ 6 (some 26) (bm_ 11 123) rfl HT_ HW_ ⟨by rfl, by rintro w' ⟨s0, s1, s2, s3, s4, s5, s6, s7⟩; go_simp; with_reducible rfl⟩ hHeld ?_
        refine one_ (i := 2) (N := some 22) (bm_ 11 127) rfl rfl (one_of HT_.out (by kernel_rfl)) (by decide) (fun K hK => ?_)
        refine gr_ Tryz.func83 #[.agg #[.bool a1_0, .int .u64 a1_1, .int .u64 a1_2]] ?_
        with_reducible refine (platbookref03_Row.calls kj2 a1_0 a1_1 a1_2 t777 _ A27.out).mono ?_
        rintro e w39 ⟨v778, rfl, ho0, hb⟩
        refine ⟨_, rfl, ?_⟩
        have HO779 := Aside0.mk (Kd.R_lower ho0 (below_size (pb_ HB)))
        replace BK771 := bb_ BK771 hb
        replace BK772 := bb_ BK772 hb
        replace BK773 := bb_ BK773 hb
        replace HB := bs_ HB hb
        (try clear hb)
        (try clear hb2)
        (try clear hk)
        (try clear hi)
        (try clear ho0)
        obtain ⟨Ao41, co41, eo41⟩ := Kd.R_slice HO779.out
        (first | subst eo41 | (injection eo41 with f1_ f2_ f3_; have f4_ := f1_.symm; have f5_ := f3_.symm; clear f1_ f2_ f3_; subst f4_; subst f5_))
        have q40 : (a1_3 : Int) ≤ ((t777.length : Int) : Int) := of_decide_eq_true (by first | (with_reducible assumption) | assumption)
        obtain ⟨i040, hi040, _, hsz40, _⟩ := info_parts info3
        have hroom40 : t777.length ≤ co41 := (Kd.R_reads' HO779.out).2.1
        have hC40 : Kd.C (Kd.int .i64) _ Ao41 t777.length t777 := (Kd.R_reads' HO779.out).2.2
        have ql40 : (a0_3 : Int) ≤ (a1_3 : Int) := of_decide_eq_true (by first | (with_reducible assumption) | assumption)
        have q040 : (0 : Int) ≤ (a0_3 : Int) := of_decide_eq_true (by first | (with_reducible assumption) | assumption)
        have hcut40 := cut_mid (P := Tryz.prog) 91 3 .i64 .i64 Tryz.underlying91 hi040 1 hsz40 Ao41 t777.length co41 a0_3 a1_3 q040 ql40 q40 hroom40
        have hr40 := Kd.C_mid (lo := (a0_3 : Int).toNat) (hi := (a1_3 : Int).toNat) (c := co41) hC40 (by omega) (by omega) hroom40
        obtain ⟨A40, hA40⟩ : ∃ A1, A1 = (if co41 = (a0_3 : Int).toNat then Ao41 else (Ao41 : Option Addr).map (·.add ((a0_3 : Int).toNat * 1))) := ⟨_, rfl⟩
        obtain ⟨c40, hc40⟩ : ∃ c1, c1 = co41 - (a0_3 : Int).toNat := ⟨_, rfl⟩
        have hy40 : y780.length = (a1_3 : Int).toNat - (a0_3 : Int).toNat := (by rw [Ny780.out, List.length_drop, List.length_take] <;> omega)
        rw [show ((t777).take (a1_3 : Int).toNat).drop (a0_3 : Int).toNat = y780 from Ny780.out.symm] at hr40
        replace hr40 : Kd.C (Kd.int .i64) _ A40 y780.length y780 := (by rw [hA40]; exact hr40)
        rw [← hy40, ← hA40, ← hc40] at hcut40
        have HR783 := Aside0.mk hr40
        have HC783 := Aside0.mk (show y780.length ≤ c40 from by rw [hy40, hc40]; exact Nat.sub_le_sub_right (Nat.le_trans (by omega) hroom40) _)
        clear hr40 hC40 hroom40 hi040 hsz40 hc40
        have KY40 := Aside0.mk hy40
        have KA40 := Aside0.mk hA40
        clear hy40 hA40
        have KL40 := Aside0.mk (show (a1_3 : Int).toNat ≤ t777.length from by omega)
        have KM40 := Aside0.mk (show (a0_3 : Int).toNat ≤ (a1_3 : Int).toNat from by omega)
        replace q40 := eq_true q40
        refine hK.out _ _ ⟨kc_ BK772 0, kc_ BK772 1, kc_ BK772 2, kc_ BK772 3, kc_ BK771 0, kc_ BK771 1, kc_ BK771 2, kc_ BK771 3⟩ (fun hHeld => ?_)
        clear hK K
        refine norm_ (a' := ?_) ?_ ?_
        rotate_left
        ·
         show Act.put _ (some 22) _ = _
         simp only [Act.put, List.setIfInBounds_toArray, List.set_cons_zero, List.set_cons_succ, i64_w, i32_w]
         rfl
        refine pu_ 7 (some 27) (bm_ 11 255) rfl HT_ ⟨by rfl, by intro w'; go_simp; with_reducible rfl⟩ ?_
        refine one_ (i := 8) (N := some 28) (bm_ 11 511) rfl rfl (one_of HT_.out (by kernel_rfl)) (by decide) (fun K hK => ?_)
        refine gr_ Tryz.func97 #[.slice A40 y780.length c40] ?_
        with_reducible refine (platbookref04_Num.calls kj2 _ _ y780 t784 t785 _ ?side1 ?side2 A31.out).mono ?_
        (case side1 => repeat (first | exact (by repeat (first | (with_reducible exact HR783.out) | (with_reducible refine Kd.C_alloc ?_ _) | (with_reducible refine Kd.C_drewN ?_ _) | (with_reducible refine Kd.C_drew ?_) | exact HR783.out)) | (with_reducible refine Kd.C_alloc ?_ _) | (with_reducible refine Kd.C_drewN ?_ _) | (with_reducible refine Kd.C_drew ?_)))
        (case side2 => exact HC783.out)
        rintro e w42 ⟨rfl, hb⟩
        refine ⟨_, rfl, ?_⟩
        replace HO779 := Aside0.mk (Kd.R_below (by (with_reducible repeat (first | apply Kd.R_alloc | apply Kd.R_drewN | apply Kd.R_drew)); exact HO779.out) hb)
        replace BK771 := bb_ BK771 hb
        replace BK772 := bb_ BK772 hb
        replace BK773 := bb_ BK773 hb
        replace HR783 := Aside0.mk (Kd.C_below (by repeat (first | (with_reducible exact HR783.out) | (with_reducible refine Kd.C_alloc ?_ _) | (with_reducible refine Kd.C_drewN ?_ _) | (with_reducible refine Kd.C_drew ?_) | exact HR783.out)) hb)
        replace HB := bs_ HB hb
        (try clear hb)
        (try clear hb2)
        (try clear hk)
        (try clear hi)
        refine hK.out _ _ ⟨kc_ BK772 0, kc_ BK772 1, kc_ BK772 2, kc_ BK772 3, kc_ BK771 0, kc_ BK771 1, kc_ BK771 2, kc_ BK771 3⟩ (fun hHeld => ?_)
        clear hK K
        refine norm_ (a' := ?_) ?_ ?_
        rotate_left
        ·
         show Act.put _ (some 28) _ = _
         simp only [Act.put, List.setIfInBounds_toArray, List.set_cons_zero, List.set_cons_succ, i64_w, i32_w]
         rfl
        refine one_ (i := 9) (N := none) (bm_ 11 1023) rfl rfl (one_of HT_.out (by kernel_rfl)) (by decide) (fun K hK => ?_)
        have hs43 : w42.cell? ⟨gb773, 0, none⟩ = some (.int .u64 0) := kc_ BK773 0
        have hfs43 := blk_frozen BK773.out 0
        have hns43_0 := NB771_773.out
        have hns43_1 := NB772_773.out
        have hms43_0 := NB773_771.out
        have hms43_1 := NB773_772.out
        have hs44 : w42.cell? ⟨gb773, 1, none⟩ = some (.int .u64 0) := kc_ BK773 1
        have hfs44 := blk_frozen BK773.out 1
        have hns44_0 := NB771_773.out
        have hns44_1 := NB772_773.out
        have hms44_0 := NB773_771.out
        have hms44_1 := NB773_772.out
        refine skip_ (w1 := ?_) (by rfl) rfl ?_ ?_
        rotate_left
        ·
         go_simp
         rfl
        refine hK.out _ _ ⟨((cell_far (p := ⟨gb773, _, none⟩) NB772_773.out _).trans (((cell_far (p := ⟨gb773, _, none⟩) NB772_773.out _).trans (hHeld.1)))), ((cell_far (p := ⟨gb773, _, none⟩) NB772_773.out _).trans (((cell_far (p := ⟨gb773, _, none⟩) NB772_773.out _).trans (hHeld.2.1)))), ((cell_far (p := ⟨gb773, _, none⟩) NB772_773.out _).trans (((cell_far (p := ⟨gb773, _, none⟩) NB772_773.out _).trans (hHeld.2.2.1)))), ((cell_far (p := ⟨gb773, _, none⟩) NB772_773.out _).trans (((cell_far (p := ⟨gb773, _, none⟩) NB772_773.out _).trans (hHeld.2.2.2.1)))), ((cell_far (p := ⟨gb773, _, none⟩) NB771_773.out _).trans (((cell_far (p := ⟨gb773, _, none⟩) NB771_773.out _).trans (hHeld.2.2.2.2.1)))), ((cell_far (p := ⟨gb773, _, none⟩) NB771_773.out _).trans (((cell_far (p := ⟨gb773, _, none⟩) NB771_773.out _).trans (hHeld.2.2.2.2.2.1)))), ((cell_far (p := ⟨gb773, _, none⟩) NB771_773.out _).trans (((cell_far (p := ⟨gb773, _, none⟩) NB771_773.out _).trans (hHeld.2.2.2.2.2.2.1)))), ((cell_far (p := ⟨gb773, _, none⟩) NB771_773.out _).trans (((cell_far (p := ⟨gb773, _, none⟩) NB771_773.out _).trans (hHeld.2.2.2.2.2.2.2))))⟩ (fun hHeld => ?_)
        clear hK K
        refine pu_ 10 (some 5) (bm_ 11 2047) rfl HT_ ⟨by rfl, by intro w'; go_simp; with_reducible rfl⟩ ?_
        refine done_ (done_of HT_.out (by kernel_rfl)) ?_
        try go_wp2
        refine bodyPost_ret (results_ct rfl _ _ gb773 24 #[.int .u64 t784, .int .u64 t785] (0, 0) _ rfl (by refine pw_ ?_; refine blk_put (cs := #[.int .u64 t784, .int .u64 0]) ?_ 1 _ rfl; refine pw_ ?_; refine blk_put (cs := #[.int .u64 0, .int .u64 0]) ?_ 0 _ rfl; refine pw_ ?_; exact BK773.out) Tryz.underlying24 rfl (by kernel_rfl)) rfl ?_
        exact ⟨by first | rfl | (simp [errW_none, errW_some] <;> rfl) | (simp [*, errW_none, errW_some] <;> rfl), pb_ HB⟩
       ·
        rw [if_neg c30] at H
        exact absurd H (by simp)
      ·
       rw [if_neg c29] at H
       exact absurd H (by simp)
     ·
      rw [if_neg c28] at H
      exact absurd H (by simp)
    ·
     replace c26 := Bool.eq_false_iff.mpr c26
     subst c26
     have H1 : (some (0, 0, 12)) = some (r1, r2, r3) := by rw [if_neg (show ¬ (false = true) by decide)] at H; exact H
     clear H
     have H := H1
     clear H1
     simp only [Option.some.injEq, Prod.mk.injEq] at H
     obtain ⟨rfl, rfl, rfl⟩ := H
     have hnb45 := NB772_771.out
     have hnc45 := NB771_772.out
     have hnb46 := NB772_773.out
     have hnc46 := NB773_772.out
     obtain ⟨hcz47_0, hcz47_1, hcz47_2, hcz47_3, hfz47_0, hfz47_1, hfz47_2, hfz47_3⟩ := c4_ BK772
     have hnb48 := NB771_773.out
     have hnc48 := NB773_771.out
     obtain ⟨hcz49_0, hcz49_1, hcz49_2, hcz49_3, hfz49_0, hfz49_1, hfz49_2, hfz49_3⟩ := c4_ BK771
     go_wp2_with (first | ((with_reducible refine gate_callee (f := 42) rfl ?_); refine gl_ (some 17) Tryz.func42 #[.agg #[.bool a1_0, .int .u64 a1_1, .int .u64 a1_2, .int .i64 a1_3], .agg #[.bool a0_0, .int .u64 a0_1, .int .u64 a0_2, .int .i64 a0_3]] ?_; (with_reducible refine (platbookref03_Within.calls kj2 a1_0 a1_1 a1_2 a1_3 a0_0 a0_1 a0_2 a0_3 false _ A25.out).mono ?_); rintro e w50 ⟨rfl, hb⟩; refine ⟨_, rfl, ?_⟩; replace BK771 := bb_ BK771 hb; replace BK772 := bb_ BK772 hb; replace BK773 := bb_ BK773 hb; replace HB := bs_ HB hb; (try clear hb); (try clear hb2); (try clear hk); (try clear hi); obtain ⟨hcz51_0, hcz51_1, hfz51_0, hfz51_1⟩ := c2_ BK773))
     refine bodyPost_ret (results_ct rfl _ _ gb773 24 #[.int .u64 0, .int .u64 0] (0, 0) _ rfl (by refine pw_ ?_; refine blk_put (cs := #[.int .u64 0, .int .u64 0]) ?_ 1 _ rfl; refine pw_ ?_; refine blk_put (cs := #[.int .u64 0, .int .u64 0]) ?_ 0 _ rfl; refine pw_ ?_; exact BK773.out) Tryz.underlying24 rfl (by kernel_rfl)) rfl ?_
     exact ⟨by first | rfl | (simp [errW_none, errW_some] <;> rfl) | (simp [*, errW_none, errW_some] <;> rfl), pb_ HB⟩

end Go.Proofs.YtgdgklibilddgaaGreatDoor.PPr

namespace Go.Proofs.YtgdgklibilddgaaGreatDoor.PPr
open Go.RowKit Go.Proofs.YtgdgklibilddgaaGreatDoorW.PrintWords Go.Proofs.YtgdgklibilddgaaGreatDoorW.PrintLast Go.Proofs.YtgdgklibilddgaaGreatDoorW.PrintMore
attribute [local go_sem] max2_int min2_int max_two min_two max_three min_three max_four min_four   -- for this text's walks alone

def platbookref04_Number.f (k : Nat) (a0_0 : Bool) (a0_1 : Int) (a0_2 : Int) (a0_3 : Int) (a1_0 : Bool) (a1_1 : Int) (a1_2 : Int) : Option (Int × Int × Int) := (platbookref03_Right.f k a0_0 a0_1 a0_2 a0_3).bind fun t789 => (if t789 = true then ((platbookref03_Has.f k a0_0 a0_1 a0_2 a0_3 a1_0 a1_1 a1_2).bind fun t790 => (if t790 = true then ((platbookref03_Row.f k a1_0 a1_1 a1_2).bind fun t791 => (if 0 ≤ a0_3 then (if a0_3 ≤ (t791.length : Int) then ((platbookref04_Num.f k (t791.drop (a0_3 : Int).toNat)).bind fun bt798 => (some (bt798.1, bt798.2, 0))) else (none)) else (none))) else (some (0, 0, 12)))) else (some (0, 0, 1)))
def platbookref04_Number.T5 : Bool × List (List Nat × List Nat) := (true, [([], []), ([0], [0]), ([], []), ([2], [2]), ([1, 3], [1, 3]), ([4, 1], [4]), ([5, 5, 0, 1, 2, 3, 4, 5], [5]), ([6, 0, 1, 2, 3, 4, 5, 6], [])])
def platbookref04_Number.B5 : List Nat := [0, 1, 0, 4, 15, 31, 63, 127]
theorem platbookref04_Number.tab5 : rtab .any (opsOf Tryz.f62 5) = platbookref04_Number.T5 := by kernel_rfl
theorem platbookref04_Number.bits5 : waitsOk platbookref04_Number.T5.2 platbookref04_Number.B5 = true := by kernel_rfl
set_option maxHeartbeats 8000000 in
set_option maxRecDepth 100000 in
theorem platbookref04_Number.calls (k : Nat) (a0_0 : Bool) (a0_1 : Int) (a0_2 : Int) (a0_3 : Int) (a1_0 : Bool) (a1_1 : Int) (a1_2 : Int) (r1 : Int) (r2 : Int) (r3 : Int) (w : World) (h : platbookref04_Number.f k a0_0 a0_1 a0_2 a0_3 a1_0 a1_1 a1_2 = some (r1, r2, r3)) :
  Calls Tryz.prog 62 #[.agg #[.bool a0_0, .int .u64 a0_1, .int .u64 a0_2, .int .i64 a0_3], .agg #[.bool a1_0, .int .u64 a1_1, .int .u64 a1_2]] w fun e w' => e = .returned (.tuple #[.agg #[.int .u64 r1, .int .u64 r2], .int .i64 r3]) ∧ Below w.heap.size w w' := by
 have hu38 := Tryz.underlying38
 have hu26 := Tryz.underlying26
 have hu24 := Tryz.underlying24
 have HB := Aside0.mk (Below.refl w.heap.size w)
 have H : ((platbookref03_Right.f k a0_0 a0_1 a0_2 a0_3).bind fun t789 => (if t789 = true then ((platbookref03_Has.f k a0_0 a0_1 a0_2 a0_3 a1_0 a1_1 a1_2).bind fun t790 => (if t790 = true then ((platbookref03_Row.f k a1_0 a1_1 a1_2).bind fun t791 => (if 0 ≤ a0_3 then (if a0_3 ≤ (t791.length : Int) then ((platbookref04_Num.f k (t791.drop (a0_3 : Int).toNat)).bind fun bt798 => (some (bt798.1, bt798.2, 0))) else (none)) else (none))) else (some (0, 0, 12)))) else (some (0, 0, 1)))) = some (r1, r2, r3) := h
 clear h
 replace H := Option.bind_eq_some_iff.mp H
 obtain ⟨t789, A30, H⟩ := H
 replace H : (if t789 = true then ((platbookref03_Has.f k a0_0 a0_1 a0_2 a0_3 a1_0 a1_1 a1_2).bind fun t790 => (if t790 = true then ((platbookref03_Row.f k a1_0 a1_1 a1_2).bind fun t791 => (if 0 ≤ a0_3 then (if a0_3 ≤ (t791.length : Int) then ((platbookref04_Num.f k (t791.drop (a0_3 : Int).toNat)).bind fun bt798 => (some (bt798.1, bt798.2, 0))) else (none)) else (none))) else (some (0, 0, 12)))) else (some (0, 0, 1))) = some (r1, r2, r3) := H
 have A3 := Aside0.mk A30
 clear A30
 by_cases c4 : t789 = true
 ·
  subst c4
  rw [if_pos rfl] at H
  replace H := Option.bind_eq_some_iff.mp H
  obtain ⟨t790, A50, H⟩ := H
  replace H : (if t790 = true then ((platbookref03_Row.f k a1_0 a1_1 a1_2).bind fun t791 => (if 0 ≤ a0_3 then (if a0_3 ≤ (t791.length : Int) then ((platbookref04_Num.f k (t791.drop (a0_3 : Int).toNat)).bind fun bt798 => (some (bt798.1, bt798.2, 0))) else (none)) else (none))) else (some (0, 0, 12))) = some (r1, r2, r3) := H
  have A5 := Aside0.mk A50
  clear A50
  by_cases c6 : t790 = true
  ·
   subst c6
   rw [if_pos rfl] at H
   replace H := Option.bind_eq_some_iff.mp H
   obtain ⟨t791, A70, H⟩ := H
   replace H : (if 0 ≤ a0_3 then (if a0_3 ≤ (t791.length : Int) then ((platbookref04_Num.f k (t791.drop (a0_3 : Int).toNat)).bind fun bt798 => (some (bt798.1, bt798.2, 0))) else (none)) else (none)) = some (r1, r2, r3) := H
   have A7 := Aside0.mk A70
   clear A70
   by_cases c8 : 0 ≤ a0_3
   ·
    rw [if_pos c8] at H
    have c8b0 := eq_true c8
    have c8b1 : decide (0 ≤ a0_3) = true := decide_eq_true c8
    clear c8
    by_cases c9 : a0_3 ≤ (t791.length : Int)
    ·
     rw [if_pos c9] at H
     have c9b0 := eq_true c9
     have c9b1 : decide (a0_3 ≤ (t791.length : Int)) = true := decide_eq_true c9
     clear c9
     obtain ⟨y794, hy794⟩ : ∃ y_ : List Int, y_ = (t791.drop (a0_3 : Int).toNat) := ⟨_, rfl⟩
     replace H : ((platbookref04_Num.f k y794).bind fun bt798 => (some (bt798.1, bt798.2, 0))) = some (r1, r2, r3) := by first | (rw [hy794]; with_reducible exact H) | (have H2_ := (Option.bind_some _ _).symm.trans H; rw [hy794]; with_reducible exact H2_) | (have H2_ := (Option.bind_some _ _).symm.trans H; with_reducible exact H2_) | with_reducible exact H | (rw [hy794]; exact H) | exact H
     have Ny794 := Aside0.mk hy794
     clear hy794
     replace H := Option.bind_eq_some_iff.mp H
     obtain ⟨⟨t798, t799⟩, A100, H⟩ := H
     replace H : (some (t798, t799, 0)) = some (r1, r2, r3) := H
     have A10 := Aside0.mk A100
     clear A100
     simp only [Option.some.injEq, Prod.mk.injEq] at H
     obtain ⟨rfl, rfl, rfl⟩ := H
     go_enter Tryz.func62, Tryz.ntmps62
     try go_wp2_with (first | ((with_reducible refine gate_dst (N := 2) rfl ?_); refine bx_ 2 #[.bool a0_0, .int .u64 a0_1, .int .u64 a0_2, .int .i64 a0_3] 38 ?_; intro gb786 hg w11 hbox hb; have BK786 := Aside0.mk (hbox); have GW786 := gw_ HB hg; have GE786 := gw_ HB hg; replace HB := bs_ HB hb; clear hb hbox hg) | ((with_reducible refine gate_dst (N := 3) rfl ?_); refine bx_ 3 #[.bool a1_0, .int .u64 a1_1, .int .u64 a1_2] 26 ?_; intro gb787 hg w12 hbox hb; have BK787 := Aside0.mk (hbox); have GW787 := gw_ HB hg; have GE787 := gw_ HB hg; have NB786_787 := nl_ BK786 hg; have NB787_786 := ng_ BK786 hg; replace BK786 := bb_ BK786 hb; replace HB := bs_ HB hb; clear hb hbox hg) | ((with_reducible refine gate_dst (N := 4) rfl ?_); refine bx_ 4 #[.int .u64 0, .int .u64 0] 24 ?_; intro gb788 hg w13 hbox hb; have BK788 := Aside0.mk (hbox); have GW788 := gw_ HB hg; have GE788 := gw_ HB hg; have NB786_788 := nl_ BK786 hg; have NB788_786 := ng_ BK786 hg; have NB787_788 := nl_ BK787 hg; have NB788_787 := ng_ BK787 hg; replace BK786 := bb_ BK786 hb; replace BK787 := bb_ BK787 hb; replace HB := bs_ HB hb; clear hb hbox hg; have hnb14 := NB786_787.out; have hnc14 := NB787_786.out; have hnb15 := NB786_788.out; have hnc15 := NB788_786.out; obtain ⟨hcz16_0, hcz16_1, hcz16_2, hcz16_3, hfz16_0, hfz16_1, hfz16_2, hfz16_3⟩ := c4_ BK786) | ((with_reducible refine gate_callee (f := 29) rfl ?_); refine gl_ (some 7) Tryz.func29 #[.agg #[.bool a0_0, .int .u64 a0_1, .int .u64 a0_2, .int .i64 a0_3]] ?_; (with_reducible refine (platbookref03_Right.calls k a0_0 a0_1 a0_2 a0_3 true _ A3.out).mono ?_); rintro e w17 ⟨rfl, hb⟩; refine ⟨_, rfl, ?_⟩; replace BK786 := bb_ BK786 hb; replace BK787 := bb_ BK787 hb; replace BK788 := bb_ BK788 hb; replace HB := bs_ HB hb; (try clear hb); (try clear hb2); (try clear hk); (try clear hi); obtain ⟨hcz18_0, hcz18_1, hcz18_2, hcz18_3, hfz18_0, hfz18_1, hfz18_2, hfz18_3⟩ := c4_ BK786; have hnb19 := NB787_788.out; have hnc19 := NB788_787.out; obtain ⟨hcz20_0, hcz20_1, hcz20_2, hfz20_0, hfz20_1, hfz20_2⟩ := c3_ BK787) | ((with_reducible refine gate_callee (f := 41) rfl ?_); refine gl_ (some 12) Tryz.func41 #[.agg #[.bool a0_0, .int .u64 a0_1, .int .u64 a0_2, .int .i64 a0_3], .agg #[.bool a1_0, .int .u64 a1_1, .int .u64 a1_2]] ?_; (with_reducible refine (platbookref03_Has.calls k a0_0 a0_1 a0_2 a0_3 a1_0 a1_1 a1_2 true _ A5.out).mono ?_); rintro e w21 ⟨rfl, hb⟩; refine ⟨_, rfl, ?_⟩; replace BK786 := bb_ BK786 hb; replace BK787 := bb_ BK787 hb; replace BK788 := bb_ BK788 hb; replace HB := bs_ HB hb; (try clear hb); (try clear hb2); (try clear hk); (try clear hi)))
     replace BK786 := Aside0.mk (blk_drew BK786.out)
     replace BK787 := Aside0.mk (blk_drew BK787.out)
     replace BK788 := Aside0.mk (blk_drew BK788.out)
     replace HB := Aside0.mk (below_drew1 HB.out)
     refine start_ (n := 8) (S := fun w' => w'.cell? ⟨gb787, 0, none⟩ = some (.bool a1_0) ∧ w'.cell? ⟨gb787, 1, none⟩ = some (.int .u64 a1_1) ∧ w'.cell? ⟨gb787, 2, none⟩ = some (.int .u64 a1_2) ∧ w'.cell? ⟨gb786, 0, none⟩ = some (.bool a0_0) ∧ w'.cell? ⟨gb786, 1, none⟩ = some (.int .u64 a0_1) ∧ w'.cell? ⟨gb786, 2, none⟩ = some (.int .u64 a0_2) ∧ w'.cell? ⟨gb786, 3, none⟩ = some (.int .i64 a0_3)) (ds := []) (bm_ 8 0) (by kernel_rfl) rfl rfl ⟨kc_ BK787 0, kc_ BK787 1, kc_ BK787 2, kc_ BK786 0, kc_ BK786 1, kc_ BK786 2, kc_ BK786 3⟩ (fun hHeld => ?_); refine with_tabW platbookref04_Number.tab5 platbookref04_Number.bits5 (fun HT_ HW_ => ?_)
     generalize w21.drew = w22 at BK786 BK787 BK788 HB hHeld ⊢
     refine pu_ 2 (some 17) (bm_ 8 4) rfl HT_ ⟨by rfl, by intro w'; go_simp; with_reducible rfl⟩ ?_
     refine ta_ 0 (some 15) (bm_ 8 5) rfl HT_ HW_ ⟨by rfl, by rintro w' ⟨s0, s1, s2, s3, s4, s5, s6⟩; go_simp; with_reducible rfl⟩ hHeld ?_
     refine ta_ 3 (some 18) (bm_ 8 13) rfl HT_ HW_ ⟨by rfl, by rintro w' ⟨s0, s1, s2, s3, s4, s5, s6⟩; go_simp; with_reducible rfl⟩ hHeld ?_
     refine one_ (i := 1) (N := some 16) (bm_ 8 15) rfl rfl (one_of HT_.out (by kernel_rfl)) (by decide) (fun K hK => ?_)
     refine gr_ Tryz.func83 #[.agg #[.bool a1_0, .int .u64 a1_1, .int .u64 a1_2]] ?_
     with_reducible refine (platbookref03_Row.calls k a1_0 a1_1 a1_2 t791 _ A7.out).mono ?_
     rintro e w23 ⟨v792, rfl, ho0, hb⟩
     refine ⟨_, rfl, ?_⟩
     have HO793 := Aside0.mk (Kd.R_lower ho0 (below_size (pb_ HB)))
     replace BK786 := bb_ BK786 hb
     replace BK787 := bb_ BK787 hb
     replace BK788 := bb_ BK788 hb
     replace HB := bs_ HB hb
     (try clear hb)
     (try clear hb2)
     (try clear hk)
     (try clear hi)
     (try clear ho0)
     obtain ⟨Ao25, co25, eo25⟩ := Kd.R_slice HO793.out
     (first | subst eo25 | (injection eo25 with f1_ f2_ f3_; have f4_ := f1_.symm; have f5_ := f3_.symm; clear f1_ f2_ f3_; subst f4_; subst f5_))
     have q24 : (a0_3 : Int) ≤ ((t791.length : Int) : Int) := of_decide_eq_true (by first | (with_reducible assumption) | assumption)
     obtain ⟨i024, hi024, _, hsz24, _⟩ := info_parts info3
     have hroom24 : t791.length ≤ co25 := (Kd.R_reads' HO793.out).2.1
     have hC24 : Kd.C (Kd.int .i64) _ Ao25 t791.length t791 := (Kd.R_reads' HO793.out).2.2
     have q024 : (0 : Int) ≤ (a0_3 : Int) := of_decide_eq_true (by first | (with_reducible assumption) | assumption)
     have hcut24 := cut_from (P := Tryz.prog) 91 3 .i64 Tryz.underlying91 hi024 1 hsz24 Ao25 t791.length co25 a0_3 q024 q24
     have hr24 := Kd.C_drop (m := (a0_3 : Int).toNat) (c := co25) hC24 (by omega) hroom24
     obtain ⟨A24, hA24⟩ : ∃ A1, A1 = (if co25 = (a0_3 : Int).toNat then Ao25 else (Ao25 : Option Addr).map (·.add ((a0_3 : Int).toNat * 1))) := ⟨_, rfl⟩
     obtain ⟨c24, hc24⟩ : ∃ c1, c1 = co25 - (a0_3 : Int).toNat := ⟨_, rfl⟩
     have hy24 : y794.length = t791.length - (a0_3 : Int).toNat := (by rw [Ny794.out, List.length_drop] <;> omega)
     rw [show (t791).drop (a0_3 : Int).toNat = y794 from Ny794.out.symm] at hr24
     replace hr24 : Kd.C (Kd.int .i64) _ A24 y794.length y794 := (by rw [hA24]; exact hr24)
     rw [← hy24, ← hA24, ← hc24] at hcut24
     have HR797 := Aside0.mk hr24
     have HC797 := Aside0.mk (show y794.length ≤ c24 from by rw [hy24, hc24]; exact Nat.sub_le_sub_right hroom24 _)
     clear hr24 hC24 hroom24 hi024 hsz24 hc24
     have KY24 := Aside0.mk hy24
     have KA24 := Aside0.mk hA24
     clear hy24 hA24
     have KL24 := Aside0.mk (show (a0_3 : Int).toNat ≤ t791.length from by omega)
     replace q24 := eq_true q24
     refine hK.out _ _ ⟨kc_ BK787 0, kc_ BK787 1, kc_ BK787 2, kc_ BK786 0, kc_ BK786 1, kc_ BK786 2, kc_ BK786 3⟩ (fun hHeld => ?_)
     clear hK K
     refine norm_ (a' := ?_) ?_ ?_
     rotate_left
     ·
      show Act.put _ (some 16) _ = _
      simp only [Act.put, List.setIfInBounds_toArray, List.set_cons_zero, List.set_cons_succ, i64_w, i32_w]
      rfl
     refine pu_ 4 (some 19) (bm_ 8 31) rfl HT_ ⟨by rfl, by intro w'; go_simp; with_reducible rfl⟩ ?_
     refine one_ (i := 5) (N := some 20) (bm_ 8 63) rfl rfl (one_of HT_.out (by kernel_rfl)) (by decide) (fun K hK => ?_)
     refine gr_ Tryz.func97 #[.slice A24 y794.length c24] ?_
     with_reducible refine (platbookref04_Num.calls k _ _ y794 t798 t799 _ ?side1 ?side2 A10.out).mono ?_
     (case side1 => repeat (first | exact (by repeat (first | (with_reducible exact HR797.out) | (with_reducible refine Kd.C_alloc ?_ _) | (with_reducible refine Kd.C_drewN ?_ _) | (with_reducible refine Kd.C_drew ?_) | exact HR797.out)) | (with_reducible refine Kd.C_alloc ?_ _) | (with_reducible refine Kd.C_drewN ?_ _) | (with_reducible refine Kd.C_drew ?_)))
     (case side2 => exact HC797.out)
     rintro e w26 ⟨rfl, hb⟩
     refine ⟨_, rfl, ?_⟩
     replace HO793 := Aside0.mk (Kd.R_below (by (with_reducible repeat (first | apply Kd.R_alloc | apply Kd.R_drewN | apply Kd.R_drew)); exact HO793.out) hb)
     replace BK786 := bb_ BK786 hb
     replace BK787 := bb_ BK787 hb
     replace BK788 := bb_ BK788 hb
     replace HR797 := Aside0.mk (Kd.C_below (by repeat (first | (with_reducible exact HR797.out) | (with_reducible refine Kd.C_alloc ?_ _) | (with_reducible refine Kd.C_drewN ?_ _) | (with_reducible refine Kd.C_drew ?_) | exact HR797.out)) hb)
     replace HB := bs_ HB hb
     (try clear hb)
     (try clear hb2)
     (try clear hk)
     (try clear hi)
     refine hK.out _ _ ⟨kc_ BK787 0, kc_ BK787 1, kc_ BK787 2, kc_ BK786 0, kc_ BK786 1, kc_ BK786 2, kc_ BK786 3⟩ (fun hHeld => ?_)
     clear hK K
     refine norm_ (a' := ?_) ?_ ?_
     rotate_left
     ·
      show Act.put _ (some 20) _ = _
      simp only [Act.put, List.setIfInBounds_toArray, List.set_cons_zero, List.set_cons_succ, i64_w, i32_w]
      rfl
     refine one_ (i := 6) (N := none) (bm_ 8 127) rfl rfl (one_of HT_.out (by kernel_rfl)) (by decide) (fun K hK => ?_)
     have hs27 : w26.cell? ⟨gb788, 0, none⟩ = some (.int .u64 0) := kc_ BK788 0
     have hfs27 := blk_frozen BK788.out 0
     have hns27_0 := NB786_788.out
     have hns27_1 := NB787_788.out
     have hms27_0 := NB788_786.out
     have hms27_1 := NB788_787.out
     have hs28 : w26.cell? ⟨gb788, 1, none⟩ = some (.int .u64 0) := kc_ BK788 1
     have hfs28 := blk_frozen BK788.out 1
     have hns28_0 := NB786_788.out
     have hns28_1 := NB787_788.out
     have hms28_0 := NB788_786.out
     have hms28_1 := NB788_787.out
     refine skip_ (w1 := ?_) (by rfl) rfl ?_ ?_
     rotate_left
     ·
      go_simp
      rfl
     refine hK.out _ _ ⟨((cell_far (p := ⟨gb788, _, none⟩) NB787_788.out _).trans (((cell_far (p := ⟨gb788, _, none⟩) NB787_788.out _).trans (hHeld.1)))), ((cell_far (p := ⟨gb788, _, none⟩) NB787_788.out _).trans (((cell_far (p := ⟨gb788, _, none⟩) NB787_788.out _).trans (hHeld.2.1)))), ((cell_far (p := ⟨gb788, _, none⟩) NB787_788.out _).trans (((cell_far (p := ⟨gb788, _, none⟩) NB787_788.out _).trans (hHeld.2.2.1)))), ((cell_far (p := ⟨gb788, _, none⟩) NB786_788.out _).trans (((cell_far (p := ⟨gb788, _, none⟩) NB786_788.out _).trans (hHeld.2.2.2.1)))), ((cell_far (p := ⟨gb788, _, none⟩) NB786_788.out _).trans (((cell_far (p := ⟨gb788, _, none⟩) NB786_788.out _).trans (hHeld.2.2.2.2.1)))), ((cell_far (p := ⟨gb788, _, none⟩) NB786_788.out _).trans (((cell_far (p := ⟨gb788, _, none⟩) NB786_788.out _).trans (hHeld.2.2.2.2.2.1)))), ((cell_far (p := ⟨gb788, _, none⟩) NB786_788.out _).trans (((cell_far (p := ⟨gb788, _, none⟩) NB786_788.out _).trans (hHeld.2.2.2.2.2.2))))⟩ (fun hHeld => ?_)
     clear hK K
     refine pu_ 7 (some 5) (bm_ 8 255) rfl HT_ ⟨by rfl, by intro w'; go_simp; with_reducible rfl⟩ ?_
     refine done_ (done_of HT_.out (by kernel_rfl)) ?_
     try go_wp2
     refine bodyPost_ret (results_ct rfl _ _ gb788 24 #[.int .u64 t798, .int .u64 t799] (0, 0) _ rfl (by refine pw_ ?_; refine blk_put (cs := #[.int .u64 t798, .int .u64 0]) ?_ 1 _ rfl; refine pw_ ?_; refine blk_put (cs := #[.int .u64 0, .int .u64 0]) ?_ 0 _ rfl; refine pw_ ?_; exact BK788.out) Tryz.underlying24 rfl (by kernel_rfl)) rfl ?_
     exact ⟨by first | rfl | (simp [errW_none, errW_some] <;> rfl) | (simp [*, errW_none, errW_some] <;> rfl), pb_ HB⟩
    ·
     rw [if_neg c9] at H
     exact absurd H (by simp)
   ·
    rw [if_neg c8] at H
    exact absurd H (by simp)
  ·
   replace c6 := Bool.eq_false_iff.mpr c6
   subst c6
   have H1 : (some (0, 0, 12)) = some (r1, r2, r3) := by rw [if_neg (show ¬ (false = true) by decide)] at H; exact H
   clear H
   have H := H1
   clear H1
   simp only [Option.some.injEq, Prod.mk.injEq] at H
   obtain ⟨rfl, rfl, rfl⟩ := H
   go_enter Tryz.func62, Tryz.ntmps62
   go_wp2_with (first | ((with_reducible refine gate_dst (N := 2) rfl ?_); refine bx_ 2 #[.bool a0_0, .int .u64 a0_1, .int .u64 a0_2, .int .i64 a0_3] 38 ?_; intro gb786 hg w29 hbox hb; have BK786 := Aside0.mk (hbox); have GW786 := gw_ HB hg; have GE786 := gw_ HB hg; replace HB := bs_ HB hb; clear hb hbox hg) | ((with_reducible refine gate_dst (N := 3) rfl ?_); refine bx_ 3 #[.bool a1_0, .int .u64 a1_1, .int .u64 a1_2] 26 ?_; intro gb787 hg w30 hbox hb; have BK787 := Aside0.mk (hbox); have GW787 := gw_ HB hg; have GE787 := gw_ HB hg; have NB786_787 := nl_ BK786 hg; have NB787_786 := ng_ BK786 hg; replace BK786 := bb_ BK786 hb; replace HB := bs_ HB hb; clear hb hbox hg) | ((with_reducible refine gate_dst (N := 4) rfl ?_); refine bx_ 4 #[.int .u64 0, .int .u64 0] 24 ?_; intro gb788 hg w31 hbox hb; have BK788 := Aside0.mk (hbox); have GW788 := gw_ HB hg; have GE788 := gw_ HB hg; have NB786_788 := nl_ BK786 hg; have NB788_786 := ng_ BK786 hg; have NB787_788 := nl_ BK787 hg; have NB788_787 := ng_ BK787 hg; replace BK786 := bb_ BK786 hb; replace BK787 := bb_ BK787 hb; replace HB := bs_ HB hb; clear hb hbox hg; have hnb32 := NB786_787.out; have hnc32 := NB787_786.out; have hnb33 := NB786_788.out; have hnc33 := NB788_786.out; obtain ⟨hcz34_0, hcz34_1, hcz34_2, hcz34_3, hfz34_0, hfz34_1, hfz34_2, hfz34_3⟩ := c4_ BK786) | ((with_reducible refine gate_callee (f := 29) rfl ?_); refine gl_ (some 7) Tryz.func29 #[.agg #[.bool a0_0, .int .u64 a0_1, .int .u64 a0_2, .int .i64 a0_3]] ?_; (with_reducible refine (platbookref03_Right.calls k a0_0 a0_1 a0_2 a0_3 true _ A3.out).mono ?_); rintro e w35 ⟨rfl, hb⟩; refine ⟨_, rfl, ?_⟩; replace BK786 := bb_ BK786 hb; replace BK787 := bb_ BK787 hb; replace BK788 := bb_ BK788 hb; replace HB := bs_ HB hb; (try clear hb); (try clear hb2); (try clear hk); (try clear hi); obtain ⟨hcz36_0, hcz36_1, hcz36_2, hcz36_3, hfz36_0, hfz36_1, hfz36_2, hfz36_3⟩ := c4_ BK786; have hnb37 := NB787_788.out; have hnc37 := NB788_787.out; obtain ⟨hcz38_0, hcz38_1, hcz38_2, hfz38_0, hfz38_1, hfz38_2⟩ := c3_ BK787) | ((with_reducible refine gate_callee (f := 41) rfl ?_); refine gl_ (some 12) Tryz.func41 #[.agg #[.bool a0_0, .int .u64 a0_1, .int .u64 a0_2, .int .i64 a0_3], .agg #[.bool a1_0, .int .u64 a1_1, .int .u64 a1_2]] ?_; (with_reducible refine (platbookref03_Has.calls k a0_0 a0_1 a0_2 a0_3 a1_0 a1_1 a1_2 false _ A5.out).mono ?_); rintro e w39 ⟨rfl, hb⟩; refine ⟨_, rfl, ?_⟩; replace BK786 := bb_ BK786 hb; replace BK787 := bb_ BK787 hb; replace BK788 := bb_ BK788 hb; replace HB := bs_ HB hb; (try clear hb); (try clear hb2); (try clear hk); (try clear hi); obtain ⟨hcz40_0, hcz40_1, hfz40_0, hfz40_1⟩ := c2_ BK788))
   refine bodyPost_ret (results_ct rfl _ _ gb788 24 #[.int .u64 0, .int .u64 0] (0, 0) _ rfl (by refine pw_ ?_; refine blk_put (cs := #[.int .u64 0, .int .u64 0]) ?_ 1 _ rfl; refine pw_ ?_; refine blk_put (cs := #[.int .u64 0, .int .u64 0]) ?_ 0 _ rfl; refine pw_ ?_; exact BK788.out) Tryz.underlying24 rfl (by kernel_rfl)) rfl ?_
   exact ⟨by first | rfl | (simp [errW_none, errW_some] <;> rfl) | (simp [*, errW_none, errW_some] <;> rfl), pb_ HB⟩
 ·
  replace c4 := Bool.eq_false_iff.mpr c4
  subst c4
  have H1 : (some (0, 0, 1)) = some (r1, r2, r3) := by rw [if_neg (show ¬ (false = true) by decide)] at H; exact H
  clear H
  have H := H1
  clear H1
  simp only [Option.some.injEq, Prod.mk.injEq] at H
  obtain ⟨rfl, rfl, rfl⟩ := H
  go_enter Tryz.func62, Tryz.ntmps62
  go_wp2_with (first | ((with_reducible refine gate_dst (N := 2) rfl ?_); refine bx_ 2 #[.bool a0_0, .int .u64 a0_1, .int .u64 a0_2, .int .i64 a0_3] 38 ?_; intro gb786 hg w41 hbox hb; have BK786 := Aside0.mk (hbox); have GW786 := gw_ HB hg; have GE786 := gw_ HB hg; replace HB := bs_ HB hb; clear hb hbox hg) | ((with_reducible refine gate_dst (N := 3) rfl ?_); refine bx_ 3 #[.bool a1_0, .int .u64 a1_1, .int .u64 a1_2] 26 ?_; intro gb787 hg w42 hbox hb; have BK787 := Aside0.mk (hbox); have GW787 := gw_ HB hg; have GE787 := gw_ HB hg; have NB786_787 := nl_ BK786 hg; have NB787_786 := ng_ BK786 hg; replace BK786 := bb_ BK786 hb; replace HB := bs_ HB hb; clear hb hbox hg) | ((with_reducible refine gate_dst (N := 4) rfl ?_); refine bx_ 4 #[.int .u64 0, .int .u64 0] 24 ?_; intro gb788 hg w43 hbox hb; have BK788 := Aside0.mk (hbox); have GW788 := gw_ HB hg; have GE788 := gw_ HB hg; have NB786_788 := nl_ BK786 hg; have NB788_786 := ng_ BK786 hg; have NB787_788 := nl_ BK787 hg; have NB788_787 := ng_ BK787 hg; replace BK786 := bb_ BK786 hb; replace BK787 := bb_ BK787 hb; replace HB := bs_ HB hb; clear hb hbox hg; have hnb44 := NB786_787.out; have hnc44 := NB787_786.out; have hnb45 := NB786_788.out; have hnc45 := NB788_786.out; obtain ⟨hcz46_0, hcz46_1, hcz46_2, hcz46_3, hfz46_0, hfz46_1, hfz46_2, hfz46_3⟩ := c4_ BK786) | ((with_reducible refine gate_callee (f := 29) rfl ?_); refine gl_ (some 7) Tryz.func29 #[.agg #[.bool a0_0, .int .u64 a0_1, .int .u64 a0_2, .int .i64 a0_3]] ?_; (with_reducible refine (platbookref03_Right.calls k a0_0 a0_1 a0_2 a0_3 false _ A3.out).mono ?_); rintro e w47 ⟨rfl, hb⟩; refine ⟨_, rfl, ?_⟩; replace BK786 := bb_ BK786 hb; replace BK787 := bb_ BK787 hb; replace BK788 := bb_ BK788 hb; replace HB := bs_ HB hb; (try clear hb); (try clear hb2); (try clear hk); (try clear hi); have hnb48 := NB788_787.out; have hnc48 := NB787_788.out; obtain ⟨hcz49_0, hcz49_1, hfz49_0, hfz49_1⟩ := c2_ BK788))
  refine bodyPost_ret (results_ct rfl _ _ gb788 24 #[.int .u64 0, .int .u64 0] (0, 0) _ rfl (by refine pw_ ?_; refine blk_put (cs := #[.int .u64 0, .int .u64 0]) ?_ 1 _ rfl; refine pw_ ?_; refine blk_put (cs := #[.int .u64 0, .int .u64 0]) ?_ 0 _ rfl; refine pw_ ?_; exact BK788.out) Tryz.underlying24 rfl (by kernel_rfl)) rfl ?_
  exact ⟨by first | rfl | (simp [errW_none, errW_some] <;> rfl) | (simp [*, errW_none, errW_some] <;> rfl), pb_ HB⟩

end Go.Proofs.YtgdgklibilddgaaGreatDoor.PPr

