/-
A part of the proof of prefixCommon_card: its lemmas and walks, part 3. No condition.
-/
import Derived.Test.YtgdgklibilddgaaGreatDoorComM2
set_option linter.unusedVariables false
set_option linter.unusedSimpArgs false
namespace Go.Proofs.YtgdgklibilddgaaGreatDoor.PPr
open Go.RowKit Go.Proofs.YtgdgklibilddgaaGreatDoorW.PrintWords Go.Proofs.YtgdgklibilddgaaGreatDoorW.PrintLast Go.Proofs.YtgdgklibilddgaaGreatDoorW.PrintMore
attribute [local go_sem] max2_int min2_int max_two min_two max_three min_three max_four min_four   -- for this text's walks alone

def platbooklaw03_awake.f  : Option (Bool) := (prefix_Parse.f (⟨#[49, 48, 46, 48, 46, 48, 46, 48, 47, 56]⟩ : ByteArray)).bind fun bt119 => ((prefix_Halves.f bt119.1 bt119.2.1 bt119.2.2.1 bt119.2.2.2.1).bind fun bt125 => ((prefix_Parse.f (⟨#[49, 48, 46, 48, 46, 48, 46, 49, 47, 56]⟩ : ByteArray)).bind fun bt136 => (if bt119.2.2.2.2 = 0 then (if bt125.2.2.2.2.2.2.2.2 = 0 then ((prefix_Print.f bt125.1 bt125.2.1 bt125.2.2.1 bt125.2.2.2.1).bind fun t142 => (if t142.toList = ([49, 48, 46, 48, 46, 48, 46, 48, 47, 57] : List UInt8) then ((prefix_Print.f bt125.2.2.2.2.1 bt125.2.2.2.2.2.1 bt125.2.2.2.2.2.2.1 bt125.2.2.2.2.2.2.2.1).bind fun t143 => (if t143.toList = ([49, 48, 46, 49, 50, 56, 46, 48, 46, 48, 47, 57] : List UInt8) then (some (bt136.2.2.2.2 == 4)) else (some false))) else (some false))) else (some false)) else (some false))))
set_option maxHeartbeats 8000000 in
set_option maxRecDepth 100000 in
theorem platbooklaw03_awake.calls  (r : Bool) (w : World) (hG : Glob w) (hrt : r = true) (h : platbooklaw03_awake.f  = some r) :
  Calls Tryz.prog 24 #[] w fun e w' => e = .returned (.bool r) ∧ Below w.heap.size w w' := by
 have hu38 := Tryz.underlying38
 have HGLB := Aside0.mk hG
 clear hG
 have HRT := Aside0.mk hrt
 clear hrt
 have HB := Aside0.mk (Below.refl w.heap.size w)
 have H : ((prefix_Parse.f (⟨#[49, 48, 46, 48, 46, 48, 46, 48, 47, 56]⟩ : ByteArray)).bind fun bt119 => ((prefix_Halves.f bt119.1 bt119.2.1 bt119.2.2.1 bt119.2.2.2.1).bind fun bt125 => ((prefix_Parse.f (⟨#[49, 48, 46, 48, 46, 48, 46, 49, 47, 56]⟩ : ByteArray)).bind fun bt136 => (if bt119.2.2.2.2 = 0 then (if bt125.2.2.2.2.2.2.2.2 = 0 then ((prefix_Print.f bt125.1 bt125.2.1 bt125.2.2.1 bt125.2.2.2.1).bind fun t142 => (if t142.toList = ([49, 48, 46, 48, 46, 48, 46, 48, 47, 57] : List UInt8) then ((prefix_Print.f bt125.2.2.2.2.1 bt125.2.2.2.2.2.1 bt125.2.2.2.2.2.2.1 bt125.2.2.2.2.2.2.2.1).bind fun t143 => (if t143.toList = ([49, 48, 46, 49, 50, 56, 46, 48, 46, 48, 47, 57] : List UInt8) then (some (bt136.2.2.2.2 == 4)) else (some false))) else (some false))) else (some false)) else (some false))))) = some r := h
 clear h
 replace H := Option.bind_eq_some_iff.mp H
 obtain ⟨⟨t119, t120, t121, t122, t123⟩, A10, H⟩ := H
 replace H : ((prefix_Halves.f t119 t120 t121 t122).bind fun bt125 => ((prefix_Parse.f (⟨#[49, 48, 46, 48, 46, 48, 46, 49, 47, 56]⟩ : ByteArray)).bind fun bt136 => (if t123 = 0 then (if bt125.2.2.2.2.2.2.2.2 = 0 then ((prefix_Print.f bt125.1 bt125.2.1 bt125.2.2.1 bt125.2.2.2.1).bind fun t142 => (if t142.toList = ([49, 48, 46, 48, 46, 48, 46, 48, 47, 57] : List UInt8) then ((prefix_Print.f bt125.2.2.2.2.1 bt125.2.2.2.2.2.1 bt125.2.2.2.2.2.2.1 bt125.2.2.2.2.2.2.2.1).bind fun t143 => (if t143.toList = ([49, 48, 46, 49, 50, 56, 46, 48, 46, 48, 47, 57] : List UInt8) then (some (bt136.2.2.2.2 == 4)) else (some false))) else (some false))) else (some false)) else (some false)))) = some r := H
 have A1 := Aside0.mk A10
 clear A10
 replace H := Option.bind_eq_some_iff.mp H
 obtain ⟨⟨t125, t126, t127, t128, t129, t130, t131, t132, t133⟩, A20, H⟩ := H
 replace H : ((prefix_Parse.f (⟨#[49, 48, 46, 48, 46, 48, 46, 49, 47, 56]⟩ : ByteArray)).bind fun bt136 => (if t123 = 0 then (if t133 = 0 then ((prefix_Print.f t125 t126 t127 t128).bind fun t142 => (if t142.toList = ([49, 48, 46, 48, 46, 48, 46, 48, 47, 57] : List UInt8) then ((prefix_Print.f t129 t130 t131 t132).bind fun t143 => (if t143.toList = ([49, 48, 46, 49, 50, 56, 46, 48, 46, 48, 47, 57] : List UInt8) then (some (bt136.2.2.2.2 == 4)) else (some false))) else (some false))) else (some false)) else (some false))) = some r := H
 have A2 := Aside0.mk A20
 clear A20
 replace H := Option.bind_eq_some_iff.mp H
 obtain ⟨⟨t136, t137, t138, t139, t140⟩, A30, H⟩ := H
 replace H : (if t123 = 0 then (if t133 = 0 then ((prefix_Print.f t125 t126 t127 t128).bind fun t142 => (if t142.toList = ([49, 48, 46, 48, 46, 48, 46, 48, 47, 57] : List UInt8) then ((prefix_Print.f t129 t130 t131 t132).bind fun t143 => (if t143.toList = ([49, 48, 46, 49, 50, 56, 46, 48, 46, 48, 47, 57] : List UInt8) then (some (t140 == 4)) else (some false))) else (some false))) else (some false)) else (some false)) = some r := H
 have A3 := Aside0.mk A30
 clear A30
 by_cases c4 : t123 = 0
 ·
  rw [if_pos c4] at H
  have c4b0 : (t123 == 0) = true := beq_iff_eq.mpr c4
  have c4b1 : (t123 != 0) = false := bne_eq_false_iff_eq.mpr c4
  clear c4
  by_cases c5 : t133 = 0
  ·
   rw [if_pos c5] at H
   have c5b0 : (t133 == 0) = true := beq_iff_eq.mpr c5
   have c5b1 : (t133 != 0) = false := bne_eq_false_iff_eq.mpr c5
   clear c5
   replace H := Option.bind_eq_some_iff.mp H
   obtain ⟨t142, A60, H⟩ := H
   replace H : (if t142.toList = ([49, 48, 46, 48, 46, 48, 46, 48, 47, 57] : List UInt8) then ((prefix_Print.f t129 t130 t131 t132).bind fun t143 => (if t143.toList = ([49, 48, 46, 49, 50, 56, 46, 48, 46, 48, 47, 57] : List UInt8) then (some (t140 == 4)) else (some false))) else (some false)) = some r := H
   have A6 := Aside0.mk A60
   clear A60
   by_cases c7 : t142.toList = ([49, 48, 46, 48, 46, 48, 46, 48, 47, 57] : List UInt8)
   ·
    rw [if_pos c7] at H
    have c7b0 : (t142.toList == ([49, 48, 46, 48, 46, 48, 46, 48, 47, 57] : List UInt8)) = true := beq_iff_eq.mpr c7
    have c7b1 : (t142.toList != ([49, 48, 46, 48, 46, 48, 46, 48, 47, 57] : List UInt8)) = false := bne_eq_false_iff_eq.mpr c7
    clear c7
    replace H := Option.bind_eq_some_iff.mp H
    obtain ⟨t143, A80, H⟩ := H
    replace H : (if t143.toList = ([49, 48, 46, 49, 50, 56, 46, 48, 46, 48, 47, 57] : List UInt8) then (some (t140 == 4)) else (some false)) = some r := H
    have A8 := Aside0.mk A80
    clear A80
    by_cases c9 : t143.toList = ([49, 48, 46, 49, 50, 56, 46, 48, 46, 48, 47, 57] : List UInt8)
    ·
     rw [if_pos c9] at H
     have c9b0 : (t143.toList == ([49, 48, 46, 49, 50, 56, 46, 48, 46, 48, 47, 57] : List UInt8)) = true := beq_iff_eq.mpr c9
     have c9b1 : (t143.toList != ([49, 48, 46, 49, 50, 56, 46, 48, 46, 48, 47, 57] : List UInt8)) = false := bne_eq_false_iff_eq.mpr c9
     clear c9
     obtain rfl := Option.some.inj H
     go_enter Tryz.func24, Tryz.ntmps24
     go_wp2_with (first | ((with_reducible refine gate_callee (f := 25) rfl ?_); refine gl_ (some 9) Tryz.func25 #[.string (⟨#[49, 48, 46, 48, 46, 48, 46, 48, 47, 56]⟩ : ByteArray)] ?_; (with_reducible refine (prefix_Parse.calls (⟨#[49, 48, 46, 48, 46, 48, 46, 48, 47, 56]⟩ : ByteArray) t119 t120 t121 t122 t123 _ ?side1 A1.out).mono ?_); (case side1 => exact glob_keep HGLB.out (pb_ HB)); rintro e w10 ⟨rfl, hb⟩; refine ⟨_, rfl, ?_⟩; replace HB := bs_ HB hb; (try clear hb); (try clear hb2); (try clear hk); (try clear hi)) | ((with_reducible refine gate_dst (N := 1) rfl ?_); refine bx_ 1 #[.bool false, .int .u64 0, .int .u64 0, .int .i64 0] 38 ?_; intro gb124 hg w11 hbox hb; have BK124 := Aside0.mk (hbox); have GW124 := gw_ HB hg; have GE124 := gw_ HB hg; replace HB := bs_ HB hb; clear hb hbox hg; obtain ⟨hcz12_0, hcz12_1, hcz12_2, hcz12_3, hfz12_0, hfz12_1, hfz12_2, hfz12_3⟩ := c4_ BK124) | ((with_reducible refine gate_callee (f := 33) rfl ?_); refine gl_ (some 14) Tryz.func33 #[.agg #[.bool t119, .int .u64 t120, .int .u64 t121, .int .i64 t122]] ?_; (with_reducible refine (prefix_Halves.calls t119 t120 t121 t122 t125 t126 t127 t128 t129 t130 t131 t132 t133 _ A2.out).mono ?_); rintro e w13 ⟨rfl, hb⟩; refine ⟨_, rfl, ?_⟩; replace BK124 := Aside0.mk (blk_below (g := gb124) (o := .cells #[.bool t119, .int .u64 t120, .int .u64 t121, .int .i64 t122] 38 (0, 0)) (by refine pw_ ?_; refine blk_put (cs := #[.bool t119, .int .u64 t120, .int .u64 t121, .int .i64 0]) ?_ 3 _ rfl; refine pw_ ?_; refine blk_put (cs := #[.bool t119, .int .u64 t120, .int .u64 0, .int .i64 0]) ?_ 2 _ rfl; refine pw_ ?_; refine blk_put (cs := #[.bool t119, .int .u64 0, .int .u64 0, .int .i64 0]) ?_ 1 _ rfl; refine pw_ ?_; refine blk_put (cs := #[.bool false, .int .u64 0, .int .u64 0, .int .i64 0]) ?_ 0 _ rfl; refine pw_ ?_; exact BK124.out) hb); replace HB := bs_ HB hb; (try clear hb); (try clear hb2); (try clear hk); (try clear hi)) | ((with_reducible refine gate_dst (N := 3) rfl ?_); refine bx_ 3 #[.bool false, .int .u64 0, .int .u64 0, .int .i64 0] 38 ?_; intro gb134 hg w14 hbox hb; have BK134 := Aside0.mk (hbox); have GW134 := gw_ HB hg; have GE134 := gw_ HB hg; have NB124_134 := nl_ BK124 hg; have NB134_124 := ng_ BK124 hg; replace BK124 := bb_ BK124 hb; replace HB := bs_ HB hb; clear hb hbox hg) | ((with_reducible refine gate_dst (N := 4) rfl ?_); refine bx_ 4 #[.bool false, .int .u64 0, .int .u64 0, .int .i64 0] 38 ?_; intro gb135 hg w15 hbox hb; have BK135 := Aside0.mk (hbox); have GW135 := gw_ HB hg; have GE135 := gw_ HB hg; have NB124_135 := nl_ BK124 hg; have NB135_124 := ng_ BK124 hg; have NB134_135 := nl_ BK134 hg; have NB135_134 := ng_ BK134 hg; replace BK124 := bb_ BK124 hb; replace BK134 := bb_ BK134 hb; replace HB := bs_ HB hb; clear hb hbox hg; have hnb16 := NB134_124.out; have hnc16 := NB124_134.out; have hnb17 := NB134_135.out; have hnc17 := NB135_134.out; obtain ⟨hcz18_0, hcz18_1, hcz18_2, hcz18_3, hfz18_0, hfz18_1, hfz18_2, hfz18_3⟩ := c4_ BK134; have hnb19 := NB135_124.out; have hnc19 := NB124_135.out; obtain ⟨hcz20_0, hcz20_1, hcz20_2, hcz20_3, hfz20_0, hfz20_1, hfz20_2, hfz20_3⟩ := c4_ BK135) | ((with_reducible refine gate_callee (f := 25) rfl ?_); refine gl_ (some 19) Tryz.func25 #[.string (⟨#[49, 48, 46, 48, 46, 48, 46, 49, 47, 56]⟩ : ByteArray)] ?_; (with_reducible refine (prefix_Parse.calls (⟨#[49, 48, 46, 48, 46, 48, 46, 49, 47, 56]⟩ : ByteArray) t136 t137 t138 t139 t140 _ ?side1 A3.out).mono ?_); (case side1 => exact glob_keep HGLB.out (pb_ HB)); rintro e w21 ⟨rfl, hb⟩; refine ⟨_, rfl, ?_⟩; replace BK124 := Aside0.mk (blk_below (g := gb124) (o := .cells #[.bool t119, .int .u64 t120, .int .u64 t121, .int .i64 t122] 38 (0, 0)) (by refine pw_ ?_; refine blk_far ?_ NB124_135.out _; refine pw_ ?_; refine blk_far ?_ NB124_135.out _; refine pw_ ?_; refine blk_far ?_ NB124_135.out _; refine pw_ ?_; refine blk_far ?_ NB124_135.out _; refine pw_ ?_; refine blk_far ?_ NB124_134.out _; refine pw_ ?_; refine blk_far ?_ NB124_134.out _; refine pw_ ?_; refine blk_far ?_ NB124_134.out _; refine pw_ ?_; refine blk_far ?_ NB124_134.out _; refine pw_ ?_; exact BK124.out) hb); replace BK134 := Aside0.mk (blk_below (g := gb134) (o := .cells #[.bool t125, .int .u64 t126, .int .u64 t127, .int .i64 t128] 38 (0, 0)) (by refine pw_ ?_; refine blk_far ?_ NB134_135.out _; refine pw_ ?_; refine blk_far ?_ NB134_135.out _; refine pw_ ?_; refine blk_far ?_ NB134_135.out _; refine pw_ ?_; refine blk_far ?_ NB134_135.out _; refine pw_ ?_; refine blk_put (cs := #[.bool t125, .int .u64 t126, .int .u64 t127, .int .i64 0]) ?_ 3 _ rfl; refine pw_ ?_; refine blk_put (cs := #[.bool t125, .int .u64 t126, .int .u64 0, .int .i64 0]) ?_ 2 _ rfl; refine pw_ ?_; refine blk_put (cs := #[.bool t125, .int .u64 0, .int .u64 0, .int .i64 0]) ?_ 1 _ rfl; refine pw_ ?_; refine blk_put (cs := #[.bool false, .int .u64 0, .int .u64 0, .int .i64 0]) ?_ 0 _ rfl; refine pw_ ?_; exact BK134.out) hb); replace BK135 := Aside0.mk (blk_below (g := gb135) (o := .cells #[.bool t129, .int .u64 t130, .int .u64 t131, .int .i64 t132] 38 (0, 0)) (by refine pw_ ?_; refine blk_put (cs := #[.bool t129, .int .u64 t130, .int .u64 t131, .int .i64 0]) ?_ 3 _ rfl; refine pw_ ?_; refine blk_put (cs := #[.bool t129, .int .u64 t130, .int .u64 0, .int .i64 0]) ?_ 2 _ rfl; refine pw_ ?_; refine blk_put (cs := #[.bool t129, .int .u64 0, .int .u64 0, .int .i64 0]) ?_ 1 _ rfl; refine pw_ ?_; refine blk_put (cs := #[.bool false, .int .u64 0, .int .u64 0, .int .i64 0]) ?_ 0 _ rfl; refine pw_ ?_; refine blk_far ?_ NB135_134.out _; refine pw_ ?_; refine blk_far ?_ NB135_134.out _; refine pw_ ?_; refine blk_far ?_ NB135_134.out _; refine pw_ ?_; refine blk_far ?_ NB135_134.out _; refine pw_ ?_; exact BK135.out) hb); replace HB := bs_ HB hb; (try clear hb); (try clear hb2); (try clear hk); (try clear hi)) | ((with_reducible refine gate_dst (N := 6) rfl ?_); refine bx_ 6 #[.bool false, .int .u64 0, .int .u64 0, .int .i64 0] 38 ?_; intro gb141 hg w22 hbox hb; have BK141 := Aside0.mk (hbox); have GW141 := gw_ HB hg; have GE141 := gw_ HB hg; have NB124_141 := nl_ BK124 hg; have NB141_124 := ng_ BK124 hg; have NB134_141 := nl_ BK134 hg; have NB141_134 := ng_ BK134 hg; have NB135_141 := nl_ BK135 hg; have NB141_135 := ng_ BK135 hg; replace BK124 := bb_ BK124 hb; replace BK134 := bb_ BK134 hb; replace BK135 := bb_ BK135 hb; replace HB := bs_ HB hb; clear hb hbox hg; have hnb23 := NB141_124.out; have hnc23 := NB124_141.out; have hnb24 := NB141_134.out; have hnc24 := NB134_141.out; have hnb25 := NB141_135.out; have hnc25 := NB135_141.out; obtain ⟨hcz26_0, hcz26_1, hcz26_2, hcz26_3, hfz26_0, hfz26_1, hfz26_2, hfz26_3⟩ := c4_ BK141; obtain ⟨hcz27_0, hcz27_1, hcz27_2, hcz27_3, hfz27_0, hfz27_1, hfz27_2, hfz27_3⟩ := c4_ BK134) | (go_at_call 27; (with_reducible refine (prefix_Print.calls t125 t126 t127 t128 t142 _ ?side1 A6.out).mono ?_); (case side1 => exact glob_keep HGLB.out (pb_ HB)); rintro e w28 ⟨rfl, hb⟩; replace BK124 := Aside0.mk (blk_below (g := gb124) (o := .cells #[.bool t119, .int .u64 t120, .int .u64 t121, .int .i64 t122] 38 (0, 0)) (by refine pw_ ?_; refine blk_far ?_ NB124_141.out _; refine pw_ ?_; refine blk_far ?_ NB124_141.out _; refine pw_ ?_; refine blk_far ?_ NB124_141.out _; refine pw_ ?_; refine blk_far ?_ NB124_141.out _; refine pw_ ?_; exact BK124.out) hb); replace BK134 := Aside0.mk (blk_below (g := gb134) (o := .cells #[.bool t125, .int .u64 t126, .int .u64 t127, .int .i64 t128] 38 (0, 0)) (by refine pw_ ?_; refine blk_far ?_ NB134_141.out _; refine pw_ ?_; refine blk_far ?_ NB134_141.out _; refine pw_ ?_; refine blk_far ?_ NB134_141.out _; refine pw_ ?_; refine blk_far ?_ NB134_141.out _; refine pw_ ?_; exact BK134.out) hb); replace BK135 := Aside0.mk (blk_below (g := gb135) (o := .cells #[.bool t129, .int .u64 t130, .int .u64 t131, .int .i64 t132] 38 (0, 0)) (by refine pw_ ?_; refine blk_far ?_ NB135_141.out _; refine pw_ ?_; refine blk_far ?_ NB135_141.out _; refine pw_ ?_; refine blk_far ?_ NB135_141.out _; refine pw_ ?_; refine blk_far ?_ NB135_141.out _; refine pw_ ?_; exact BK135.out) hb); replace BK141 := Aside0.mk (blk_below (g := gb141) (o := .cells #[.bool t136, .int .u64 t137, .int .u64 t138, .int .i64 t139] 38 (0, 0)) (by refine pw_ ?_; refine blk_put (cs := #[.bool t136, .int .u64 t137, .int .u64 t138, .int .i64 0]) ?_ 3 _ rfl; refine pw_ ?_; refine blk_put (cs := #[.bool t136, .int .u64 t137, .int .u64 0, .int .i64 0]) ?_ 2 _ rfl; refine pw_ ?_; refine blk_put (cs := #[.bool t136, .int .u64 0, .int .u64 0, .int .i64 0]) ?_ 1 _ rfl; refine pw_ ?_; refine blk_put (cs := #[.bool false, .int .u64 0, .int .u64 0, .int .i64 0]) ?_ 0 _ rfl; refine pw_ ?_; exact BK141.out) hb); replace HB := bs_ HB hb; (try clear hb); (try clear hb2); (try clear hk); (try clear hi); obtain ⟨hcz29_0, hcz29_1, hcz29_2, hcz29_3, hfz29_0, hfz29_1, hfz29_2, hfz29_3⟩ := c4_ BK135) | (go_at_call 27; (with_reducible refine (prefix_Print.calls t129 t130 t131 t132 t143 _ ?side1 A8.out).mono ?_); (case side1 => exact glob_keep HGLB.out (pb_ HB)); rintro e w30 ⟨rfl, hb⟩; replace BK124 := bb_ BK124 hb; replace BK134 := bb_ BK134 hb; replace BK135 := bb_ BK135 hb; replace BK141 := bb_ BK141 hb; replace HB := bs_ HB hb; (try clear hb); (try clear hb2); (try clear hk); (try clear hi)))
     go_ret
     exact ⟨by first | rfl | (simp [errW_none, errW_some] <;> rfl) | (simp [*, errW_none, errW_some] <;> rfl), pb_ HB⟩
    ·
     rw [if_neg c9] at H
     have c9b0 : (t143.toList == ([49, 48, 46, 49, 50, 56, 46, 48, 46, 48, 47, 57] : List UInt8)) = false := beq_eq_false_iff_ne.mpr c9
     have c9b1 : (t143.toList != ([49, 48, 46, 49, 50, 56, 46, 48, 46, 48, 47, 57] : List UInt8)) = true := bne_iff_ne.mpr c9
     obtain rfl := Option.some.inj H
     exact absurd HRT.out (by decide)
   ·
    rw [if_neg c7] at H
    have c7b0 : (t142.toList == ([49, 48, 46, 48, 46, 48, 46, 48, 47, 57] : List UInt8)) = false := beq_eq_false_iff_ne.mpr c7
    have c7b1 : (t142.toList != ([49, 48, 46, 48, 46, 48, 46, 48, 47, 57] : List UInt8)) = true := bne_iff_ne.mpr c7
    obtain rfl := Option.some.inj H
    exact absurd HRT.out (by decide)
  ·
   rw [if_neg c5] at H
   have c5b0 : (t133 == 0) = false := beq_eq_false_iff_ne.mpr c5
   have c5b1 : (t133 != 0) = true := bne_iff_ne.mpr c5
   obtain rfl := Option.some.inj H
   exact absurd HRT.out (by decide)
 ·
  rw [if_neg c4] at H
  have c4b0 : (t123 == 0) = false := beq_eq_false_iff_ne.mpr c4
  have c4b1 : (t123 != 0) = true := bne_iff_ne.mpr c4
  obtain rfl := Option.some.inj H
  exact absurd HRT.out (by decide)

mutual
def platbookref01_Bits.l0 : Nat → List Int → Int → Int → Int → Option (List Int)
 | 0, _, _, _, _ => none
 | k + 1, x3, x4, x5, x6 => if x6 < 64 then (if x3.length < 17592186044416 then (platbookref01_Bits.l0 k (x3 ++ [wrap64 (Int.tmod x4 2)]) (IntKind.u64.wrap (Int.tdiv x4 2)) x5 (wrap64 (x6 + 1))) else (none)) else (platbookref01_Bits.l1 k x3 x5 0)
def platbookref01_Bits.l1 : Nat → List Int → Int → Int → Option (List Int)
 | 0, _, _, _ => none
 | k + 1, x3, x5, x7 => if x7 < 64 then (if x3.length < 17592186044416 then (platbookref01_Bits.l1 k (x3 ++ [wrap64 (Int.tmod x5 2)]) (IntKind.u64.wrap (Int.tdiv x5 2)) (wrap64 (x7 + 1))) else (none)) else (some x3)
end
def platbookref01_Bits.f (k : Nat) (a0_0 : Int) (a0_1 : Int) : Option (List Int) := platbookref01_Bits.l0 k (([] : List Int)) a0_1 a0_0 0
set_option maxHeartbeats 8000000 in
set_option maxRecDepth 100000 in
theorem platbookref01_Bits.calls (k : Nat) (a0_0 : Int) (a0_1 : Int) (r : List Int) (w : World) (h : platbookref01_Bits.f k a0_0 a0_1 = some r) :
  Calls Tryz.prog 92 #[.agg #[.int .u64 a0_0, .int .u64 a0_1]] w fun e w' => ∃ v0_ : Value, e = .returned (v0_) ∧ Kd.R (Kd.int .i64) 3 w' w.heap.size (fun _ => True) v0_ r ∧ Below w.heap.size w w' := by
 have hu24 := Tryz.underlying24
 have HB := Aside0.mk (Below.refl w.heap.size w)
 have H : (platbookref01_Bits.l0 k (([] : List Int)) a0_1 a0_0 0) = some r := h
 clear h
 obtain ⟨y145, hy145⟩ : ∃ y_ : List Int, y_ = (([] : List Int)) := ⟨_, rfl⟩
 replace H : (platbookref01_Bits.l0 k y145 a0_1 a0_0 0) = some r := by first | (rw [hy145]; with_reducible exact H) | (have H2_ := (Option.bind_some _ _).symm.trans H; rw [hy145]; with_reducible exact H2_) | (have H2_ := (Option.bind_some _ _).symm.trans H; with_reducible exact H2_) | with_reducible exact H | (rw [hy145]; exact H) | exact H
 have Ny145 := Aside0.mk hy145
 clear hy145
 have H' := Aside0.mk H
 clear H
 go_enter Tryz.func92, Tryz.ntmps92
 go_wp2_with (first | ((with_reducible refine gate_dst (N := 1) rfl ?_); refine bx_ 1 #[.int .u64 a0_0, .int .u64 a0_1] 24 ?_; intro gb144 hg w2 hbox hb; have BK144 := Aside0.mk (hbox); have GW144 := gw_ HB hg; have GE144 := gw_ HB hg; replace HB := bs_ HB hb; clear hb hbox hg) | ((with_reducible refine gate_dst (N := 8) rfl ?_); refine Kd.R_lit (Kd.int .i64) _ 3 ?hg (N := 8) ?hd (xs := ([] : List Int)) (inner := []) (ok := fun _ => True) (okp := fun _ => True) ?hr ?hp (fun _ hk => hk) trivial (Below.refl _ _) (Nat.le_refl _) (by simp) ?_; (case hd => rfl); (case hg => rfl); (case hr => first | (go_simp; done) | (go_simp; rfl)); (case hp => exact (Reps.none _ _)); intro v146 w3 ho4 hb hg_ hnew_; clear hg_ hnew_; (first | rw [← Ny145.out] at ho4 | (simp only [Int.reduceToNat] at ho4; rw [← Ny145.out] at ho4)); have HO147 := Aside0.mk (Kd.R_lower ho4 (below_size (pb_ HB))); replace BK144 := bb_ BK144 hb; replace HB := bs_ HB hb; clear hb ho4; obtain ⟨hcz5_0, hcz5_1, hfz5_0, hfz5_1⟩ := c2_ BK144))
 go_loopg [3, 4, 6] k (fun kq v3 v4 v6 w' => ∃ (x3_1 : List Int) (x4_1 : Int) (x6_1 : Int), v4 = .int .u64 x4_1 ∧ v6 = .int .i64 x6_1 ∧ Aside0 (platbookref01_Bits.l0 kq x3_1 x4_1 a0_0 x6_1 = some r) ∧ Aside0 (kq ≤ k) ∧ Aside0 (Kd.R (Kd.int .i64) 3 w' w.heap.size (fun _ => True) v3 x3_1) ∧ Aside0 (w'.heap[gb144]? = some (.cells #[.int .u64 a0_0, .int .u64 a0_1] 24 (0, 0))) ∧ Aside0 (Below w.heap.size w w'))
 case atStart => exact ⟨(y145), (a0_1), (0), (by first | rfl | (simp; done) | (simp [*]; done)), (by first | rfl | (simp; done) | (simp [*]; done)), H', ⟨Nat.le_refl _⟩, ⟨by (with_reducible repeat (first | apply Kd.R_alloc | apply Kd.R_drewN | apply Kd.R_drew)); exact HO147.out⟩, ⟨by refine pw_ ?_; exact BK144.out⟩, ⟨pb_ HB⟩⟩
 case round =>
  clear H'
  try clear p2
  try clear hcz5_0
  try clear hcz5_1
  try clear hfz5_0
  try clear hfz5_1
  obtain ⟨x3_1, x4_1, x6_1, rfl, rfl, HA, HK1, HO_3, BK144, HB⟩ := hrel
  cases gk with
  | zero => exact absurd HA.out (by simp [platbookref01_Bits.l0])
  | succ k1 =>
   have H := HA.out
   clear HA
   simp only [platbookref01_Bits.l0] at H
   by_cases c6 : x6_1 < 64
   ·
    rw [if_pos c6] at H
    have c6b0 : decide (x6_1 < 64) = true := decide_eq_true c6
    clear c6
    by_cases c7 : x3_1.length < 17592186044416
    ·
     rw [if_pos c7] at H
     have LMc7 := Aside0.mk c7
     clear c7
     obtain ⟨y148, hy148⟩ : ∃ y_ : List Int, y_ = (x3_1 ++ [wrap64 (Int.tmod x4_1 2)]) := ⟨_, rfl⟩
     replace H : (platbookref01_Bits.l0 k1 y148 (IntKind.u64.wrap (Int.tdiv x4_1 2)) a0_0 (wrap64 (x6_1 + 1))) = some r := by first | (rw [hy148]; with_reducible exact H) | (have H2_ := (Option.bind_some _ _).symm.trans H; rw [hy148]; with_reducible exact H2_) | (have H2_ := (Option.bind_some _ _).symm.trans H; with_reducible exact H2_) | with_reducible exact H | (rw [hy148]; exact H) | exact H
     have Ny148 := Aside0.mk hy148
     clear hy148
     have H' := Aside0.mk H
     clear H
     go_wp2_with (first | ((with_reducible refine gate_builtin (b := .append) (xs := #[.tmp 17, .tmp 21]) rfl ?_); at_builtin; refine Kd.R_append (Kd.int .i64) (w0 := w) w.heap.size rfl (.tmp 17) (.tmp 21) 91 3 (.int .i64 0) 8 rfl Tryz.underlying91 info3 rfl (by decide) (by omega) u3 x3_1 (wrap64 (Int.tmod x4_1 2)) [.int .i64 (wrap64 (Int.tmod x4_1 2))] (fun _ => True) (fun _ => False) rfl rfl ?aP (fun _ hk => hk.elim) ?aF ?aO ?aB ?aS ?aL ?_; (case aP => exact rfl); (case aB => exact (pb_ HB)); (case aF => exact (fun _ _ => trivial)); (case aO => exact (by (with_reducible repeat (first | apply Kd.R_alloc | apply Kd.R_drewN | apply Kd.R_drew)); exact HO_3.out)); (case aS => exact (below_size (pb_ HB))); (case aL => have := LMc7.out; omega); intro v149 w8 ho hb hg hat; rw [← Ny148.out] at ho; have HO150 := Aside0.mk (ho); replace BK144 := Aside0.mk (blk_grown (g := gb144) (o := .cells #[.int .u64 a0_0, .int .u64 a0_1] 24 (0, 0)) (pk_ BK144) hg (Kd.R_ne HO_3.out BK144.out (by decide))); replace HB := Aside0.mk (hb); clear HO_3; clear ho hb hg hat))
     go_roundg k1
     case measure => have := HK1.out; omega
     case rel => exact ⟨(y148), (IntKind.u64.wrap (Int.tdiv x4_1 2)), (wrap64 (x6_1 + 1)), (by first | rfl | (simp; done) | (simp [*]; done)), (by first | rfl | (simp; done) | (simp [*]; done)), H', ⟨by have := HK1.out; omega⟩, ⟨by (with_reducible repeat (first | apply Kd.R_alloc | apply Kd.R_drewN | apply Kd.R_drew)); exact HO150.out⟩, ⟨by refine pw_ ?_; exact BK144.out⟩, ⟨pb_ HB⟩⟩
    ·
     rw [if_neg c7] at H
     exact absurd H (by simp)
   ·
    rw [if_neg c6] at H
    have c6b0 : decide (x6_1 < 64) = false := decide_eq_false c6
    clear c6
    have H' := Aside0.mk H
    clear H
    go_wp2
    go_loopg [3, 5, 7] k1 (fun kq v3 v5 v7 w' => ∃ (x3_2 : List Int) (x5_2 : Int) (x7_2 : Int), v5 = .int .u64 x5_2 ∧ v7 = .int .i64 x7_2 ∧ Aside0 (platbookref01_Bits.l1 kq x3_2 x5_2 x7_2 = some r) ∧ Aside0 (kq ≤ k1) ∧ Aside0 (Kd.R (Kd.int .i64) 3 w' w.heap.size (fun _ => True) v3 x3_2) ∧ Aside0 (w'.heap[gb144]? = some (.cells #[.int .u64 a0_0, .int .u64 a0_1] 24 (0, 0))) ∧ Aside0 (Below w.heap.size w w'))
    case atStart => exact ⟨(x3_1), (a0_0), (0), (by first | rfl | (simp; done) | (simp [*]; done)), (by first | rfl | (simp; done) | (simp [*]; done)), H', ⟨Nat.le_refl _⟩, ⟨by (with_reducible repeat (first | apply Kd.R_alloc | apply Kd.R_drewN | apply Kd.R_drew)); exact HO_3.out⟩, ⟨by refine pw_ ?_; exact BK144.out⟩, ⟨pb_ HB⟩⟩
    case round =>
     clear H'
     try clear p2
     try clear c6
     try clear c6b0
     try clear p6
     try clear c7
     try clear hcz5_0
     try clear hcz5_1
     try clear hfz5_0
     try clear hfz5_1
     try clear p2
     obtain ⟨x3_2, x5_2, x7_2, rfl, rfl, HA, HK2, HO_3, BK144, HB⟩ := hrel
     cases gk with
     | zero => exact absurd HA.out (by simp [platbookref01_Bits.l1])
     | succ k2 =>
      have H := HA.out
      clear HA
      simp only [platbookref01_Bits.l1] at H
      by_cases c9 : x7_2 < 64
      ·
       rw [if_pos c9] at H
       have c9b0 : decide (x7_2 < 64) = true := decide_eq_true c9
       clear c9
       by_cases c10 : x3_2.length < 17592186044416
       ·
        rw [if_pos c10] at H
        have LMc10 := Aside0.mk c10
        clear c10
        obtain ⟨y151, hy151⟩ : ∃ y_ : List Int, y_ = (x3_2 ++ [wrap64 (Int.tmod x5_2 2)]) := ⟨_, rfl⟩
        replace H : (platbookref01_Bits.l1 k2 y151 (IntKind.u64.wrap (Int.tdiv x5_2 2)) (wrap64 (x7_2 + 1))) = some r := by first | (rw [hy151]; with_reducible exact H) | (have H2_ := (Option.bind_some _ _).symm.trans H; rw [hy151]; with_reducible exact H2_) | (have H2_ := (Option.bind_some _ _).symm.trans H; with_reducible exact H2_) | with_reducible exact H | (rw [hy151]; exact H) | exact H
        have Ny151 := Aside0.mk hy151
        clear hy151
        have H' := Aside0.mk H
        clear H
        go_wp2_with (first | ((with_reducible refine gate_builtin (b := .append) (xs := #[.tmp 29, .tmp 33]) rfl ?_); at_builtin; refine Kd.R_append (Kd.int .i64) (w0 := w) w.heap.size rfl (.tmp 29) (.tmp 33) 91 3 (.int .i64 0) 8 rfl Tryz.underlying91 info3 rfl (by decide) (by omega) u3 x3_2 (wrap64 (Int.tmod x5_2 2)) [.int .i64 (wrap64 (Int.tmod x5_2 2))] (fun _ => True) (fun _ => False) rfl rfl ?aP (fun _ hk => hk.elim) ?aF ?aO ?aB ?aS ?aL ?_; (case aP => exact rfl); (case aB => exact (pb_ HB)); (case aF => exact (fun _ _ => trivial)); (case aO => exact (by (with_reducible repeat (first | apply Kd.R_alloc | apply Kd.R_drewN | apply Kd.R_drew)); exact HO_3.out)); (case aS => exact (below_size (pb_ HB))); (case aL => have := LMc10.out; omega); intro v152 w11 ho hb hg hat; rw [← Ny151.out] at ho; have HO153 := Aside0.mk (ho); replace BK144 := Aside0.mk (blk_grown (g := gb144) (o := .cells #[.int .u64 a0_0, .int .u64 a0_1] 24 (0, 0)) (pk_ BK144) hg (Kd.R_ne HO_3.out BK144.out (by decide))); replace HB := Aside0.mk (hb); clear HO_3; clear ho hb hg hat))
        go_roundg k2
        case measure => have := HK1.out; have := HK2.out; omega
        case rel => exact ⟨(y151), (IntKind.u64.wrap (Int.tdiv x5_2 2)), (wrap64 (x7_2 + 1)), (by first | rfl | (simp; done) | (simp [*]; done)), (by first | rfl | (simp; done) | (simp [*]; done)), H', ⟨by have := HK1.out; have := HK2.out; omega⟩, ⟨by (with_reducible repeat (first | apply Kd.R_alloc | apply Kd.R_drewN | apply Kd.R_drew)); exact HO153.out⟩, ⟨by refine pw_ ?_; exact BK144.out⟩, ⟨pb_ HB⟩⟩
       ·
        rw [if_neg c10] at H
        exact absurd H (by simp)
      ·
       rw [if_neg c9] at H
       have c9b0 : decide (x7_2 < 64) = false := decide_eq_false c9
       clear c9
       obtain rfl := Option.some.inj H
       go_wp2
       go_ret
       exact ⟨_, by first | rfl | (simp [errW_none, errW_some] <;> rfl) | (simp [*, errW_none, errW_some] <;> rfl), by (with_reducible repeat (first | apply Kd.R_alloc | apply Kd.R_drewN | apply Kd.R_drew)); exact HO_3.out, pb_ HB⟩

def platbookref03_Row.l0 : Nat → List Int → List Int → Int → Option (List Int)
 | 0, _, _, _ => none
 | k + 1, x3, x4, x5 => if x5 ≥ 0 then (if 0 ≤ x5 then (if x5 < (x3.length : Int) then (if x4.length < 17592186044416 then (platbookref03_Row.l0 k x3 (x4 ++ [rd x3 x5]) (wrap64 (x5 - 1))) else (none)) else (none)) else (none)) else (some x4)
def platbookref03_Row.f (k : Nat) (a0_0 : Bool) (a0_1 : Int) (a0_2 : Int) : Option (List Int) := (platbookref01_Bits.f k a0_1 a0_2).bind fun t155 => ((platbookref02_Width.f a0_0 a0_1 a0_2).bind fun t161 => (platbookref03_Row.l0 k t155 (([] : List Int)) (wrap64 (t161 - 1))))
set_option maxHeartbeats 8000000 in
set_option maxRecDepth 100000 in
theorem platbookref03_Row.calls (k : Nat) (a0_0 : Bool) (a0_1 : Int) (a0_2 : Int) (r : List Int) (w : World) (h : platbookref03_Row.f k a0_0 a0_1 a0_2 = some r) :
  Calls Tryz.prog 83 #[.agg #[.bool a0_0, .int .u64 a0_1, .int .u64 a0_2]] w fun e w' => ∃ v0_ : Value, e = .returned (v0_) ∧ Kd.R (Kd.int .i64) 3 w' w.heap.size (fun _ => True) v0_ r ∧ Below w.heap.size w w' := by
 have hu26 := Tryz.underlying26
 have hu24 := Tryz.underlying24
 have HB := Aside0.mk (Below.refl w.heap.size w)
 have H : ((platbookref01_Bits.f k a0_1 a0_2).bind fun t155 => ((platbookref02_Width.f a0_0 a0_1 a0_2).bind fun t161 => (platbookref03_Row.l0 k t155 (([] : List Int)) (wrap64 (t161 - 1))))) = some r := h
 clear h
 replace H := Option.bind_eq_some_iff.mp H
 obtain ⟨t155, A20, H⟩ := H
 replace H : ((platbookref02_Width.f a0_0 a0_1 a0_2).bind fun t161 => (platbookref03_Row.l0 k t155 (([] : List Int)) (wrap64 (t161 - 1)))) = some r := H
 have A2 := Aside0.mk A20
 clear A20
 obtain ⟨y158, hy158⟩ : ∃ y_ : List Int, y_ = (([] : List Int)) := ⟨_, rfl⟩
 replace H : ((platbookref02_Width.f a0_0 a0_1 a0_2).bind fun t161 => (platbookref03_Row.l0 k t155 y158 (wrap64 (t161 - 1)))) = some r := by first | (rw [hy158]; with_reducible exact H) | (have H2_ := (Option.bind_some _ _).symm.trans H; rw [hy158]; with_reducible exact H2_) | (have H2_ := (Option.bind_some _ _).symm.trans H; with_reducible exact H2_) | with_reducible exact H | (rw [hy158]; exact H) | exact H
 have Ny158 := Aside0.mk hy158
 clear hy158
 replace H := Option.bind_eq_some_iff.mp H
 obtain ⟨t161, A30, H⟩ := H
 replace H : (platbookref03_Row.l0 k t155 y158 (wrap64 (t161 - 1))) = some r := H
 have A3 := Aside0.mk A30
 clear A30
 have H' := Aside0.mk H
 clear H
 go_enter Tryz.func83, Tryz.ntmps83
 go_wp2_with (first | ((with_reducible refine gate_dst (N := 1) rfl ?_); refine bx_ 1 #[.bool a0_0, .int .u64 a0_1, .int .u64 a0_2] 26 ?_; intro gb154 hg w4 hbox hb; have BK154 := Aside0.mk (hbox); have GW154 := gw_ HB hg; have GE154 := gw_ HB hg; replace HB := bs_ HB hb; clear hb hbox hg; obtain ⟨hcz5_0, hcz5_1, hcz5_2, hfz5_0, hfz5_1, hfz5_2⟩ := c3_ BK154) | ((with_reducible refine gate_callee (f := 92) rfl ?_); refine gl_ (some 8) Tryz.func92 #[.agg #[.int .u64 a0_1, .int .u64 a0_2]] ?_; (with_reducible refine (platbookref01_Bits.calls k a0_1 a0_2 t155 _ A2.out).mono ?_); rintro e w6 ⟨v156, rfl, ho0, hb⟩; refine ⟨_, rfl, ?_⟩; have HO157 := Aside0.mk (Kd.R_lower ho0 (below_size (pb_ HB))); replace BK154 := bb_ BK154 hb; replace HB := bs_ HB hb; (try clear hb); (try clear hb2); (try clear hk); (try clear hi); (try clear ho0)) | ((with_reducible refine gate_dst (N := 9) rfl ?_); refine Kd.R_lit (Kd.int .i64) _ 3 ?hg (N := 9) ?hd (xs := ([] : List Int)) (inner := []) (ok := fun _ => True) (okp := fun _ => True) ?hr ?hp (fun _ hk => hk) trivial (Below.refl _ _) (Nat.le_refl _) (by simp) ?_; (case hd => rfl); (case hg => rfl); (case hr => first | (go_simp; done) | (go_simp; rfl)); (case hp => exact (Reps.none _ _)); intro v159 w7 ho8 hb hg_ hnew_; clear hg_ hnew_; (first | rw [← Ny158.out] at ho8 | (simp only [Int.reduceToNat] at ho8; rw [← Ny158.out] at ho8)); have HO160 := Aside0.mk (Kd.R_lower (Kd.R_new' ho8 (Kd.R_lt (by (with_reducible repeat (first | apply Kd.R_alloc | apply Kd.R_drewN | apply Kd.R_drew)); exact HO157.out))) (below_size (pb_ HB))); replace HO157 := Aside0.mk (Kd.R_elder' (by (with_reducible repeat (first | apply Kd.R_alloc | apply Kd.R_drewN | apply Kd.R_drew)); exact HO157.out) (Kd.R_base ho8) hb); replace BK154 := bb_ BK154 hb; replace HB := bs_ HB hb; clear hb ho8; obtain ⟨hcz9_0, hcz9_1, hcz9_2, hfz9_0, hfz9_1, hfz9_2⟩ := c3_ BK154) | ((with_reducible refine gate_callee (f := 23) rfl ?_); refine gl_ (some 11) Tryz.func23 #[.agg #[.bool a0_0, .int .u64 a0_1, .int .u64 a0_2]] ?_; (with_reducible refine (platbookref02_Width.calls a0_0 a0_1 a0_2 t161 _ A3.out).mono ?_); rintro e w10 ⟨rfl, hb⟩; refine ⟨_, rfl, ?_⟩; replace HO157 := Aside0.mk (Kd.R_below (by (with_reducible repeat (first | apply Kd.R_alloc | apply Kd.R_drewN | apply Kd.R_drew)); exact HO157.out) hb); replace HO160 := Aside0.mk (Kd.R_below (by (with_reducible repeat (first | apply Kd.R_alloc | apply Kd.R_drewN | apply Kd.R_drew)); exact HO160.out) hb); replace BK154 := bb_ BK154 hb; replace HB := bs_ HB hb; (try clear hb); (try clear hb2); (try clear hk); (try clear hi)))
 go_loopg [4, 5] k (fun kq v4 v5 w' => ∃ (x4_1 : List Int) (x5_1 : Int), v5 = .int .i64 x5_1 ∧ Aside0 (platbookref03_Row.l0 kq t155 x4_1 x5_1 = some r) ∧ Aside0 (kq ≤ k) ∧ Aside0 (Kd.R (Kd.int .i64) 3 w' w.heap.size (fun k_ => some k_ ≠ (v4 : Value).ownBlock) v156 t155) ∧ Aside0 (Kd.R (Kd.int .i64) 3 w' w.heap.size (fun k_ => some k_ ≠ (v156 : Value).ownBlock) v4 x4_1) ∧ Aside0 (w'.heap[gb154]? = some (.cells #[.bool a0_0, .int .u64 a0_1, .int .u64 a0_2] 26 (0, 0))) ∧ Aside0 (Below w.heap.size w w'))
 case atStart => exact ⟨(y158), (wrap64 (t161 - 1)), (by first | rfl | (simp; done) | (simp [*]; done)), H', ⟨Nat.le_refl _⟩, ⟨by (with_reducible repeat (first | apply Kd.R_alloc | apply Kd.R_drewN | apply Kd.R_drew)); exact Kd.R_mono HO157.out (fun _ hk => hk.2)⟩, ⟨by (with_reducible repeat (first | apply Kd.R_alloc | apply Kd.R_drewN | apply Kd.R_drew)); exact Kd.R_mono HO160.out (fun _ hk => hk.2)⟩, ⟨by refine pw_ ?_; exact BK154.out⟩, ⟨pb_ HB⟩⟩
 case round =>
  clear H'
  try clear c2
  try clear p2
  try clear p6
  try clear c8
  try clear c9
  try clear hcz5_0
  try clear hcz5_1
  try clear hcz5_2
  try clear hcz9_0
  try clear hcz9_1
  try clear hcz9_2
  try clear hfz5_0
  try clear hfz5_1
  try clear hfz5_2
  try clear hfz9_0
  try clear hfz9_1
  try clear hfz9_2
  obtain ⟨x4_1, x5_1, rfl, HA, HK1, HO_3, HO_4, BK154, HB⟩ := hrel
  cases gk with
  | zero => exact absurd HA.out (by simp [platbookref03_Row.l0])
  | succ k1 =>
   have H := HA.out
   clear HA
   simp only [platbookref03_Row.l0] at H
   by_cases c11 : x5_1 ≥ 0
   ·
    rw [if_pos c11] at H
    have c11b0 : decide (0 ≤ x5_1) = true := decide_eq_true c11
    clear c11
    by_cases c12 : 0 ≤ x5_1
    ·
     rw [if_pos c12] at H
     have c12b0 : decide (0 ≤ x5_1) = true := decide_eq_true c12
     clear c12
     by_cases c13 : x5_1 < (t155.length : Int)
     ·
      rw [if_pos c13] at H
      have c13b0 : decide (x5_1 < (t155.length : Int)) = true := decide_eq_true c13
      clear c13
      by_cases c14 : x4_1.length < 17592186044416
      ·
       rw [if_pos c14] at H
       have LMc14 := Aside0.mk c14
       clear c14
       obtain ⟨y163, hy163⟩ : ∃ y_ : List Int, y_ = (x4_1 ++ [rd t155 x5_1]) := ⟨_, rfl⟩
       replace H : (platbookref03_Row.l0 k1 t155 y163 (wrap64 (x5_1 - 1))) = some r := by first | (rw [hy163]; with_reducible exact H) | (have H2_ := (Option.bind_some _ _).symm.trans H; rw [hy163]; with_reducible exact H2_) | (have H2_ := (Option.bind_some _ _).symm.trans H; with_reducible exact H2_) | with_reducible exact H | (rw [hy163]; exact H) | exact H
       have Ny163 := Aside0.mk hy163
       clear hy163
       have H' := Aside0.mk H
       clear H
       obtain ⟨Ao15, co15, eo15⟩ := Kd.R_slice HO_3.out
       subst eo15
       have p162 : 0 ≤ (x5_1 : Int) := of_decide_eq_true (by first | (with_reducible assumption) | assumption)
       have q162 : x5_1 < (t155.length : Int) := of_decide_eq_true (by first | (with_reducible assumption) | assumption)
       obtain ⟨ad162, e162, hx162_0⟩ := Kd.at_int (Kd.R_reads' HO_3.out).2.2 x5_1 p162 q162
       cases e162
       replace p162 := eq_true p162
       replace q162 := eq_true q162
       go_wp2_with (first | ((with_reducible refine gate_builtin (b := .append) (xs := #[.tmp 17, .tmp 22]) rfl ?_); at_builtin; refine Kd.R_append (Kd.int .i64) (w0 := w) w.heap.size rfl (.tmp 17) (.tmp 22) 91 3 (.int .i64 0) 8 rfl Tryz.underlying91 info3 rfl (by decide) (by omega) u4 x4_1 (rd t155 x5_1) [.int .i64 (rd t155 x5_1)] (fun k_ => some k_ ≠ (.slice (some ad162) t155.length co15 : Value).ownBlock) (fun _ => False) rfl rfl ?aP (fun _ hk => hk.elim) ?aF ?aO ?aB ?aS ?aL ?_; (case aP => exact rfl); (case aB => exact (pb_ HB)); (case aF => exact (fun k_ hk => Kd.fresh' (Kd.R_lt (by (with_reducible repeat (first | apply Kd.R_alloc | apply Kd.R_drewN | apply Kd.R_drew)); exact HO_3.out)) k_ hk)); (case aO => exact (by (with_reducible repeat (first | apply Kd.R_alloc | apply Kd.R_drewN | apply Kd.R_drew)); exact HO_4.out)); (case aS => exact (below_size (pb_ HB))); (case aL => have := LMc14.out; omega); intro v164 w16 ho hb hg hat; rw [← Ny163.out] at ho; have HO165 := Aside0.mk (ho); replace HO_3 := Aside0.mk (Kd.R_after (ok := (fun _ => True)) (by (with_reducible repeat (first | apply Kd.R_alloc | apply Kd.R_drewN | apply Kd.R_drew)); exact Kd.R_mono HO_3.out (fun _ hk => ⟨trivial, hk⟩)) hg hat); replace BK154 := Aside0.mk (blk_grown (g := gb154) (o := .cells #[.bool a0_0, .int .u64 a0_1, .int .u64 a0_2] 26 (0, 0)) (pk_ BK154) hg (Kd.R_ne HO_4.out BK154.out (by decide))); replace HB := Aside0.mk (hb); clear HO_4; clear ho hb hg hat))
       go_roundg k1
       case measure => have := HK1.out; omega
       case rel => exact ⟨(y163), (wrap64 (x5_1 - 1)), (by first | rfl | (simp; done) | (simp [*]; done)), H', ⟨by have := HK1.out; omega⟩, ⟨by (with_reducible repeat (first | apply Kd.R_alloc | apply Kd.R_drewN | apply Kd.R_drew)); exact Kd.R_mono HO_3.out (fun _ hk => hk.2)⟩, ⟨by (with_reducible repeat (first | apply Kd.R_alloc | apply Kd.R_drewN | apply Kd.R_drew)); exact HO165.out⟩, ⟨by refine pw_ ?_; exact BK154.out⟩, ⟨pb_ HB⟩⟩
      ·
       rw [if_neg c14] at H
       exact absurd H (by simp)
     ·
      rw [if_neg c13] at H
      exact absurd H (by simp)
    ·
     rw [if_neg c12] at H
     exact absurd H (by simp)
   ·
    rw [if_neg c11] at H
    have c11b0 : decide (0 ≤ x5_1) = false := decide_eq_false c11
    clear c11
    obtain rfl := Option.some.inj H
    go_wp2
    go_ret
    exact ⟨_, by first | rfl | (simp [errW_none, errW_some] <;> rfl) | (simp [*, errW_none, errW_some] <;> rfl), by (with_reducible repeat (first | apply Kd.R_alloc | apply Kd.R_drewN | apply Kd.R_drew)); exact Kd.R_mono HO_4.out (fun _ hk => trivial), pb_ HB⟩

mutual
def platbookref01_Num.l0 : Nat → List Int → Int → Int → Int → Option (Int × Int)
 | 0, _, _, _, _ => none
 | k + 1, x0, x4, x168000, x168001 => if x4 ≥ 64 then (if x4 < (x0.length : Int) then (if 0 ≤ x4 then (platbookref01_Num.l0 k x0 (wrap64 (x4 - 1)) (IntKind.u64.wrap ((IntKind.u64.wrap (x168000 * 2)) + (IntKind.u64.wrap (rd x0 x4)))) x168001) else (none)) else (platbookref01_Num.l0 k x0 (wrap64 (x4 - 1)) (IntKind.u64.wrap (x168000 * 2)) x168001)) else (platbookref01_Num.l1 k x0 63 x168000 x168001)
def platbookref01_Num.l1 : Nat → List Int → Int → Int → Int → Option (Int × Int)
 | 0, _, _, _, _ => none
 | k + 1, x0, x5, x168000, x168001 => if x5 ≥ 0 then (if x5 < (x0.length : Int) then (if 0 ≤ x5 then (platbookref01_Num.l1 k x0 (wrap64 (x5 - 1)) x168000 (IntKind.u64.wrap ((IntKind.u64.wrap (x168001 * 2)) + (IntKind.u64.wrap (rd x0 x5))))) else (none)) else (platbookref01_Num.l1 k x0 (wrap64 (x5 - 1)) x168000 (IntKind.u64.wrap (x168001 * 2)))) else (some (x168000, x168001))
end
def platbookref01_Num.f (k : Nat) (l0 : List Int) : Option (Int × Int) := platbookref01_Num.l0 k l0 127 0 0
def platbookref01_Num.T7 : Bool × List (List Nat × List Nat) := (true, [([], []), ([0], [0]), ([], []), ([], []), ([2, 3], [2, 3]), ([4], [4]), ([5], [5]), ([1, 6], [1, 6]), ([0, 1, 2, 3, 4, 5, 6, 7], []), ([8, 7, 0, 1, 2, 3, 4, 5, 6, 7], [7, 8])])
def platbookref01_Num.B7 : List Nat := [0, 1, 0, 0, 12, 28, 60, 127, 255, 511]
theorem platbookref01_Num.tab7 : rtab .any (opsOf Tryz.f107 7) = platbookref01_Num.T7 := by kernel_rfl
theorem platbookref01_Num.bits7 : waitsOk platbookref01_Num.T7.2 platbookref01_Num.B7 = true := by kernel_rfl
def platbookref01_Num.T13 : Bool × List (List Nat × List Nat) := (true, [([], []), ([0], [0]), ([], []), ([], []), ([2, 3], [2, 3]), ([4], [4]), ([5], [5]), ([1, 6], [1, 6]), ([0, 1, 2, 3, 4, 5, 6, 7], []), ([8, 7, 0, 1, 2, 3, 4, 5, 6, 7], [7, 8])])
def platbookref01_Num.B13 : List Nat := [0, 1, 0, 0, 12, 28, 60, 127, 255, 511]
theorem platbookref01_Num.tab13 : rtab .any (opsOf Tryz.f107 13) = platbookref01_Num.T13 := by kernel_rfl
theorem platbookref01_Num.bits13 : waitsOk platbookref01_Num.T13.2 platbookref01_Num.B13 = true := by kernel_rfl
set_option maxHeartbeats 8000000 in
set_option maxRecDepth 100000 in
theorem platbookref01_Num.calls (k : Nat) (A0 : Option Addr) (c0 : Nat) (l0 : List Int) (r1 : Int) (r2 : Int) (w : World) (hr0 : Kd.C (Kd.int .i64) w A0 l0.length l0) (hc0 : l0.length ≤ c0) (h : platbookref01_Num.f k l0 = some (r1, r2)) :
  Calls Tryz.prog 107 #[.slice A0 l0.length c0] w fun e w' => e = .returned (.agg #[.int .u64 r1, .int .u64 r2]) ∧ Below w.heap.size w w' := by
 have hu24 := Tryz.underlying24
 have HR0 := Aside0.mk hr0
 have HC0 := Aside0.mk hc0
 clear hr0 hc0
 have HB := Aside0.mk (Below.refl w.heap.size w)
 have H : (platbookref01_Num.l0 k l0 127 0 0) = some (r1, r2) := h
 clear h
 have H' := Aside0.mk H
 clear H
 go_enter Tryz.func107, Tryz.ntmps107
 go_wp2_with (first | ((with_reducible refine gate_dst (N := 2) rfl ?_); refine bx_ 2 #[.int .u64 0, .int .u64 0] 24 ?_; intro gb166 hg w2 hbox hb; have BK166 := Aside0.mk (hbox); have GW166 := gw_ HB hg; have GE166 := gw_ HB hg; replace HB := bs_ HB hb; clear hb hbox hg) | ((with_reducible refine gate_dst (N := 3) rfl ?_); refine bx_ 3 #[.int .u64 0, .int .u64 0] 24 ?_; intro gb167 hg w3 hbox hb; have BK167 := Aside0.mk (hbox); have GW167 := gw_ HB hg; have GE167 := gw_ HB hg; have NB166_167 := nl_ BK166 hg; have NB167_166 := ng_ BK166 hg; replace BK166 := bb_ BK166 hb; replace HB := bs_ HB hb; clear hb hbox hg; have hnb4 := NB167_166.out; have hnc4 := NB166_167.out; obtain ⟨hcz5_0, hcz5_1, hfz5_0, hfz5_1⟩ := c2_ BK167))
 go_loopg [4] k (fun kq v4 w' => ∃ (x4_1 : Int) (x168000_1 : Int), v4 = .int .i64 x4_1 ∧ Aside0 (platbookref01_Num.l0 kq l0 x4_1 x168000_1 0 = some (r1, r2)) ∧ Aside0 (kq ≤ k) ∧ Aside0 (w'.heap[gb166]? = some (.cells #[.int .u64 0, .int .u64 0] 24 (0, 0))) ∧ Aside0 (w'.heap[gb167]? = some (.cells #[.int .u64 x168000_1, .int .u64 0] 24 (0, 0))) ∧ Aside0 (Below w.heap.size w w'))
 case atStart => exact ⟨(127), (0), (by first | rfl | (simp; done) | (simp [*]; done)), H', ⟨Nat.le_refl _⟩, ⟨by refine pw_ ?_; refine blk_far ?_ NB166_167.out _; refine pw_ ?_; refine blk_far ?_ NB166_167.out _; refine pw_ ?_; exact BK166.out⟩, ⟨by refine pw_ ?_; refine blk_put (cs := #[.int .u64 0, .int .u64 0]) ?_ 1 _ rfl; refine pw_ ?_; refine blk_put (cs := #[.int .u64 0, .int .u64 0]) ?_ 0 _ rfl; refine pw_ ?_; exact BK167.out⟩, ⟨pb_ HB⟩⟩
 case round =>
  clear H'
  try clear c1
  try clear p2
  try clear c4
  try clear hcz5_0
  try clear hcz5_1
  try clear hfz5_0
  try clear hfz5_1
  obtain ⟨x4_1, x168000_1, rfl, HA, HK1, BK166, BK167, HB⟩ := hrel
  cases gk with
  | zero => exact absurd HA.out (by simp [platbookref01_Num.l0])
  | succ k1 =>
   have H := HA.out
   clear HA
   simp only [platbookref01_Num.l0] at H
   by_cases c6 : x4_1 ≥ 64
   ·
    rw [if_pos c6] at H
    have c6b0 : decide (64 ≤ x4_1) = true := decide_eq_true c6
    clear c6
    by_cases c7 : x4_1 < (l0.length : Int)
    ·
     rw [if_pos c7] at H
     have c7b0 : decide (x4_1 < (l0.length : Int)) = true := decide_eq_true c7
     clear c7
     by_cases c8 : 0 ≤ x4_1
     ·
      rw [if_pos c8] at H
      have c8b0 : decide (0 ≤ x4_1) = true := decide_eq_true c8
      clear c8
      have H' := Aside0.mk H
      clear H
      have hnb9 := NB167_166.out
      have hnc9 := NB166_167.out
      obtain ⟨hcz10_0, hcz10_1, hfz10_0, hfz10_1⟩ := c2_ BK167
      try go_wp2
      have n0_ : Aside0 ((wr.setCell ⟨gb167, 0, none⟩ (.int .u64 (IntKind.u64.wrap (x168000_1 * 2)))).heap[gb166]? = some (.cells #[.int .u64 0, .int .u64 0] 24 (0, 0))) := ⟨by refine pw_ ?_; refine blk_far ?_ NB166_167.out _; refine pw_ ?_; exact BK166.out⟩
      have n1_ : Aside0 ((wr.setCell ⟨gb167, 0, none⟩ (.int .u64 (IntKind.u64.wrap (x168000_1 * 2)))).heap[gb167]? = some (.cells #[.int .u64 (IntKind.u64.wrap (x168000_1 * 2)), .int .u64 0] 24 (0, 0))) := ⟨by refine pw_ ?_; refine blk_put (cs := #[.int .u64 x168000_1, .int .u64 0]) ?_ 0 _ rfl; refine pw_ ?_; exact BK167.out⟩
      have n2_ : Aside0 (Below w.heap.size w (wr.setCell ⟨gb167, 0, none⟩ (.int .u64 (IntKind.u64.wrap (x168000_1 * 2))))) := ⟨pb_ HB⟩
      (try clear BK166)
      (try clear BK167)
      (try clear HB)
      generalize (wr.setCell ⟨gb167, 0, none⟩ (.int .u64 (IntKind.u64.wrap (x168000_1 * 2)))) = w11 at n0_ n1_ n2_ ⊢
      have BK166 := n0_
      have BK167 := n1_
      have HB := n2_
      clear n0_ n1_ n2_
      replace BK166 := Aside0.mk (blk_drew BK166.out)
      replace BK167 := Aside0.mk (blk_drew BK167.out)
      replace HB := Aside0.mk (below_drew1 HB.out)
      have p168 : 0 ≤ (x4_1 : Int) := of_decide_eq_true (by first | (with_reducible assumption) | assumption)
      have q168 : x4_1 < (l0.length : Int) := of_decide_eq_true (by first | (with_reducible assumption) | assumption)
      obtain ⟨ad168, e168, hx168_0⟩ := Kd.at_int HR0.out x4_1 p168 q168
      have hw168_0 := hx168_0
      cases e168
      replace hx168_0 := (HB.out.cell (World.block_lt_of_cell? w _ hx168_0)).trans hx168_0
      replace p168 := eq_true p168
      replace q168 := eq_true q168
      refine start_ (n := 10) (S := fun w' => w'.cell? ⟨gb167, 0, none⟩ = some (.int .u64 (IntKind.u64.wrap (x168000_1 * 2))) ∧ w'.cell? ⟨gb167, 1, none⟩ = some (.int .u64 0) ∧ w'.cell? (ad168.add (x4_1).toNat) = some (.int .i64 (rd l0 x4_1))) (ds := [9]) (bm_ 10 0) (by kernel_rfl) rfl rfl ⟨kc_ BK167 0, kc_ BK167 1, ((HB.out.cell (World.block_lt_of_cell? w _ hw168_0)).trans hw168_0)⟩ (fun hHeld => ?_); refine with_tabW platbookref01_Num.tab7 platbookref01_Num.bits7 (fun HT_ HW_ => ?_)
      generalize w11.drew = w12 at BK166 BK167 HB hx168_0 hHeld ⊢
      refine pu_ 0 (some 19) (bm_ 10 1) rfl HT_ ⟨by rfl, by intro w'; go_simp; with_reducible rfl⟩ ?_
      refine pu_ 2 (some 21) (bm_ 10 5) rfl HT_ ⟨by rfl, by intro w'; go_simp; with_reducible rfl⟩ ?_
      refine pu_ 3 (some 22) (bm_ 10 13) rfl HT_ ⟨by rfl, by intro w'; go_simp; with_reducible rfl⟩ ?_
      refine pu_ 4 (some 23) (bm_ 10 29) rfl HT_ ⟨by rfl, by intro w'; go_simp; with_reducible rfl⟩ ?_
      refine ta_ 1 (some 20) (bm_ 10 31) rfl HT_ HW_ ⟨by rfl, by rintro w' ⟨s0, s1, s2⟩; go_simp; with_reducible rfl⟩ hHeld ?_
      refine ta_ 5 (some 24) (bm_ 10 63) rfl HT_ HW_ ⟨by rfl, by rintro w' ⟨s0, s1, s2⟩; go_simp; with_reducible rfl⟩ hHeld ?_
      refine pu_ 6 (some 25) (bm_ 10 127) rfl HT_ ⟨by rfl, by intro w'; go_simp; with_reducible rfl⟩ ?_
      refine pu_ 7 (some 26) (bm_ 10 255) rfl HT_ ⟨by rfl, by intro w'; go_simp; with_reducible rfl⟩ ?_
      refine pu_ 8 (some 27) (bm_ 10 511) rfl HT_ ⟨by rfl, by intro w'; go_simp; with_reducible rfl⟩ ?_
      refine last_ (i := 9) (N := none) (bm_ 10 1023) rfl rfl (one_of HT_.out (by kernel_rfl)) (by decide) (fun K hK => ?_)
      have hs13 : w12.cell? ⟨gb167, 0, none⟩ = some (.int .u64 (IntKind.u64.wrap (x168000_1 * 2))) := kc_ BK167 0
      have hfs13 := blk_frozen BK167.out 0
      have hns13_0 := NB166_167.out
      have hms13_0 := NB167_166.out
      refine skip_ (w1 := ?_) (by rfl) rfl ?_ ?_
      rotate_left
      ·
       go_simp
       rfl
      refine hK.out _ _ ?_
      clear hK K
      refine done_ (done_of HT_.out (by kernel_rfl)) ?_
      try go_wp2
      go_roundg k1
      case measure => have := HK1.out; omega
      case rel => exact ⟨(wrap64 (x4_1 - 1)), (IntKind.u64.wrap ((IntKind.u64.wrap (x168000_1 * 2)) + (IntKind.u64.wrap (rd l0 x4_1)))), (by first | rfl | (simp; done) | (simp [*]; done)), H', ⟨by have := HK1.out; omega⟩, ⟨by refine pw_ ?_; refine blk_far ?_ NB166_167.out _; refine pw_ ?_; exact BK166.out⟩, ⟨by refine pw_ ?_; refine blk_put (cs := #[.int .u64 (IntKind.u64.wrap (x168000_1 * 2)), .int .u64 0]) ?_ 0 _ rfl; refine pw_ ?_; exact BK167.out⟩, ⟨pb_ HB⟩⟩
     ·
      rw [if_neg c8] at H
      exact absurd H (by simp)
    ·
     rw [if_neg c7] at H
     have c7b0 : decide (x4_1 < (l0.length : Int)) = false := decide_eq_false c7
     clear c7
     have H' := Aside0.mk H
     clear H
     have hnb14 := NB167_166.out
     have hnc14 := NB166_167.out
     obtain ⟨hcz15_0, hcz15_1, hfz15_0, hfz15_1⟩ := c2_ BK167
     go_wp2
     go_roundg k1
     case measure => have := HK1.out; omega
     case rel => exact ⟨(wrap64 (x4_1 - 1)), (IntKind.u64.wrap (x168000_1 * 2)), (by first | rfl | (simp; done) | (simp [*]; done)), H', ⟨by have := HK1.out; omega⟩, ⟨by refine pw_ ?_; refine blk_far ?_ NB166_167.out _; refine pw_ ?_; exact BK166.out⟩, ⟨by refine pw_ ?_; refine blk_put (cs := #[.int .u64 x168000_1, .int .u64 0]) ?_ 0 _ rfl; refine pw_ ?_; exact BK167.out⟩, ⟨pb_ HB⟩⟩
   ·
    rw [if_neg c6] at H
    have c6b0 : decide (64 ≤ x4_1) = false := decide_eq_false c6
    clear c6
    have H' := Aside0.mk H
    clear H
    go_wp2
    go_loopg [5] k1 (fun kq v5 w' => ∃ (x5_2 : Int) (x168001_2 : Int), v5 = .int .i64 x5_2 ∧ Aside0 (platbookref01_Num.l1 kq l0 x5_2 x168000_1 x168001_2 = some (r1, r2)) ∧ Aside0 (kq ≤ k1) ∧ Aside0 (w'.heap[gb166]? = some (.cells #[.int .u64 0, .int .u64 0] 24 (0, 0))) ∧ Aside0 (w'.heap[gb167]? = some (.cells #[.int .u64 x168000_1, .int .u64 x168001_2] 24 (0, 0))) ∧ Aside0 (Below w.heap.size w w'))
    case atStart => exact ⟨(63), (0), (by first | rfl | (simp; done) | (simp [*]; done)), H', ⟨Nat.le_refl _⟩, ⟨by refine pw_ ?_; exact BK166.out⟩, ⟨by refine pw_ ?_; exact BK167.out⟩, ⟨pb_ HB⟩⟩
    case round =>
     clear H'
     try clear c1
     try clear p1
     try clear q1
     try clear hx1
     try clear p2
     try clear c4
     try clear c6
     try clear c6b0
     try clear p6
     try clear c7
     try clear c7b0
     try clear c8
     try clear c8b0
     try clear c9
     try clear c10
     try clear c14
     try clear hcz10_0
     try clear hcz10_1
     try clear hcz15_0
     try clear hcz15_1
     try clear hcz5_0
     try clear hcz5_1
     try clear hfz10_0
     try clear hfz10_1
     try clear hfz15_0
     try clear hfz15_1
     try clear hfz5_0
     try clear hfz5_1
     try clear hx168_0
     try clear p168
     try clear p2
     try clear q168
     obtain ⟨x5_2, x168001_2, rfl, HA, HK2, BK166, BK167, HB⟩ := hrel
     cases gk with
     | zero => exact absurd HA.out (by simp [platbookref01_Num.l1])
     | succ k2 =>
      have H := HA.out
      clear HA
      simp only [platbookref01_Num.l1] at H
      by_cases c16 : x5_2 ≥ 0
      ·
       rw [if_pos c16] at H
       have c16b0 : decide (0 ≤ x5_2) = true := decide_eq_true c16
       clear c16
       by_cases c17 : x5_2 < (l0.length : Int)
       ·
        rw [if_pos c17] at H
        have c17b0 : decide (x5_2 < (l0.length : Int)) = true := decide_eq_true c17
        clear c17
        by_cases c18 : 0 ≤ x5_2
        ·
         rw [if_pos c18] at H
         have c18b0 : decide (0 ≤ x5_2) = true := decide_eq_true c18
         clear c18
         have H' := Aside0.mk H
         clear H
         have hnb19 := NB167_166.out
         have hnc19 := NB166_167.out
         obtain ⟨hcz20_0, hcz20_1, hfz20_0, hfz20_1⟩ := c2_ BK167
         try go_wp2
         have n0_ : Aside0 ((wr.setCell ⟨gb167, 1, none⟩ (.int .u64 (IntKind.u64.wrap (x168001_2 * 2)))).heap[gb166]? = some (.cells #[.int .u64 0, .int .u64 0] 24 (0, 0))) := ⟨by refine pw_ ?_; refine blk_far ?_ NB166_167.out _; refine pw_ ?_; exact BK166.out⟩
         have n1_ : Aside0 ((wr.setCell ⟨gb167, 1, none⟩ (.int .u64 (IntKind.u64.wrap (x168001_2 * 2)))).heap[gb167]? = some (.cells #[.int .u64 x168000_1, .int .u64 (IntKind.u64.wrap (x168001_2 * 2))] 24 (0, 0))) := ⟨by refine pw_ ?_; refine blk_put (cs := #[.int .u64 x168000_1, .int .u64 x168001_2]) ?_ 1 _ rfl; refine pw_ ?_; exact BK167.out⟩
         have n2_ : Aside0 (Below w.heap.size w (wr.setCell ⟨gb167, 1, none⟩ (.int .u64 (IntKind.u64.wrap (x168001_2 * 2))))) := ⟨pb_ HB⟩
         (try clear BK166)
         (try clear BK167)
         (try clear HB)
         generalize (wr.setCell ⟨gb167, 1, none⟩ (.int .u64 (IntKind.u64.wrap (x168001_2 * 2)))) = w21 at n0_ n1_ n2_ ⊢
         have BK166 := n0_
         have BK167 := n1_
         have HB := n2_
         clear n0_ n1_ n2_
         replace BK166 := Aside0.mk (blk_drew BK166.out)
         replace BK167 := Aside0.mk (blk_drew BK167.out)
         replace HB := Aside0.mk (below_drew1 HB.out)
         have p169 : 0 ≤ (x5_2 : Int) := of_decide_eq_true (by first | (with_reducible assumption) | assumption)
         have q169 : x5_2 < (l0.length : Int) := of_decide_eq_true (by first | (with_reducible assumption) | assumption)
         obtain ⟨ad169, e169, hx169_0⟩ := Kd.at_int HR0.out x5_2 p169 q169
         have hw169_0 := hx169_0
         cases e169
         replace hx169_0 := (HB.out.cell (World.block_lt_of_cell? w _ hx169_0)).trans hx169_0
         replace p169 := eq_true p169
         replace q169 := eq_true q169
         refine start_ (n := 10) (S := fun w' => w'.cell? ⟨gb167, 0, none⟩ = some (.int .u64 x168000_1) ∧ w'.cell? ⟨gb167, 1, none⟩ = some (.int .u64 (IntKind.u64.wrap (x168001_2 * 2))) ∧ w'.cell? (ad169.add (x5_2).toNat) = some (.int .i64 (rd l0 x5_2))) (ds := [9]) (bm_ 10 0) (by kernel_rfl) rfl rfl ⟨kc_ BK167 0, kc_ BK167 1, ((HB.out.cell (World.block_lt_of_cell? w _ hw169_0)).trans hw169_0)⟩ (fun hHeld => ?_); refine with_tabW platbookref01_Num.tab13 platbookref01_Num.bits13 (fun HT_ HW_ => ?_)
         generalize w21.drew = w22 at BK166 BK167 HB hx169_0 hHeld ⊢
         refine pu_ 0 (some 40) (bm_ 10 1) rfl HT_ ⟨by rfl, by intro w'; go_simp; with_reducible rfl⟩ ?_
         refine pu_ 2 (some 42) (bm_ 10 5) rfl HT_ ⟨by rfl, by intro w'; go_simp; with_reducible rfl⟩ ?_
         refine pu_ 3 (some 43) (bm_ 10 13) rfl HT_ ⟨by rfl, by intro w'; go_simp; with_reducible rfl⟩ ?_
         refine pu_ 4 (some 44) (bm_ 10 29) rfl HT_ ⟨by rfl, by intro w'; go_simp; with_reducible rfl⟩ ?_
         refine ta_ 1 (some 41) (bm_ 10 31) rfl HT_ HW_ ⟨by rfl, by rintro w' ⟨s0, s1, s2⟩; go_simp; with_reducible rfl⟩ hHeld ?_
         refine ta_ 5 (some 45) (bm_ 10 63) rfl HT_ HW_ ⟨by rfl, by rintro w' ⟨s0, s1, s2⟩; go_simp; with_reducible rfl⟩ hHeld ?_
         refine pu_ 6 (some 46) (bm_ 10 127) rfl HT_ ⟨by rfl, by intro w'; go_simp; with_reducible rfl⟩ ?_
         refine pu_ 7 (some 47) (bm_ 10 255) rfl HT_ ⟨by rfl, by intro w'; go_simp; with_reducible rfl⟩ ?_
         refine pu_ 8 (some 48) (bm_ 10 511) rfl HT_ ⟨by rfl, by intro w'; go_simp; with_reducible rfl⟩ ?_
         refine last_ (i := 9) (N := none) (bm_ 10 1023) rfl rfl (one_of HT_.out (by kernel_rfl)) (by decide) (fun K hK => ?_)
         have hs23 : w22.cell? ⟨gb167, 1, none⟩ = some (.int .u64 (IntKind.u64.wrap (x168001_2 * 2))) := kc_ BK167 1
         have hfs23 := blk_frozen BK167.out 1
         have hns23_0 := NB166_167.out
         have hms23_0 := NB167_166.out
         refine skip_ (w1 := ?_) (by rfl) rfl ?_ ?_
         rotate_left
         ·
          go_simp
          rfl
         refine hK.out _ _ ?_
         clear hK K
         refine done_ (done_of HT_.out (by kernel_rfl)) ?_
         try go_wp2
         go_roundg k2
         case measure => have := HK1.out; have := HK2.out; omega
         case rel => exact ⟨(wrap64 (x5_2 - 1)), (IntKind.u64.wrap ((IntKind.u64.wrap (x168001_2 * 2)) + (IntKind.u64.wrap (rd l0 x5_2)))), (by first | rfl | (simp; done) | (simp [*]; done)), H', ⟨by have := HK1.out; have := HK2.out; omega⟩, ⟨by refine pw_ ?_; refine blk_far ?_ NB166_167.out _; refine pw_ ?_; exact BK166.out⟩, ⟨by refine pw_ ?_; refine blk_put (cs := #[.int .u64 x168000_1, .int .u64 (IntKind.u64.wrap (x168001_2 * 2))]) ?_ 1 _ rfl; refine pw_ ?_; exact BK167.out⟩, ⟨pb_ HB⟩⟩
        ·
         rw [if_neg c18] at H
         exact absurd H (by simp)
       ·
        rw [if_neg c17] at H
        have c17b0 : decide (x5_2 < (l0.length : Int)) = false := decide_eq_false c17
        clear c17
        have H' := Aside0.mk H
        clear H
        have hnb24 := NB167_166.out
        have hnc24 := NB166_167.out
        obtain ⟨hcz25_0, hcz25_1, hfz25_0, hfz25_1⟩ := c2_ BK167
        go_wp2
        go_roundg k2
        case measure => have := HK1.out; have := HK2.out; omega
        case rel => exact ⟨(wrap64 (x5_2 - 1)), (IntKind.u64.wrap (x168001_2 * 2)), (by first | rfl | (simp; done) | (simp [*]; done)), H', ⟨by have := HK1.out; have := HK2.out; omega⟩, ⟨by refine pw_ ?_; refine blk_far ?_ NB166_167.out _; refine pw_ ?_; exact BK166.out⟩, ⟨by refine pw_ ?_; refine blk_put (cs := #[.int .u64 x168000_1, .int .u64 x168001_2]) ?_ 1 _ rfl; refine pw_ ?_; exact BK167.out⟩, ⟨pb_ HB⟩⟩
      ·
       rw [if_neg c16] at H
       have c16b0 : decide (0 ≤ x5_2) = false := decide_eq_false c16
       clear c16
       simp only [Option.some.injEq, Prod.mk.injEq] at H
       obtain ⟨rfl, rfl⟩ := H
       have hnb26 := NB167_166.out
       have hnc26 := NB166_167.out
       obtain ⟨hcz27_0, hcz27_1, hfz27_0, hfz27_1⟩ := c2_ BK167
       obtain ⟨hcz28_0, hcz28_1, hfz28_0, hfz28_1⟩ := c2_ BK166
       go_wp2
       refine bodyPost_ret (results_cell_row rfl _ _ gb166 24 #[.int .u64 x168000_1, .int .u64 x168001_2] (0, 0) _ rfl (by refine pw_ ?_; refine blk_put (cs := #[.int .u64 x168000_1, .int .u64 0]) ?_ 1 _ rfl; refine pw_ ?_; refine blk_put (cs := #[.int .u64 0, .int .u64 0]) ?_ 0 _ rfl; refine pw_ ?_; exact BK166.out) Tryz.underlying24 rfl (by kernel_rfl)) rfl ?_
       exact ⟨by first | rfl | (simp [errW_none, errW_some] <;> rfl) | (simp [*, errW_none, errW_some] <;> rfl), pb_ HB⟩

def platbookref03_Addr.l0 : Nat → Bool → List Int → List Int → Int → Option (Bool × Int × Int)
 | 0, _, _, _, _ => none
 | k + 1, x0, x1, x5, x6 => if x6 ≥ 0 then (if 0 ≤ x6 then (if x6 < (x1.length : Int) then (if x5.length < 17592186044416 then (platbookref03_Addr.l0 k x0 x1 (x5 ++ [rd x1 x6]) (wrap64 (x6 - 1))) else (none)) else (none)) else (none)) else ((platbookref01_Num.f k x5).bind fun bt178 => (some (x0, bt178.1, bt178.2)))
def platbookref03_Addr.f (k : Nat) (a0 : Bool) (l1 : List Int) : Option (Bool × Int × Int) := platbookref03_Addr.l0 k a0 l1 (([] : List Int)) (wrap64 ((l1.length : Int) - 1))
set_option maxHeartbeats 8000000 in
set_option maxRecDepth 100000 in
theorem platbookref03_Addr.calls (k : Nat) (a0 : Bool) (A1 : Option Addr) (c1 : Nat) (l1 : List Int) (r1 : Bool) (r2 : Int) (r3 : Int) (w : World) (hr1 : Kd.C (Kd.int .i64) w A1 l1.length l1) (hc1 : l1.length ≤ c1) (h : platbookref03_Addr.f k a0 l1 = some (r1, r2, r3)) :
  Calls Tryz.prog 93 #[.bool a0, .slice A1 l1.length c1] w fun e w' => e = .returned (.agg #[.bool r1, .int .u64 r2, .int .u64 r3]) ∧ Below w.heap.size w w' := by
 have hu26 := Tryz.underlying26
 have HR1 := Aside0.mk hr1
 have HC1 := Aside0.mk hc1
 clear hr1 hc1
 have HB := Aside0.mk (Below.refl w.heap.size w)
 have H : (platbookref03_Addr.l0 k a0 l1 (([] : List Int)) (wrap64 ((l1.length : Int) - 1))) = some (r1, r2, r3) := h
 clear h
 obtain ⟨y171, hy171⟩ : ∃ y_ : List Int, y_ = (([] : List Int)) := ⟨_, rfl⟩
 replace H : (platbookref03_Addr.l0 k a0 l1 y171 (wrap64 ((l1.length : Int) - 1))) = some (r1, r2, r3) := by first | (rw [hy171]; with_reducible exact H) | (have H2_ := (Option.bind_some _ _).symm.trans H; rw [hy171]; with_reducible exact H2_) | (have H2_ := (Option.bind_some _ _).symm.trans H; with_reducible exact H2_) | with_reducible exact H | (rw [hy171]; exact H) | exact H
 have Ny171 := Aside0.mk hy171
 clear hy171
 have H' := Aside0.mk H
 clear H
 go_enter Tryz.func93, Tryz.ntmps93
 go_wp2_with (first | ((with_reducible refine gate_dst (N := 4) rfl ?_); refine bx_ 4 #[.bool false, .int .u64 0, .int .u64 0] 26 ?_; intro gb170 hg w3 hbox hb; have BK170 := Aside0.mk (hbox); have GW170 := gw_ HB hg; have GE170 := gw_ HB hg; replace HB := bs_ HB hb; clear hb hbox hg) | ((with_reducible refine gate_dst (N := 7) rfl ?_); refine Kd.R_lit (Kd.int .i64) _ 3 ?hg (N := 7) ?hd (xs := ([] : List Int)) (inner := []) (ok := fun _ => True) (okp := fun _ => True) ?hr ?hp (fun _ hk => hk) trivial (Below.refl _ _) (Nat.le_refl _) (by simp) ?_; (case hd => rfl); (case hg => rfl); (case hr => first | (go_simp; done) | (go_simp; rfl)); (case hp => exact (Reps.none _ _)); intro v172 w4 ho5 hb hg_ hnew_; clear hg_ hnew_; (first | rw [← Ny171.out] at ho5 | (simp only [Int.reduceToNat] at ho5; rw [← Ny171.out] at ho5)); have HO173 := Aside0.mk (Kd.R_lower ho5 (below_size (pb_ HB))); replace BK170 := bb_ BK170 hb; replace HB := bs_ HB hb; clear hb ho5))
 go_loopg [5, 6] k (fun kq v5 v6 w' => ∃ (x5_1 : List Int) (x6_1 : Int), v6 = .int .i64 x6_1 ∧ Aside0 (platbookref03_Addr.l0 kq a0 l1 x5_1 x6_1 = some (r1, r2, r3)) ∧ Aside0 (kq ≤ k) ∧ Aside0 (Kd.R (Kd.int .i64) 3 w' w.heap.size (fun _ => True) v5 x5_1) ∧ Aside0 (w'.heap[gb170]? = some (.cells #[.bool false, .int .u64 0, .int .u64 0] 26 (0, 0))) ∧ Aside0 (Below w.heap.size w w'))
 case atStart => exact ⟨(y171), (wrap64 ((l1.length : Int) - 1)), (by first | rfl | (simp; done) | (simp [*]; done)), H', ⟨Nat.le_refl _⟩, ⟨by (with_reducible repeat (first | apply Kd.R_alloc | apply Kd.R_drewN | apply Kd.R_drew)); exact HO173.out⟩, ⟨by refine pw_ ?_; exact BK170.out⟩, ⟨pb_ HB⟩⟩
 case round =>
  clear H'
  try clear c1
  try clear p2
  obtain ⟨x5_1, x6_1, rfl, HA, HK1, HO_5, BK170, HB⟩ := hrel
  cases gk with
  | zero => exact absurd HA.out (by simp [platbookref03_Addr.l0])
  | succ k1 =>
   have H := HA.out
   clear HA
   simp only [platbookref03_Addr.l0] at H
   by_cases c6 : x6_1 ≥ 0
   ·
    rw [if_pos c6] at H
    have c6b0 : decide (0 ≤ x6_1) = true := decide_eq_true c6
    clear c6
    by_cases c7 : 0 ≤ x6_1
    ·
     rw [if_pos c7] at H
     have c7b0 : decide (0 ≤ x6_1) = true := decide_eq_true c7
     clear c7
     by_cases c8 : x6_1 < (l1.length : Int)
     ·
      rw [if_pos c8] at H
      have c8b0 : decide (x6_1 < (l1.length : Int)) = true := decide_eq_true c8
      clear c8
      by_cases c9 : x5_1.length < 17592186044416
      ·
       rw [if_pos c9] at H
       have LMc9 := Aside0.mk c9
       clear c9
       obtain ⟨y175, hy175⟩ : ∃ y_ : List Int, y_ = (x5_1 ++ [rd l1 x6_1]) := ⟨_, rfl⟩
       replace H : (platbookref03_Addr.l0 k1 a0 l1 y175 (wrap64 (x6_1 - 1))) = some (r1, r2, r3) := by first | (rw [hy175]; with_reducible exact H) | (have H2_ := (Option.bind_some _ _).symm.trans H; rw [hy175]; with_reducible exact H2_) | (have H2_ := (Option.bind_some _ _).symm.trans H; with_reducible exact H2_) | with_reducible exact H | (rw [hy175]; exact H) | exact H
       have Ny175 := Aside0.mk hy175
       clear hy175
       have H' := Aside0.mk H
       clear H
       have p174 : 0 ≤ (x6_1 : Int) := of_decide_eq_true (by first | (with_reducible assumption) | assumption)
       have q174 : x6_1 < (l1.length : Int) := of_decide_eq_true (by first | (with_reducible assumption) | assumption)
       obtain ⟨ad174, e174, hx174_0⟩ := Kd.at_int HR1.out x6_1 p174 q174
       cases e174
       replace hx174_0 := (HB.out.cell (World.block_lt_of_cell? w _ hx174_0)).trans hx174_0
       replace p174 := eq_true p174
       replace q174 := eq_true q174
       go_wp2_with (first | ((with_reducible refine gate_builtin (b := .append) (xs := #[.tmp 15, .tmp 20]) rfl ?_); at_builtin; refine Kd.R_append (Kd.int .i64) (w0 := w) w.heap.size rfl (.tmp 15) (.tmp 20) 91 3 (.int .i64 0) 8 rfl Tryz.underlying91 info3 rfl (by decide) (by omega) u5 x5_1 (rd l1 x6_1) [.int .i64 (rd l1 x6_1)] (fun _ => True) (fun _ => False) rfl rfl ?aP (fun _ hk => hk.elim) ?aF ?aO ?aB ?aS ?aL ?_; (case aP => exact rfl); (case aB => exact (pb_ HB)); (case aF => exact (fun _ _ => trivial)); (case aO => exact (by (with_reducible repeat (first | apply Kd.R_alloc | apply Kd.R_drewN | apply Kd.R_drew)); exact HO_5.out)); (case aS => exact (below_size (pb_ HB))); (case aL => have := LMc9.out; omega); intro v176 w10 ho hb hg hat; rw [← Ny175.out] at ho; have HO177 := Aside0.mk (ho); replace BK170 := Aside0.mk (blk_grown (g := gb170) (o := .cells #[.bool false, .int .u64 0, .int .u64 0] 26 (0, 0)) (pk_ BK170) hg (Kd.R_ne HO_5.out BK170.out (by decide))); replace HB := Aside0.mk (hb); clear HO_5; clear ho hb hg hat))
       go_roundg k1
       case measure => have := HK1.out; omega
       case rel => exact ⟨(y175), (wrap64 (x6_1 - 1)), (by first | rfl | (simp; done) | (simp [*]; done)), H', ⟨by have := HK1.out; omega⟩, ⟨by (with_reducible repeat (first | apply Kd.R_alloc | apply Kd.R_drewN | apply Kd.R_drew)); exact HO177.out⟩, ⟨by refine pw_ ?_; exact BK170.out⟩, ⟨pb_ HB⟩⟩
      ·
       rw [if_neg c9] at H
       exact absurd H (by simp)
     ·
      rw [if_neg c8] at H
      exact absurd H (by simp)
    ·
     rw [if_neg c7] at H
     exact absurd H (by simp)
   ·
    rw [if_neg c6] at H
    have c6b0 : decide (0 ≤ x6_1) = false := decide_eq_false c6
    clear c6
    replace H := Option.bind_eq_some_iff.mp H
    obtain ⟨⟨t178, t179⟩, A110, H⟩ := H
    replace H : (some (a0, t178, t179)) = some (r1, r2, r3) := H
    have A11 := Aside0.mk A110
    clear A110
    simp only [Option.some.injEq, Prod.mk.injEq] at H
    obtain ⟨rfl, rfl, rfl⟩ := H
    obtain ⟨Ao12, co12, eo12⟩ := Kd.R_slice HO_5.out
    subst eo12
    go_wp2_with (first | ((with_reducible refine gate_callee (f := 107) rfl ?_); refine gl_ (some 24) Tryz.func107 #[.slice Ao12 x5_1.length co12] ?_; (with_reducible refine (platbookref01_Num.calls k1 _ _ x5_1 t178 t179 _ ?side1 ?side2 A11.out).mono ?_); (case side1 => repeat (first | exact (Kd.R_reads' HO_5.out).2.2 | (with_reducible refine Kd.C_alloc ?_ _) | (with_reducible refine Kd.C_drewN ?_ _) | (with_reducible refine Kd.C_drew ?_))); (case side2 => exact (Kd.R_reads' HO_5.out).2.1); rintro e w13 ⟨rfl, hb⟩; refine ⟨_, rfl, ?_⟩; replace HO_5 := Aside0.mk (Kd.R_below (by (with_reducible repeat (first | apply Kd.R_alloc | apply Kd.R_drewN | apply Kd.R_drew)); exact HO_5.out) hb); replace BK170 := bb_ BK170 hb; replace HB := bs_ HB hb; (try clear hb); (try clear hb2); (try clear hk); (try clear hi); obtain ⟨hcz14_0, hcz14_1, hcz14_2, hfz14_0, hfz14_1, hfz14_2⟩ := c3_ BK170))
    refine bodyPost_ret (results_cell_row rfl _ _ gb170 26 #[.bool a0, .int .u64 t178, .int .u64 t179] (0, 0) _ rfl (by refine pw_ ?_; refine blk_put (cs := #[.bool a0, .int .u64 t178, .int .u64 0]) ?_ 2 _ rfl; refine pw_ ?_; refine blk_put (cs := #[.bool a0, .int .u64 0, .int .u64 0]) ?_ 1 _ rfl; refine pw_ ?_; refine blk_put (cs := #[.bool false, .int .u64 0, .int .u64 0]) ?_ 0 _ rfl; refine pw_ ?_; exact BK170.out) Tryz.underlying26 rfl (by kernel_rfl)) rfl ?_
    exact ⟨by first | rfl | (simp [errW_none, errW_some] <;> rfl) | (simp [*, errW_none, errW_some] <;> rfl), pb_ HB⟩

end Go.Proofs.YtgdgklibilddgaaGreatDoor.PPr

namespace Go.Proofs.YtgdgklibilddgaaGreatDoor.PPr
open Go.RowKit Go.Proofs.YtgdgklibilddgaaGreatDoorW.PrintWords Go.Proofs.YtgdgklibilddgaaGreatDoorW.PrintLast Go.Proofs.YtgdgklibilddgaaGreatDoorW.PrintMore
attribute [local go_sem] max2_int min2_int max_two min_two max_three min_three max_four min_four   -- for this text's walks alone

theorem eqA24 (d : Nat) (w : World) (x0 y0 : Int) (x1 y1 : Int) :
    (Op.equalIn (d + 2) 24 (.agg #[.int .u64 x0, .int .u64 x1]) (.agg #[.int .u64 y0, .int .u64 y1])).run Tryz.prog w = .ok (x0 == y0 && (x1 == y1)) w := by
  refine eqA_of Tryz.underlying24 (by kernel_rfl) ?_
  refine eqf_cons (by rfl) (by go_simp; rfl) (by go_simp; rfl) (by go_simp) ?_
  exact eqf_last (by rfl) (by go_simp; rfl) (by go_simp; rfl) (by go_simp)
end Go.Proofs.YtgdgklibilddgaaGreatDoor.PPr

namespace Go.Proofs.YtgdgklibilddgaaGreatDoor.PPr
open Go.RowKit Go.Proofs.YtgdgklibilddgaaGreatDoorW.PrintWords Go.Proofs.YtgdgklibilddgaaGreatDoorW.PrintLast Go.Proofs.YtgdgklibilddgaaGreatDoorW.PrintMore
attribute [local go_sem] max2_int min2_int max_two min_two max_three min_three max_four min_four   -- for this text's walks alone

theorem eqA26 (d : Nat) (w : World) (x0 y0 : Bool) (x1 y1 : Int) (x2 y2 : Int) :
    (Op.equalIn (d + 3) 26 (.agg #[.bool x0, .int .u64 x1, .int .u64 x2]) (.agg #[.bool y0, .int .u64 y1, .int .u64 y2])).run Tryz.prog w = .ok (x0 == y0 && ((x1 == y1 && (x2 == y2)))) w := by
  refine eqA_of Tryz.underlying26 (by kernel_rfl) ?_
  refine eqf_cons (by rfl) (by go_simp; rfl) (by go_simp; rfl) (by go_simp) ?_
  exact eqf_last (by rfl) (by go_simp) (by go_simp) (eqA24 (d + 0) w _ _ _ _)
end Go.Proofs.YtgdgklibilddgaaGreatDoor.PPr

namespace Go.Proofs.YtgdgklibilddgaaGreatDoor.PPr
open Go.RowKit Go.Proofs.YtgdgklibilddgaaGreatDoorW.PrintWords Go.Proofs.YtgdgklibilddgaaGreatDoorW.PrintLast Go.Proofs.YtgdgklibilddgaaGreatDoorW.PrintMore
attribute [local go_sem] max2_int min2_int max_two min_two max_three min_three max_four min_four   -- for this text's walks alone

attribute [local go_sem high] eqA26
def platbookref03_Filled.l0 : Nat → Int → List Int → Int → Bool → Int → Int → Option (Bool × Int × Int)
 | 0, _, _, _, _, _, _ => none
 | k + 1, x2, x7, x8, x181000, x181001, x181002 => if x8 < (x7.length : Int) then (if 0 ≤ x8 then (platbookref03_Filled.l0 k x2 (x7.set (x8 : Int).toNat x2) (wrap64 (x8 + 1)) x181000 x181001 x181002) else (none)) else ((platbookref03_Addr.f k x181000 x7).bind fun bt186 => (some (bt186.1, bt186.2.1, bt186.2.2)))
def platbookref03_Filled.f (k : Nat) (a0_0 : Bool) (a0_1 : Int) (a0_2 : Int) (a1 : Int) (a2 : Int) : Option (Bool × Int × Int) := (platbookref03_Row.f k a0_0 a0_1 a0_2).bind fun t182 => (platbookref03_Filled.l0 k a2 t182 a1 a0_0 a0_1 a0_2)
set_option maxHeartbeats 8000000 in
set_option maxRecDepth 100000 in
theorem platbookref03_Filled.calls (k : Nat) (a0_0 : Bool) (a0_1 : Int) (a0_2 : Int) (a1 : Int) (a2 : Int) (r1 : Bool) (r2 : Int) (r3 : Int) (w : World) (h : platbookref03_Filled.f k a0_0 a0_1 a0_2 a1 a2 = some (r1, r2, r3)) :
  Calls Tryz.prog 78 #[.agg #[.bool a0_0, .int .u64 a0_1, .int .u64 a0_2], .int .i64 a1, .int .i64 a2] w fun e w' => e = .returned (.agg #[.bool r1, .int .u64 r2, .int .u64 r3]) ∧ Below w.heap.size w w' := by
 have hu26 := Tryz.underlying26
 have HB := Aside0.mk (Below.refl w.heap.size w)
 have H : ((platbookref03_Row.f k a0_0 a0_1 a0_2).bind fun t182 => (platbookref03_Filled.l0 k a2 t182 a1 a0_0 a0_1 a0_2)) = some (r1, r2, r3) := h
 clear h
 replace H := Option.bind_eq_some_iff.mp H
 obtain ⟨t182, A40, H⟩ := H
 replace H : (platbookref03_Filled.l0 k a2 t182 a1 a0_0 a0_1 a0_2) = some (r1, r2, r3) := H
 have A4 := Aside0.mk A40
 clear A40
 have H' := Aside0.mk H
 clear H
 go_enter Tryz.func78, Tryz.ntmps78
 go_wp2_with (first | ((with_reducible refine gate_dst (N := 3) rfl ?_); refine bx_ 3 #[.bool a0_0, .int .u64 a0_1, .int .u64 a0_2] 26 ?_; intro gb180 hg w5 hbox hb; have BK180 := Aside0.mk (hbox); have GW180 := gw_ HB hg; have GE180 := gw_ HB hg; replace HB := bs_ HB hb; clear hb hbox hg) | ((with_reducible refine gate_dst (N := 6) rfl ?_); refine bx_ 6 #[.bool false, .int .u64 0, .int .u64 0] 26 ?_; intro gb181 hg w6 hbox hb; have BK181 := Aside0.mk (hbox); have GW181 := gw_ HB hg; have GE181 := gw_ HB hg; have NB180_181 := nl_ BK180 hg; have NB181_180 := ng_ BK180 hg; replace BK180 := bb_ BK180 hb; replace HB := bs_ HB hb; clear hb hbox hg; have hnb7 := NB180_181.out; have hnc7 := NB181_180.out; obtain ⟨hcz8_0, hcz8_1, hcz8_2, hfz8_0, hfz8_1, hfz8_2⟩ := c3_ BK180) | ((with_reducible refine gate_callee (f := 83) rfl ?_); refine gl_ (some 10) Tryz.func83 #[.agg #[.bool a0_0, .int .u64 a0_1, .int .u64 a0_2]] ?_; (with_reducible refine (platbookref03_Row.calls k a0_0 a0_1 a0_2 t182 _ A4.out).mono ?_); rintro e w9 ⟨v183, rfl, ho0, hb⟩; refine ⟨_, rfl, ?_⟩; have HO184 := Aside0.mk (Kd.R_lower ho0 (below_size (pb_ HB))); replace BK180 := bb_ BK180 hb; replace BK181 := bb_ BK181 hb; replace HB := bs_ HB hb; (try clear hb); (try clear hb2); (try clear hk); (try clear hi); (try clear ho0)))
 go_loopg [8] k (fun kq v8 w' => ∃ (x7_1 : List Int) (x8_1 : Int), v8 = .int .i64 x8_1 ∧ Aside0 (platbookref03_Filled.l0 kq a2 x7_1 x8_1 a0_0 a0_1 a0_2 = some (r1, r2, r3)) ∧ Aside0 (kq ≤ k) ∧ Aside0 (Kd.R (Kd.int .i64) 3 w' w.heap.size (fun _ => True) v183 x7_1) ∧ Aside0 (w'.heap[gb180]? = some (.cells #[.bool a0_0, .int .u64 a0_1, .int .u64 a0_2] 26 (0, 0))) ∧ Aside0 (w'.heap[gb181]? = some (.cells #[.bool false, .int .u64 0, .int .u64 0] 26 (0, 0))) ∧ Aside0 (Below w.heap.size w w'))
 case atStart => exact ⟨(t182), (a1), (by first | rfl | (simp; done) | (simp [*]; done)), H', ⟨Nat.le_refl _⟩, ⟨by (with_reducible repeat (first | apply Kd.R_alloc | apply Kd.R_drewN | apply Kd.R_drew)); exact HO184.out⟩, ⟨by refine pw_ ?_; exact BK180.out⟩, ⟨by refine pw_ ?_; exact BK181.out⟩, ⟨pb_ HB⟩⟩
 case round =>
  clear H'
  try clear p2
  try clear c7
  try clear c8
  try clear hcz8_0
  try clear hcz8_1
  try clear hcz8_2
  try clear hfz8_0
  try clear hfz8_1
  try clear hfz8_2
  obtain ⟨x7_1, x8_1, rfl, HA, HK1, HO_7, BK180, BK181, HB⟩ := hrel
  cases gk with
  | zero => exact absurd HA.out (by simp [platbookref03_Filled.l0])
  | succ k1 =>
   have H := HA.out
   clear HA
   simp only [platbookref03_Filled.l0] at H
   by_cases c10 : x8_1 < (x7_1.length : Int)
   ·
    rw [if_pos c10] at H
    have c10b0 : decide (x8_1 < (x7_1.length : Int)) = true := decide_eq_true c10
    clear c10
    by_cases c11 : 0 ≤ x8_1
    ·
     rw [if_pos c11] at H
     have c11b0 : decide (0 ≤ x8_1) = true := decide_eq_true c11
     clear c11
     obtain ⟨y185, hy185⟩ : ∃ y_ : List Int, y_ = (x7_1.set (x8_1 : Int).toNat a2) := ⟨_, rfl⟩
     replace H : (platbookref03_Filled.l0 k1 a2 y185 (wrap64 (x8_1 + 1)) a0_0 a0_1 a0_2) = some (r1, r2, r3) := by first | (rw [hy185]; with_reducible exact H) | (have H2_ := (Option.bind_some _ _).symm.trans H; rw [hy185]; with_reducible exact H2_) | (have H2_ := (Option.bind_some _ _).symm.trans H; with_reducible exact H2_) | with_reducible exact H | (rw [hy185]; exact H) | exact H
     have Ny185 := Aside0.mk hy185
     clear hy185
     have H' := Aside0.mk H
     clear H
     obtain ⟨Ao13, co13, eo13⟩ := Kd.R_slice HO_7.out
     subst eo13
     have p12 : 0 ≤ (x8_1 : Int) := of_decide_eq_true (by first | (with_reducible assumption) | assumption)
     have q12 : (x8_1 : Int) < ((x7_1.length : Int) : Int) := of_decide_eq_true (by first | (with_reducible assumption) | assumption)
     obtain ⟨go12, co12, eo12, gb12, gl12, cl12, HG12⟩ := Kd.R_form HO_7.out (by omega)
     (first | cases eo12 | (injection eo12 with ea_ en_ ec_; (first | subst ea_ | (injection ea_ with ea_; subst ea_)); subst ec_; clear en_))
     have GB12 := Aside0.mk gb12
     have GG12 := Aside0.mk HG12
     clear gb12 gl12 HG12
     obtain ⟨hx12_0, hf12_0⟩ := Kd.R_celln 0 HO_7.out (x8_1 : Int) p12 q12
     replace p12 := eq_true p12
     replace q12 := eq_true q12
     have HP14 := Kd.R_putg HO_7.out (x8_1 : Int) a2
     go_wp2_with (first | ((with_reducible refine gate_store (t := 3) (p := 21) rfl ?_); refine store_event (t := 3) (p := 21) (v := ?vo_w15) (w1 := (wr.setCell ⟨go12, (x8_1 : Int).toNat, none⟩ (.int .i64 a2))) ?hg ?ho ?hn ?hr ?_; (case ho => rfl); (case hg => rfl); (case hn => rfl); (case hr => first | (go_simp; done) | (go_simp; rfl)); intro w15 hw; have hg : wr.grownBy w15 (some go12) := (by rw [hw]; exact HP14.2); have hp_ : Kd.R (Kd.int .i64) 3 w15 w.heap.size (fun _ => True) (.slice (some ⟨go12, 0, none⟩) x7_1.length co13) y185 := (by rw [hw, Ny185.out]; exact HP14.1); clear HP14; have n0_ := Aside0.mk (hp_); have n1_ := Aside0.mk (blk_grown (g := gb180) (o := .cells #[.bool a0_0, .int .u64 a0_1, .int .u64 a0_2] 26 (0, 0)) (pk_ BK180) hg (Kd.R_ne HO_7.out BK180.out (by decide))); have n2_ := Aside0.mk (blk_grown (g := gb181) (o := .cells #[.bool false, .int .u64 0, .int .u64 0] 26 (0, 0)) (pk_ BK181) hg (Kd.R_ne HO_7.out BK181.out (by decide))); have n3_ := Aside0.mk ((by rw [hw]; exact below_set (HB.out) GB12.out : Below w.heap.size w w15)); clear HO_7; clear BK180; clear BK181; clear HB; have HO_7 := n0_; have BK180 := n1_; have BK181 := n2_; have HB := n3_; clear n0_ n1_ n2_ n3_; clear hg hw hp_))
     go_roundg k1
     case measure => have := HK1.out; omega
     case rel => exact ⟨(y185), (wrap64 (x8_1 + 1)), (by first | rfl | (simp; done) | (simp [*]; done)), H', ⟨by have := HK1.out; omega⟩, ⟨by (with_reducible repeat (first | apply Kd.R_alloc | apply Kd.R_drewN | apply Kd.R_drew)); exact HO_7.out⟩, ⟨by refine pw_ ?_; exact BK180.out⟩, ⟨by refine pw_ ?_; exact BK181.out⟩, ⟨pb_ HB⟩⟩
    ·
     rw [if_neg c11] at H
     exact absurd H (by simp)
   ·
    rw [if_neg c10] at H
    have c10b0 : decide (x8_1 < (x7_1.length : Int)) = false := decide_eq_false c10
    clear c10
    replace H := Option.bind_eq_some_iff.mp H
    obtain ⟨⟨t186, t187, t188⟩, A160, H⟩ := H
    replace H : (some (t186, t187, t188)) = some (r1, r2, r3) := H
    have A16 := Aside0.mk A160
    clear A160
    simp only [Option.some.injEq, Prod.mk.injEq] at H
    obtain ⟨rfl, rfl, rfl⟩ := H
    obtain ⟨Ao17, co17, eo17⟩ := Kd.R_slice HO_7.out
    subst eo17
    have hnb18 := NB180_181.out
    have hnc18 := NB181_180.out
    obtain ⟨hcz19_0, hcz19_1, hcz19_2, hfz19_0, hfz19_1, hfz19_2⟩ := c3_ BK180
    go_wp2_with (first | ((with_reducible refine gate_callee (f := 93) rfl ?_); refine gl_ (some 25) Tryz.func93 #[.bool a0_0, .slice Ao17 x7_1.length co17] ?_; (with_reducible refine (platbookref03_Addr.calls k1 a0_0 _ _ x7_1 t186 t187 t188 _ ?side1 ?side2 A16.out).mono ?_); (case side1 => repeat (first | exact (Kd.R_reads' HO_7.out).2.2 | (with_reducible refine Kd.C_alloc ?_ _) | (with_reducible refine Kd.C_drewN ?_ _) | (with_reducible refine Kd.C_drew ?_))); (case side2 => exact (Kd.R_reads' HO_7.out).2.1); rintro e w20 ⟨rfl, hb⟩; refine ⟨_, rfl, ?_⟩; replace HO_7 := Aside0.mk (Kd.R_below (by (with_reducible repeat (first | apply Kd.R_alloc | apply Kd.R_drewN | apply Kd.R_drew)); exact HO_7.out) hb); replace BK180 := bb_ BK180 hb; replace BK181 := bb_ BK181 hb; replace HB := bs_ HB hb; (try clear hb); (try clear hb2); (try clear hk); (try clear hi); obtain ⟨hcz21_0, hcz21_1, hcz21_2, hfz21_0, hfz21_1, hfz21_2⟩ := c3_ BK181))
    refine bodyPost_ret (results_cell_row rfl _ _ gb181 26 #[.bool t186, .int .u64 t187, .int .u64 t188] (0, 0) _ rfl (by refine pw_ ?_; refine blk_put (cs := #[.bool t186, .int .u64 t187, .int .u64 0]) ?_ 2 _ rfl; refine pw_ ?_; refine blk_put (cs := #[.bool t186, .int .u64 0, .int .u64 0]) ?_ 1 _ rfl; refine pw_ ?_; refine blk_put (cs := #[.bool false, .int .u64 0, .int .u64 0]) ?_ 0 _ rfl; refine pw_ ?_; exact BK181.out) Tryz.underlying26 rfl (by kernel_rfl)) rfl ?_
    exact ⟨by first | rfl | (simp [errW_none, errW_some] <;> rfl) | (simp [*, errW_none, errW_some] <;> rfl), pb_ HB⟩

def platbookref03_Right.f (k : Nat) (a0_0 : Bool) (a0_1 : Int) (a0_2 : Int) (a0_3 : Int) : Option (Bool) := (platbookref02_Right.f a0_0 a0_1 a0_2).bind fun t190 => (if t190 = true then (if a0_3 < 0 then (some false) else ((platbookref02_Width.f a0_0 a0_1 a0_2).bind fun t191 => (if a0_3 > t191 then (some false) else ((platbookref03_Filled.f k a0_0 a0_1 a0_2 a0_3 0).bind fun bt192 => (some (bt192.1 == a0_0 && ((bt192.2.1 == a0_1 && (bt192.2.2 == a0_2))))))))) else (some false))
def platbookref03_Right.T1 : Bool × List (List Nat × List Nat) := (true, [([], []), ([0], [0]), ([1], [1]), ([2], [2]), ([3, 2], [3]), ([4], [4]), ([5, 4], [4, 5]), ([6, 4], [4, 6]), ([4, 7], [4, 7]), ([8, 4], [8]), ([9], [9]), ([10, 9], [9, 10]), ([9], [9]), ([12, 9], [9, 12]), ([13, 9, 9], [9, 13]), ([11, 14, 9], [9, 11, 14]), ([9, 15], [9, 15])])
def platbookref03_Right.B1 : List Nat := [0, 1, 3, 7, 15, 31, 63, 127, 255, 511, 1023, 2047, 1023, 5119, 13311, 32767, 65535]
theorem platbookref03_Right.tab1 : rtab .any (opsOf Tryz.f29 1) = platbookref03_Right.T1 := by kernel_rfl
theorem platbookref03_Right.bits1 : waitsOk platbookref03_Right.T1.2 platbookref03_Right.B1 = true := by kernel_rfl
def platbookref03_Right.T3 : Bool × List (List Nat × List Nat) := (true, [([], []), ([0], [0]), ([], []), ([2], [2]), ([1, 3], [1, 3]), ([], []), ([5], [5]), ([4, 6], [4, 6]), ([7, 4, 0, 1, 2, 3, 4, 5, 6, 7], [7])])
def platbookref03_Right.B3 : List Nat := [0, 1, 0, 4, 15, 0, 32, 127, 255]
theorem platbookref03_Right.tab3 : rtab .any (opsOf Tryz.f29 3) = platbookref03_Right.T3 := by kernel_rfl
theorem platbookref03_Right.bits3 : waitsOk platbookref03_Right.T3.2 platbookref03_Right.B3 = true := by kernel_rfl
set_option maxHeartbeats 8000000 in
set_option maxRecDepth 100000 in
theorem platbookref03_Right.calls (k : Nat) (a0_0 : Bool) (a0_1 : Int) (a0_2 : Int) (a0_3 : Int) (r : Bool) (w : World) (h : platbookref03_Right.f k a0_0 a0_1 a0_2 a0_3 = some r) :
  Calls Tryz.prog 29 #[.agg #[.bool a0_0, .int .u64 a0_1, .int .u64 a0_2, .int .i64 a0_3]] w fun e w' => e = .returned (.bool r) ∧ Below w.heap.size w w' := by
 have hu38 := Tryz.underlying38
 have hu26 := Tryz.underlying26
 have HB := Aside0.mk (Below.refl w.heap.size w)
 have H : ((platbookref02_Right.f a0_0 a0_1 a0_2).bind fun t190 => (if t190 = true then (if a0_3 < 0 then (some false) else ((platbookref02_Width.f a0_0 a0_1 a0_2).bind fun t191 => (if a0_3 > t191 then (some false) else ((platbookref03_Filled.f k a0_0 a0_1 a0_2 a0_3 0).bind fun bt192 => (some (bt192.1 == a0_0 && ((bt192.2.1 == a0_1 && (bt192.2.2 == a0_2))))))))) else (some false))) = some r := h
 clear h
 replace H := Option.bind_eq_some_iff.mp H
 obtain ⟨t190, A20, H⟩ := H
 replace H : (if t190 = true then (if a0_3 < 0 then (some false) else ((platbookref02_Width.f a0_0 a0_1 a0_2).bind fun t191 => (if a0_3 > t191 then (some false) else ((platbookref03_Filled.f k a0_0 a0_1 a0_2 a0_3 0).bind fun bt192 => (some (bt192.1 == a0_0 && ((bt192.2.1 == a0_1 && (bt192.2.2 == a0_2))))))))) else (some false)) = some r := H
 have A2 := Aside0.mk A20
 clear A20
 by_cases c3 : t190 = true
 ·
  subst c3
  rw [if_pos rfl] at H
  by_cases c4 : a0_3 < 0
  ·
   rw [if_pos c4] at H
   have c4b0 : decide (a0_3 < 0) = true := decide_eq_true c4
   clear c4
   obtain rfl := Option.some.inj H
   go_enter Tryz.func29, Tryz.ntmps29
   try go_wp2_with (first | ((with_reducible refine gate_dst (N := 1) rfl ?_); refine bx_ 1 #[.bool a0_0, .int .u64 a0_1, .int .u64 a0_2, .int .i64 a0_3] 38 ?_; intro gb189 hg w5 hbox hb; have BK189 := Aside0.mk (hbox); have GW189 := gw_ HB hg; have GE189 := gw_ HB hg; replace HB := bs_ HB hb; clear hb hbox hg))
   replace BK189 := Aside0.mk (blk_drew BK189.out)
   replace HB := Aside0.mk (below_drew1 HB.out)
   refine start_ (n := 17) (S := fun w' => w'.cell? ⟨gb189, 0, none⟩ = some (.bool a0_0) ∧ w'.cell? ⟨gb189, 1, none⟩ = some (.int .u64 a0_1) ∧ w'.cell? ⟨gb189, 2, none⟩ = some (.int .u64 a0_2) ∧ w'.cell? ⟨gb189, 3, none⟩ = some (.int .i64 a0_3)) (ds := []) (bm_ 17 0) (by kernel_rfl) rfl rfl ⟨kc_ BK189 0, kc_ BK189 1, kc_ BK189 2, kc_ BK189 3⟩ (fun hHeld => ?_); refine with_tabW platbookref03_Right.tab1 platbookref03_Right.bits1 (fun HT_ HW_ => ?_)
   generalize w5.drew = w6 at BK189 HB hHeld ⊢
   refine pu_ 0 (some 3) (bm_ 17 1) rfl HT_ ⟨by rfl, by intro w'; go_simp; with_reducible rfl⟩ ?_
   refine ta_ 1 (some 4) (bm_ 17 3) rfl HT_ HW_ ⟨by rfl, by rintro w' ⟨s0, s1, s2, s3⟩; go_simp; with_reducible rfl⟩ hHeld ?_
   refine one_ (i := 2) (N := some 5) (bm_ 17 7) rfl rfl (one_of HT_.out (by kernel_rfl)) (by decide) (fun K hK => ?_)
   refine gr_ Tryz.func19 #[.agg #[.bool a0_0, .int .u64 a0_1, .int .u64 a0_2]] ?_
   with_reducible refine (platbookref02_Right.calls a0_0 a0_1 a0_2 true _ A2.out).mono ?_
   rintro e w7 ⟨rfl, hb⟩
   refine ⟨_, rfl, ?_⟩
   replace BK189 := bb_ BK189 hb
   replace HB := bs_ HB hb
   (try clear hb)
   (try clear hb2)
   (try clear hk)
   (try clear hi)
   refine hK.out _ _ ⟨kc_ BK189 0, kc_ BK189 1, kc_ BK189 2, kc_ BK189 3⟩ (fun hHeld => ?_)
   clear hK K
   refine norm_ (a' := ?_) ?_ ?_
   rotate_left
   ·
    show Act.put _ (some 5) _ = _
    simp only [Act.put, List.setIfInBounds_toArray, List.set_cons_zero, List.set_cons_succ, i64_w, i32_w]
    rfl
   refine pu_ 3 (some 6) (bm_ 17 15) rfl HT_ ⟨by rfl, by intro w'; go_simp; with_reducible rfl⟩ ?_
   refine pu_ 4 (some 7) (bm_ 17 31) rfl HT_ ⟨by rfl, by intro w'; go_simp; with_reducible rfl⟩ ?_
   refine pu_ 5 (some 8) (bm_ 17 63) rfl HT_ ⟨by rfl, by intro w'; go_simp; with_reducible rfl⟩ ?_
   refine ta_ 6 (some 9) (bm_ 17 127) rfl HT_ HW_ ⟨by rfl, by rintro w' ⟨s0, s1, s2, s3⟩; go_simp; with_reducible rfl⟩ hHeld ?_
   refine pu_ 7 (some 10) (bm_ 17 255) rfl HT_ ⟨by rfl, by intro w'; go_simp; with_reducible rfl⟩ ?_
   refine pu_ 8 (some 11) (bm_ 17 511) rfl HT_ ⟨by rfl, by intro w'; go_simp; with_reducible rfl⟩ ?_
   refine pu_ 9 (some 12) (bm_ 17 1023) rfl HT_ ⟨by rfl, by intro w'; go_simp; with_reducible rfl⟩ ?_
   refine pure_ (i := 10) (N := some 13) (v := undef) (a' := ?_) (bm_ 17 2047) rfl rfl (any_of HT_.out (by kernel_rfl)) (fun _ _ _ h => h) (Or.inr ⟨by rfl, rfl⟩) ?_ ?_
   rotate_left
   ·
    simp only [Act.put, List.setIfInBounds_toArray, List.set_cons_zero, List.set_cons_succ, i64_w, i32_w]
    rfl
   refine pure_ (i := 11) (N := some 14) (v := undef) (a' := ?_) (bm_ 17 4095) rfl rfl (any_of HT_.out (by kernel_rfl)) (fun _ _ _ h => h) (Or.inr ⟨by rfl, rfl⟩) ?_ ?_
   rotate_left
   ·
    simp only [Act.put, List.setIfInBounds_toArray, List.set_cons_zero, List.set_cons_succ, i64_w, i32_w]
    rfl
   refine pure_ (i := 12) (N := some 15) (v := undef) (a' := ?_) (bm_ 17 8191) rfl rfl (any_of HT_.out (by kernel_rfl)) (fun _ _ _ h => h) (Or.inr ⟨by rfl, rfl⟩) ?_ ?_
   rotate_left
   ·
    simp only [Act.put, List.setIfInBounds_toArray, List.set_cons_zero, List.set_cons_succ, i64_w, i32_w]
    rfl
   refine pure_ (i := 13) (N := some 16) (v := undef) (a' := ?_) (bm_ 17 16383) rfl rfl (any_of HT_.out (by kernel_rfl)) (fun _ _ _ h => h) (Or.inr ⟨by rfl, rfl⟩) ?_ ?_
   rotate_left
   ·
    simp only [Act.put, List.setIfInBounds_toArray, List.set_cons_zero, List.set_cons_succ, i64_w, i32_w]
    rfl
   refine pure_ (i := 14) (N := some 17) (v := undef) (a' := ?_) (bm_ 17 32767) rfl rfl (any_of HT_.out (by kernel_rfl)) (fun _ _ _ h => h) (Or.inr ⟨by rfl, rfl⟩) ?_ ?_
   rotate_left
   ·
    simp only [Act.put, List.setIfInBounds_toArray, List.set_cons_zero, List.set_cons_succ, i64_w, i32_w]
    rfl
   refine pure_ (i := 15) (N := some 18) (v := undef) (a' := ?_) (bm_ 17 65535) rfl rfl (any_of HT_.out (by kernel_rfl)) (fun _ _ _ h => h) (Or.inr ⟨by rfl, rfl⟩) ?_ ?_
   rotate_left
   ·
    simp only [Act.put, List.setIfInBounds_toArray, List.set_cons_zero, List.set_cons_succ, i64_w, i32_w]
    rfl
   refine pu_ 16 (some 19) (bm_ 17 131071) rfl HT_ ⟨by rfl, by intro w'; go_simp; with_reducible rfl⟩ ?_
   refine done_ (done_of HT_.out (by kernel_rfl)) ?_
   try go_wp2
   go_ret
   exact ⟨by first | rfl | (simp [errW_none, errW_some] <;> rfl) | (simp [*, errW_none, errW_some] <;> rfl), pb_ HB⟩
  ·
   rw [if_neg c4] at H
   have c4b0 : decide (a0_3 < 0) = false := decide_eq_false c4
   clear c4
   replace H := Option.bind_eq_some_iff.mp H
   obtain ⟨t191, A80, H⟩ := H
   replace H : (if a0_3 > t191 then (some false) else ((platbookref03_Filled.f k a0_0 a0_1 a0_2 a0_3 0).bind fun bt192 => (some (bt192.1 == a0_0 && ((bt192.2.1 == a0_1 && (bt192.2.2 == a0_2))))))) = some r := H
   have A8 := Aside0.mk A80
   clear A80
   by_cases c9 : a0_3 > t191
   ·
    rw [if_pos c9] at H
    have c9b0 : decide (t191 < a0_3) = true := decide_eq_true c9
    clear c9
    obtain rfl := Option.some.inj H
    go_enter Tryz.func29, Tryz.ntmps29
    try go_wp2_with (first | ((with_reducible refine gate_dst (N := 1) rfl ?_); refine bx_ 1 #[.bool a0_0, .int .u64 a0_1, .int .u64 a0_2, .int .i64 a0_3] 38 ?_; intro gb189 hg w10 hbox hb; have BK189 := Aside0.mk (hbox); have GW189 := gw_ HB hg; have GE189 := gw_ HB hg; replace HB := bs_ HB hb; clear hb hbox hg))
    replace BK189 := Aside0.mk (blk_drew BK189.out)
    replace HB := Aside0.mk (below_drew1 HB.out)
    refine start_ (n := 17) (S := fun w' => w'.cell? ⟨gb189, 0, none⟩ = some (.bool a0_0) ∧ w'.cell? ⟨gb189, 1, none⟩ = some (.int .u64 a0_1) ∧ w'.cell? ⟨gb189, 2, none⟩ = some (.int .u64 a0_2) ∧ w'.cell? ⟨gb189, 3, none⟩ = some (.int .i64 a0_3)) (ds := []) (bm_ 17 0) (by kernel_rfl) rfl rfl ⟨kc_ BK189 0, kc_ BK189 1, kc_ BK189 2, kc_ BK189 3⟩ (fun hHeld => ?_); refine with_tabW platbookref03_Right.tab1 platbookref03_Right.bits1 (fun HT_ HW_ => ?_)
    generalize w10.drew = w11 at BK189 HB hHeld ⊢
    refine pu_ 0 (some 3) (bm_ 17 1) rfl HT_ ⟨by rfl, by intro w'; go_simp; with_reducible rfl⟩ ?_
    refine ta_ 1 (some 4) (bm_ 17 3) rfl HT_ HW_ ⟨by rfl, by rintro w' ⟨s0, s1, s2, s3⟩; go_simp; with_reducible rfl⟩ hHeld ?_
    refine one_ (i := 2) (N := some 5) (bm_ 17 7) rfl rfl (one_of HT_.out (by kernel_rfl)) (by decide) (fun K hK => ?_)
    refine gr_ Tryz.func19 #[.agg #[.bool a0_0, .int .u64 a0_1, .int .u64 a0_2]] ?_
    with_reducible refine (platbookref02_Right.calls a0_0 a0_1 a0_2 true _ A2.out).mono ?_
    rintro e w12 ⟨rfl, hb⟩
    refine ⟨_, rfl, ?_⟩
    replace BK189 := bb_ BK189 hb
    replace HB := bs_ HB hb
    (try clear hb)
    (try clear hb2)
    (try clear hk)
    (try clear hi)
    refine hK.out _ _ ⟨kc_ BK189 0, kc_ BK189 1, kc_ BK189 2, kc_ BK189 3⟩ (fun hHeld => ?_)
    clear hK K
    refine norm_ (a' := ?_) ?_ ?_
    rotate_left
    ·
     show Act.put _ (some 5) _ = _
     simp only [Act.put, List.setIfInBounds_toArray, List.set_cons_zero, List.set_cons_succ, i64_w, i32_w]
     rfl
    refine pu_ 3 (some 6) (bm_ 17 15) rfl HT_ ⟨by rfl, by intro w'; go_simp; with_reducible rfl⟩ ?_
    refine pu_ 4 (some 7) (bm_ 17 31) rfl HT_ ⟨by rfl, by intro w'; go_simp; with_reducible rfl⟩ ?_
    refine pu_ 5 (some 8) (bm_ 17 63) rfl HT_ ⟨by rfl, by intro w'; go_simp; with_reducible rfl⟩ ?_
    refine ta_ 6 (some 9) (bm_ 17 127) rfl HT_ HW_ ⟨by rfl, by rintro w' ⟨s0, s1, s2, s3⟩; go_simp; with_reducible rfl⟩ hHeld ?_
    refine pu_ 7 (some 10) (bm_ 17 255) rfl HT_ ⟨by rfl, by intro w'; go_simp; with_reducible rfl⟩ ?_
    refine pu_ 8 (some 11) (bm_ 17 511) rfl HT_ ⟨by rfl, by intro w'; go_simp; with_reducible rfl⟩ ?_
    refine pu_ 9 (some 12) (bm_ 17 1023) rfl HT_ ⟨by rfl, by intro w'; go_simp; with_reducible rfl⟩ ?_
    refine pu_ 10 (some 13) (bm_ 17 2047) rfl HT_ ⟨by rfl, by intro w'; go_simp; with_reducible rfl⟩ ?_
    refine pu_ 12 (some 15) (bm_ 17 6143) rfl HT_ ⟨by rfl, by intro w'; go_simp; with_reducible rfl⟩ ?_
    refine ta_ 11 (some 14) (bm_ 17 8191) rfl HT_ HW_ ⟨by rfl, by rintro w' ⟨s0, s1, s2, s3⟩; go_simp; with_reducible rfl⟩ hHeld ?_
    refine ta_ 13 (some 16) (bm_ 17 16383) rfl HT_ HW_ ⟨by rfl, by rintro w' ⟨s0, s1, s2, s3⟩; go_simp; with_reducible rfl⟩ hHeld ?_
    refine one_ (i := 14) (N := some 17) (bm_ 17 32767) rfl rfl (one_of HT_.out (by kernel_rfl)) (by decide) (fun K hK => ?_)
    refine gr_ Tryz.func23 #[.agg #[.bool a0_0, .int .u64 a0_1, .int .u64 a0_2]] ?_
    with_reducible refine (platbookref02_Width.calls a0_0 a0_1 a0_2 t191 _ A8.out).mono ?_
    rintro e w13 ⟨rfl, hb⟩
    refine ⟨_, rfl, ?_⟩
    replace BK189 := bb_ BK189 hb
    replace HB := bs_ HB hb
    (try clear hb)
    (try clear hb2)
    (try clear hk)
    (try clear hi)
    refine hK.out _ _ ⟨kc_ BK189 0, kc_ BK189 1, kc_ BK189 2, kc_ BK189 3⟩ (fun hHeld => ?_)
    clear hK K
    refine norm_ (a' := ?_) ?_ ?_
    rotate_left
    ·
     show Act.put _ (some 17) _ = _
     simp only [Act.put, List.setIfInBounds_toArray, List.set_cons_zero, List.set_cons_succ, i64_w, i32_w]
     rfl
    refine pu_ 15 (some 18) (bm_ 17 65535) rfl HT_ ⟨by rfl, by intro w'; go_simp; with_reducible rfl⟩ ?_
    refine pu_ 16 (some 19) (bm_ 17 131071) rfl HT_ ⟨by rfl, by intro w'; go_simp; with_reducible rfl⟩ ?_
    refine done_ (done_of HT_.out (by kernel_rfl)) ?_
    try go_wp2
    go_ret
    exact ⟨by first | rfl | (simp [errW_none, errW_some] <;> rfl) | (simp [*, errW_none, errW_some] <;> rfl), pb_ HB⟩
   ·
    rw [if_neg c9] at H
    have c9b0 : decide (t191 < a0_3) = false := decide_eq_false c9
    clear c9
    replace H := Option.bind_eq_some_iff.mp H
    obtain ⟨⟨t192, t193, t194⟩, A140, H⟩ := H
    replace H : (some (t192 == a0_0 && ((t193 == a0_1 && (t194 == a0_2))))) = some r := H
    have A14 := Aside0.mk A140
    clear A140
    obtain rfl := Option.some.inj H
    go_enter Tryz.func29, Tryz.ntmps29
    try go_wp2_with (first | ((with_reducible refine gate_dst (N := 1) rfl ?_); refine bx_ 1 #[.bool a0_0, .int .u64 a0_1, .int .u64 a0_2, .int .i64 a0_3] 38 ?_; intro gb189 hg w15 hbox hb; have BK189 := Aside0.mk (hbox); have GW189 := gw_ HB hg; have GE189 := gw_ HB hg; replace HB := bs_ HB hb; clear hb hbox hg))
    replace BK189 := Aside0.mk (blk_drew BK189.out)
    replace HB := Aside0.mk (below_drew1 HB.out)
    refine start_ (n := 17) (S := fun w' => w'.cell? ⟨gb189, 0, none⟩ = some (.bool a0_0) ∧ w'.cell? ⟨gb189, 1, none⟩ = some (.int .u64 a0_1) ∧ w'.cell? ⟨gb189, 2, none⟩ = some (.int .u64 a0_2) ∧ w'.cell? ⟨gb189, 3, none⟩ = some (.int .i64 a0_3)) (ds := []) (bm_ 17 0) (by kernel_rfl) rfl rfl ⟨kc_ BK189 0, kc_ BK189 1, kc_ BK189 2, kc_ BK189 3⟩ (fun hHeld => ?_); refine with_tabW platbookref03_Right.tab1 platbookref03_Right.bits1 (fun HT_ HW_ => ?_)
    generalize w15.drew = w16 at BK189 HB hHeld ⊢
    refine pu_ 0 (some 3) (bm_ 17 1) rfl HT_ ⟨by rfl, by intro w'; go_simp; with_reducible rfl⟩ ?_
    refine ta_ 1 (some 4) (bm_ 17 3) rfl HT_ HW_ ⟨by rfl, by rintro w' ⟨s0, s1, s2, s3⟩; go_simp; with_reducible rfl⟩ hHeld ?_
    refine one_ (i := 2) (N := some 5) (bm_ 17 7) rfl rfl (one_of HT_.out (by kernel_rfl)) (by decide) (fun K hK => ?_)
    refine gr_ Tryz.func19 #[.agg #[.bool a0_0, .int .u64 a0_1, .int .u64 a0_2]] ?_
    with_reducible refine (platbookref02_Right.calls a0_0 a0_1 a0_2 true _ A2.out).mono ?_
    rintro e w17 ⟨rfl, hb⟩
    refine ⟨_, rfl, ?_⟩
    replace BK189 := bb_ BK189 hb
    replace HB := bs_ HB hb
    (try clear hb)
    (try clear hb2)
    (try clear hk)
    (try clear hi)
    refine hK.out _ _ ⟨kc_ BK189 0, kc_ BK189 1, kc_ BK189 2, kc_ BK189 3⟩ (fun hHeld => ?_)
    clear hK K
    refine norm_ (a' := ?_) ?_ ?_
    rotate_left
    ·
     show Act.put _ (some 5) _ = _
     simp only [Act.put, List.setIfInBounds_toArray, List.set_cons_zero, List.set_cons_succ, i64_w, i32_w]
     rfl
    refine pu_ 3 (some 6) (bm_ 17 15) rfl HT_ ⟨by rfl, by intro w'; go_simp; with_reducible rfl⟩ ?_
    refine pu_ 4 (some 7) (bm_ 17 31) rfl HT_ ⟨by rfl, by intro w'; go_simp; with_reducible rfl⟩ ?_
    refine pu_ 5 (some 8) (bm_ 17 63) rfl HT_ ⟨by rfl, by intro w'; go_simp; with_reducible rfl⟩ ?_
    refine ta_ 6 (some 9) (bm_ 17 127) rfl HT_ HW_ ⟨by rfl, by rintro w' ⟨s0, s1, s2, s3⟩; go_simp; with_reducible rfl⟩ hHeld ?_
    refine pu_ 7 (some 10) (bm_ 17 255) rfl HT_ ⟨by rfl, by intro w'; go_simp; with_reducible rfl⟩ ?_
    refine pu_ 8 (some 11) (bm_ 17 511) rfl HT_ ⟨by rfl, by intro w'; go_simp; with_reducible rfl⟩ ?_
    refine pu_ 9 (some 12) (bm_ 17 1023) rfl HT_ ⟨by rfl, by intro w'; go_simp; with_reducible rfl⟩ ?_
    refine pu_ 10 (some 13) (bm_ 17 2047) rfl HT_ ⟨by rfl, by intro w'; go_simp; with_reducible rfl⟩ ?_
    refine pu_ 12 (some 15) (bm_ 17 6143) rfl HT_ ⟨by rfl, by intro w'; go_simp; with_reducible rfl⟩ ?_
    refine ta_ 11 (some 14) (bm_ 17 8191) rfl HT_ HW_ ⟨by rfl, by rintro w' ⟨s0, s1, s2, s3⟩; go_simp; with_reducible rfl⟩ hHeld ?_
    refine ta_ 13 (some 16) (bm_ 17 16383) rfl HT_ HW_ ⟨by rfl, by rintro w' ⟨s0, s1, s2, s3⟩; go_simp; with_reducible rfl⟩ hHeld ?_
    refine one_ (i := 14) (N := some 17) (bm_ 17 32767) rfl rfl (one_of HT_.out (by kernel_rfl)) (by decide) (fun K hK => ?_)
    refine gr_ Tryz.func23 #[.agg #[.bool a0_0, .int .u64 a0_1, .int .u64 a0_2]] ?_
    with_reducible refine (platbookref02_Width.calls a0_0 a0_1 a0_2 t191 _ A8.out).mono ?_
    rintro e w18 ⟨rfl, hb⟩
    refine ⟨_, rfl, ?_⟩
    replace BK189 := bb_ BK189 hb
    replace HB := bs_ HB hb
    (try clear hb)
    (try clear hb2)
    (try clear hk)
    (try clear hi)
    refine hK.out _ _ ⟨kc_ BK189 0, kc_ BK189 1, kc_ BK189 2, kc_ BK189 3⟩ (fun hHeld => ?_)
    clear hK K
    refine norm_ (a' := ?_) ?_ ?_
    rotate_left
    ·
     show Act.put _ (some 17) _ = _
     simp only [Act.put, List.setIfInBounds_toArray, List.set_cons_zero, List.set_cons_succ, i64_w, i32_w]
     rfl
    refine pu_ 15 (some 18) (bm_ 17 65535) rfl HT_ ⟨by rfl, by intro w'; go_simp; with_reducible rfl⟩ ?_
    refine pu_ 16 (some 19) (bm_ 17 131071) rfl HT_ ⟨by rfl, by intro w'; go_simp; with_reducible rfl⟩ ?_
    refine done_ (done_of HT_.out (by kernel_rfl)) ?_
    try go_wp2
    replace BK189 := Aside0.mk (blk_drew BK189.out)
    replace HB := Aside0.mk (below_drew1 HB.out)
    refine start_ (n := 9) (S := fun w' => w'.cell? ⟨gb189, 0, none⟩ = some (.bool a0_0) ∧ w'.cell? ⟨gb189, 1, none⟩ = some (.int .u64 a0_1) ∧ w'.cell? ⟨gb189, 2, none⟩ = some (.int .u64 a0_2) ∧ w'.cell? ⟨gb189, 3, none⟩ = some (.int .i64 a0_3)) (ds := []) (bm_ 9 0) (by kernel_rfl) rfl rfl ⟨kc_ BK189 0, kc_ BK189 1, kc_ BK189 2, kc_ BK189 3⟩ (fun hHeld => ?_); refine with_tabW platbookref03_Right.tab3 platbookref03_Right.bits3 (fun HT_ HW_ => ?_)
    generalize w18.drew = w19 at BK189 HB hHeld ⊢
    refine pu_ 0 (some 20) (bm_ 9 1) rfl HT_ ⟨by rfl, by intro w'; go_simp; with_reducible rfl⟩ ?_
    refine pu_ 2 (some 22) (bm_ 9 5) rfl HT_ ⟨by rfl, by intro w'; go_simp; with_reducible rfl⟩ ?_
    refine pu_ 5 (some 25) (bm_ 9 37) rfl HT_ ⟨by rfl, by intro w'; go_simp; with_reducible rfl⟩ ?_
    refine ta_ 1 (some 21) (bm_ 9 39) rfl HT_ HW_ ⟨by rfl, by rintro w' ⟨s0, s1, s2, s3⟩; go_simp; with_reducible rfl⟩ hHeld ?_
    refine ta_ 3 (some 23) (bm_ 9 47) rfl HT_ HW_ ⟨by rfl, by rintro w' ⟨s0, s1, s2, s3⟩; go_simp; with_reducible rfl⟩ hHeld ?_
    refine ta_ 6 (some 26) (bm_ 9 111) rfl HT_ HW_ ⟨by rfl, by rintro w' ⟨s0, s1, s2, s3⟩; go_simp; with_reducible rfl⟩ hHeld ?_
    refine one_ (i := 4) (N := some 24) (bm_ 9 127) rfl rfl (one_of HT_.out (by kernel_rfl)) (by decide) (fun K hK => ?_)
    refine gr_ Tryz.func78 #[.agg #[.bool a0_0, .int .u64 a0_1, .int .u64 a0_2], .int .i64 a0_3, .int .i64 0] ?_
    with_reducible refine (platbookref03_Filled.calls k a0_0 a0_1 a0_2 a0_3 0 t192 t193 t194 _ A14.out).mono ?_
    rintro e w20 ⟨rfl, hb⟩
    refine ⟨_, rfl, ?_⟩
    replace BK189 := bb_ BK189 hb
    replace HB := bs_ HB hb
    (try clear hb)
    (try clear hb2)
    (try clear hk)
    (try clear hi)
    refine hK.out _ _ ⟨kc_ BK189 0, kc_ BK189 1, kc_ BK189 2, kc_ BK189 3⟩ (fun hHeld => ?_)
    clear hK K
    refine norm_ (a' := ?_) ?_ ?_
    rotate_left
    ·
     show Act.put _ (some 24) _ = _
     simp only [Act.put, List.setIfInBounds_toArray, List.set_cons_zero, List.set_cons_succ, i64_w, i32_w]
     rfl
    refine pu_ 7 (some 27) (bm_ 9 255) rfl HT_ ⟨by rfl, by intro w'; go_simp; with_reducible rfl⟩ ?_
    refine pu_ 8 (some 2) (bm_ 9 511) rfl HT_ ⟨by rfl, by intro w'; go_simp; with_reducible rfl⟩ ?_
    refine done_ (done_of HT_.out (by kernel_rfl)) ?_
    try go_wp2
    go_ret
    exact ⟨by first | rfl | (simp [errW_none, errW_some] <;> rfl) | (simp [*, errW_none, errW_some] <;> rfl), pb_ HB⟩
 ·
  replace c3 := Bool.eq_false_iff.mpr c3
  subst c3
  have H1 : (some false) = some r := by rw [if_neg (show ¬ (false = true) by decide)] at H; exact H
  clear H
  have H := H1
  clear H1
  obtain rfl := Option.some.inj H
  go_enter Tryz.func29, Tryz.ntmps29
  try go_wp2_with (first | ((with_reducible refine gate_dst (N := 1) rfl ?_); refine bx_ 1 #[.bool a0_0, .int .u64 a0_1, .int .u64 a0_2, .int .i64 a0_3] 38 ?_; intro gb189 hg w21 hbox hb; have BK189 := Aside0.mk (hbox); have GW189 := gw_ HB hg; have GE189 := gw_ HB hg; replace HB := bs_ HB hb; clear hb hbox hg))
  replace BK189 := Aside0.mk (blk_drew BK189.out)
  replace HB := Aside0.mk (below_drew1 HB.out)
  refine start_ (n := 17) (S := fun w' => w'.cell? ⟨gb189, 0, none⟩ = some (.bool a0_0) ∧ w'.cell? ⟨gb189, 1, none⟩ = some (.int .u64 a0_1) ∧ w'.cell? ⟨gb189, 2, none⟩ = some (.int .u64 a0_2) ∧ w'.cell? ⟨gb189, 3, none⟩ = some (.int .i64 a0_3)) (ds := []) (bm_ 17 0) (by kernel_rfl) rfl rfl ⟨kc_ BK189 0, kc_ BK189 1, kc_ BK189 2, kc_ BK189 3⟩ (fun hHeld => ?_); refine with_tabW platbookref03_Right.tab1 platbookref03_Right.bits1 (fun HT_ HW_ => ?_)
  generalize w21.drew = w22 at BK189 HB hHeld ⊢
  refine pu_ 0 (some 3) (bm_ 17 1) rfl HT_ ⟨by rfl, by intro w'; go_simp; with_reducible rfl⟩ ?_
  refine ta_ 1 (some 4) (bm_ 17 3) rfl HT_ HW_ ⟨by rfl, by rintro w' ⟨s0, s1, s2, s3⟩; go_simp; with_reducible rfl⟩ hHeld ?_
  refine one_ (i := 2) (N := some 5) (bm_ 17 7) rfl rfl (one_of HT_.out (by kernel_rfl)) (by decide) (fun K hK => ?_)
  refine gr_ Tryz.func19 #[.agg #[.bool a0_0, .int .u64 a0_1, .int .u64 a0_2]] ?_
  with_reducible refine (platbookref02_Right.calls a0_0 a0_1 a0_2 false _ A2.out).mono ?_
  rintro e w23 ⟨rfl, hb⟩
  refine ⟨_, rfl, ?_⟩
  replace BK189 := bb_ BK189 hb
  replace HB := bs_ HB hb
  (try clear hb)
  (try clear hb2)
  (try clear hk)
  (try clear hi)
  refine hK.out _ _ ⟨kc_ BK189 0, kc_ BK189 1, kc_ BK189 2, kc_ BK189 3⟩ (fun hHeld => ?_)
  clear hK K
  refine norm_ (a' := ?_) ?_ ?_
  rotate_left
  ·
   show Act.put _ (some 5) _ = _
   simp only [Act.put, List.setIfInBounds_toArray, List.set_cons_zero, List.set_cons_succ, i64_w, i32_w]
   rfl
  refine pu_ 3 (some 6) (bm_ 17 15) rfl HT_ ⟨by rfl, by intro w'; go_simp; with_reducible rfl⟩ ?_
  refine pu_ 4 (some 7) (bm_ 17 31) rfl HT_ ⟨by rfl, by intro w'; go_simp; with_reducible rfl⟩ ?_
  refine pure_ (i := 5) (N := some 8) (v := undef) (a' := ?_) (bm_ 17 63) rfl rfl (any_of HT_.out (by kernel_rfl)) (fun _ _ _ h => h) (Or.inr ⟨by rfl, rfl⟩) ?_ ?_
  rotate_left
  ·
   simp only [Act.put, List.setIfInBounds_toArray, List.set_cons_zero, List.set_cons_succ, i64_w, i32_w]
   rfl
  refine pure_ (i := 6) (N := some 9) (v := undef) (a' := ?_) (bm_ 17 127) rfl rfl (any_of HT_.out (by kernel_rfl)) (fun _ _ _ h => h) (Or.inr ⟨by rfl, rfl⟩) ?_ ?_
  rotate_left
  ·
   simp only [Act.put, List.setIfInBounds_toArray, List.set_cons_zero, List.set_cons_succ, i64_w, i32_w]
   rfl
  refine pure_ (i := 7) (N := some 10) (v := undef) (a' := ?_) (bm_ 17 255) rfl rfl (any_of HT_.out (by kernel_rfl)) (fun _ _ _ h => h) (Or.inr ⟨by rfl, rfl⟩) ?_ ?_
  rotate_left
  ·
   simp only [Act.put, List.setIfInBounds_toArray, List.set_cons_zero, List.set_cons_succ, i64_w, i32_w]
   rfl
  refine pu_ 8 (some 11) (bm_ 17 511) rfl HT_ ⟨by rfl, by intro w'; go_simp; with_reducible rfl⟩ ?_
  refine pu_ 9 (some 12) (bm_ 17 1023) rfl HT_ ⟨by rfl, by intro w'; go_simp; with_reducible rfl⟩ ?_
  refine pure_ (i := 10) (N := some 13) (v := undef) (a' := ?_) (bm_ 17 2047) rfl rfl (any_of HT_.out (by kernel_rfl)) (fun _ _ _ h => h) (Or.inr ⟨by rfl, rfl⟩) ?_ ?_
  rotate_left
  ·
   simp only [Act.put, List.setIfInBounds_toArray, List.set_cons_zero, List.set_cons_succ, i64_w, i32_w]
   rfl
  refine pure_ (i := 11) (N := some 14) (v := undef) (a' := ?_) (bm_ 17 4095) rfl rfl (any_of HT_.out (by kernel_rfl)) (fun _ _ _ h => h) (Or.inr ⟨by rfl, rfl⟩) ?_ ?_
  rotate_left
  ·
   simp only [Act.put, List.setIfInBounds_toArray, List.set_cons_zero, List.set_cons_succ, i64_w, i32_w]
   rfl
  refine pure_ (i := 12) (N := some 15) (v := undef) (a' := ?_) (bm_ 17 8191) rfl rfl (any_of HT_.out (by kernel_rfl)) (fun _ _ _ h => h) (Or.inr ⟨by rfl, rfl⟩) ?_ ?_
  rotate_left
  ·
   simp only [Act.put, List.setIfInBounds_toArray, List.set_cons_zero, List.set_cons_succ, i64_w, i32_w]
   rfl
  refine pure_ (i := 13) (N := some 16) (v := undef) (a' := ?_) (bm_ 17 16383) rfl rfl (any_of HT_.out (by kernel_rfl)) (fun _ _ _ h => h) (Or.inr ⟨by rfl, rfl⟩) ?_ ?_
  rotate_left
  ·
   simp only [Act.put, List.setIfInBounds_toArray, List.set_cons_zero, List.set_cons_succ, i64_w, i32_w]
   rfl
  refine pure_ (i := 14) (N := some 17) (v := undef) (a' := ?_) (bm_ 17 32767) rfl rfl (any_of HT_.out (by kernel_rfl)) (fun _ _ _ h => h) (Or.inr ⟨by rfl, rfl⟩) ?_ ?_
  rotate_left
  ·
   simp only [Act.put, List.setIfInBounds_toArray, List.set_cons_zero, List.set_cons_succ, i64_w, i32_w]
   rfl
  refine pure_ (i := 15) (N := some 18) (v := undef) (a' := ?_) (bm_ 17 65535) rfl rfl (any_of HT_.out (by kernel_rfl)) (fun _ _ _ h => h) (Or.inr ⟨by rfl, rfl⟩) ?_ ?_
  rotate_left
  ·
   simp only [Act.put, List.setIfInBounds_toArray, List.set_cons_zero, List.set_cons_succ, i64_w, i32_w]
   rfl
  refine pu_ 16 (some 19) (bm_ 17 131071) rfl HT_ ⟨by rfl, by intro w'; go_simp; with_reducible rfl⟩ ?_
  refine done_ (done_of HT_.out (by kernel_rfl)) ?_
  try go_wp2
  go_ret
  exact ⟨by first | rfl | (simp [errW_none, errW_some] <;> rfl) | (simp [*, errW_none, errW_some] <;> rfl), pb_ HB⟩

def prefix_Of.j0 : Nat → Int → Bool → Bool → Int → Int → Option (Bool × Int × Int × Int × Int)
 | 0, _, _, _, _, _ => none
 | k + 1, x1, x19, x196000, x196001, x196002 => if x19 = true then (some (false, 0, 0, 0, 1)) else ((prefix_free.f x196000 x196001 x196002 x1).bind fun bt200 => ((num_Not.f bt200.1 bt200.2).bind fun bt202 => ((num_And.f x196001 x196002 bt202.1 bt202.2).bind fun bt204 => (some (x196000, bt204.1, bt204.2, x1, 0)))))
def prefix_Of.f (k : Nat) (a0_0 : Bool) (a0_1 : Int) (a0_2 : Int) (a1 : Int) : Option (Bool × Int × Int × Int × Int) := (addr_Right.f a0_0 a0_1 a0_2).bind fun t197 => (if t197 = true then (if a1 < 0 then (prefix_Of.j0 k a1 true a0_0 a0_1 a0_2) else ((addr_Width.f a0_0 a0_1 a0_2).bind fun t198 => (prefix_Of.j0 k a1 (decide (a1 > t198)) a0_0 a0_1 a0_2))) else (prefix_Of.j0 k a1 true a0_0 a0_1 a0_2))
def prefix_Of.T4 : Bool × List (List Nat × List Nat) := (true, [([], []), ([0], [0]), ([], []), ([2], [2]), ([3, 3], [3]), ([1, 4, 4], [1, 4]), ([0, 1, 2, 3, 4, 5], []), ([6, 0, 1, 2, 3, 4, 5], [6]), ([7, 5, 5, 0, 1, 2, 3, 4, 5], [5, 7])])
def prefix_Of.B4 : List Nat := [0, 1, 0, 4, 12, 31, 63, 127, 255]
theorem prefix_Of.tab4 : rtab .any (opsOf Tryz.f34 4) = prefix_Of.T4 := by kernel_rfl
theorem prefix_Of.bits4 : waitsOk prefix_Of.T4.2 prefix_Of.B4 = true := by kernel_rfl
set_option maxHeartbeats 8000000 in
set_option maxRecDepth 100000 in
theorem prefix_Of.calls (k : Nat) (a0_0 : Bool) (a0_1 : Int) (a0_2 : Int) (a1 : Int) (r1 : Bool) (r2 : Int) (r3 : Int) (r4 : Int) (r5 : Int) (w : World) (h : prefix_Of.f k a0_0 a0_1 a0_2 a1 = some (r1, r2, r3, r4, r5)) :
  Calls Tryz.prog 34 #[.agg #[.bool a0_0, .int .u64 a0_1, .int .u64 a0_2], .int .i64 a1] w fun e w' => e = .returned (.tuple #[.agg #[.bool r1, .int .u64 r2, .int .u64 r3, .int .i64 r4], .int .i64 r5]) ∧ Below w.heap.size w w' := by
 have hu26 := Tryz.underlying26
 have hu38 := Tryz.underlying38
 have hu24 := Tryz.underlying24
 have HB := Aside0.mk (Below.refl w.heap.size w)
 have H : ((addr_Right.f a0_0 a0_1 a0_2).bind fun t197 => (if t197 = true then (if a1 < 0 then (prefix_Of.j0 k a1 true a0_0 a0_1 a0_2) else ((addr_Width.f a0_0 a0_1 a0_2).bind fun t198 => (prefix_Of.j0 k a1 (decide (a1 > t198)) a0_0 a0_1 a0_2))) else (prefix_Of.j0 k a1 true a0_0 a0_1 a0_2))) = some (r1, r2, r3, r4, r5) := h
 clear h
 have HC3 := Aside0.mk H
 clear H
 go_enter Tryz.func34, Tryz.ntmps34
 go_upto_region 1 with (first | ((with_reducible refine gate_dst (N := 2) rfl ?_); refine bx_ 2 #[.bool a0_0, .int .u64 a0_1, .int .u64 a0_2] 26 ?_; intro gb195 hg w4 hbox hb; have BK195 := Aside0.mk (hbox); have GW195 := gw_ HB hg; have GE195 := gw_ HB hg; replace HB := bs_ HB hb; clear hb hbox hg) | ((with_reducible refine gate_dst (N := 4) rfl ?_); refine bx_ 4 #[.bool false, .int .u64 0, .int .u64 0, .int .i64 0] 38 ?_; intro gb196 hg w5 hbox hb; have BK196 := Aside0.mk (hbox); have GW196 := gw_ HB hg; have GE196 := gw_ HB hg; have NB195_196 := nl_ BK195 hg; have NB196_195 := ng_ BK195 hg; replace BK195 := bb_ BK195 hb; replace HB := bs_ HB hb; clear hb hbox hg))
 (try simp only [Act.put, List.setIfInBounds_toArray, List.set_cons_zero, List.set_cons_succ])
 go_cut [19] (fun v19 wc => ∃ (kq : Nat) (x19_2 : Bool), v19 = .bool x19_2 ∧ Aside0 (prefix_Of.j0 kq a1 x19_2 a0_0 a0_1 a0_2 = some (r1, r2, r3, r4, r5)) ∧ Aside0 (kq ≤ k) ∧ Aside0 (wc.heap[gb195]? = some (.cells #[.bool a0_0, .int .u64 a0_1, .int .u64 a0_2] 26 (0, 0))) ∧ Aside0 (wc.heap[gb196]? = some (.cells #[.bool false, .int .u64 0, .int .u64 0, .int .i64 0] 38 (0, 0))) ∧ Aside0 (Below w.heap.size w wc))
 case first =>
  have H := HC3.out
  clear HC3
  replace H := Option.bind_eq_some_iff.mp H
  obtain ⟨t197, A60, H⟩ := H
  replace H : (if t197 = true then (if a1 < 0 then (prefix_Of.j0 k a1 true a0_0 a0_1 a0_2) else ((addr_Width.f a0_0 a0_1 a0_2).bind fun t198 => (prefix_Of.j0 k a1 (decide (a1 > t198)) a0_0 a0_1 a0_2))) else (prefix_Of.j0 k a1 true a0_0 a0_1 a0_2)) = some (r1, r2, r3, r4, r5) := H
  have A6 := Aside0.mk A60
  clear A60
  by_cases c7 : t197 = true
  ·
   subst c7
   rw [if_pos rfl] at H
   by_cases c8 : a1 < 0
   ·
    rw [if_pos c8] at H
    have c8b0 : decide (a1 < 0) = true := decide_eq_true c8
    clear c8
    (first | rw [c8b0] | (simp only [i64_w, i32_w]; rw [c8b0]) | skip)
    have H' := Aside0.mk H
    clear H
    have hnb9 := NB195_196.out
    have hnc9 := NB196_195.out
    obtain ⟨hcz10_0, hcz10_1, hcz10_2, hfz10_0, hfz10_1, hfz10_2⟩ := c3_ BK195
    go_wp2_with (first | ((with_reducible refine gate_callee (f := 18) rfl ?_); refine gl_ (some 8) Tryz.func18 #[.agg #[.bool a0_0, .int .u64 a0_1, .int .u64 a0_2]] ?_; (with_reducible refine (addr_Right.calls a0_0 a0_1 a0_2 true _ A6.out).mono ?_); rintro e w11 ⟨rfl, hb⟩; refine ⟨_, rfl, ?_⟩; replace BK195 := bb_ BK195 hb; replace BK196 := bb_ BK196 hb; replace HB := bs_ HB hb; (try clear hb); (try clear hb2); (try clear hk); (try clear hi)))
    go_meet
    case rel => exact ⟨_, (true), (by first | rfl | (simp; done) | (simp [*]; done)), H', ⟨by first | omega | exact Nat.le_refl _⟩, ⟨by refine pw_ ?_; exact BK195.out⟩, ⟨by refine pw_ ?_; exact BK196.out⟩, ⟨pb_ HB⟩⟩
   ·
    rw [if_neg c8] at H
    have c8b0 : decide (a1 < 0) = false := decide_eq_false c8
    clear c8
    (first | rw [c8b0] | (simp only [i64_w, i32_w]; rw [c8b0]) | skip)
    replace H := Option.bind_eq_some_iff.mp H
    obtain ⟨t198, A120, H⟩ := H
    replace H : (prefix_Of.j0 k a1 (decide (a1 > t198)) a0_0 a0_1 a0_2) = some (r1, r2, r3, r4, r5) := H
    have A12 := Aside0.mk A120
    clear A120
    have H' := Aside0.mk H
    clear H
    have hnb13 := NB195_196.out
    have hnc13 := NB196_195.out
    obtain ⟨hcz14_0, hcz14_1, hcz14_2, hfz14_0, hfz14_1, hfz14_2⟩ := c3_ BK195
    go_wp2_with (first | ((with_reducible refine gate_callee (f := 18) rfl ?_); refine gl_ (some 8) Tryz.func18 #[.agg #[.bool a0_0, .int .u64 a0_1, .int .u64 a0_2]] ?_; (with_reducible refine (addr_Right.calls a0_0 a0_1 a0_2 true _ A6.out).mono ?_); rintro e w15 ⟨rfl, hb⟩; refine ⟨_, rfl, ?_⟩; replace BK195 := bb_ BK195 hb; replace BK196 := bb_ BK196 hb; replace HB := bs_ HB hb; (try clear hb); (try clear hb2); (try clear hk); (try clear hi); obtain ⟨hcz16_0, hcz16_1, hcz16_2, hfz16_0, hfz16_1, hfz16_2⟩ := c3_ BK195) | (go_at_call 22; (with_reducible refine (addr_Width.calls a0_0 a0_1 a0_2 t198 _ A12.out).mono ?_); rintro e w17 ⟨rfl, hb⟩; replace BK195 := bb_ BK195 hb; replace BK196 := bb_ BK196 hb; replace HB := bs_ HB hb; (try clear hb); (try clear hb2); (try clear hk); (try clear hi)))
    go_meet
    case rel => exact ⟨_, (decide (a1 > t198)), (by first | rfl | (simp; done) | (simp [*]; done)), H', ⟨by first | omega | exact Nat.le_refl _⟩, ⟨by refine pw_ ?_; exact BK195.out⟩, ⟨by refine pw_ ?_; exact BK196.out⟩, ⟨pb_ HB⟩⟩
  ·
   replace c7 := Bool.eq_false_iff.mpr c7
   subst c7
   have H1 : (prefix_Of.j0 k a1 true a0_0 a0_1 a0_2) = some (r1, r2, r3, r4, r5) := by rw [if_neg (show ¬ (false = true) by decide)] at H; exact H
   clear H
   have H := H1
   clear H1
   have H' := Aside0.mk H
   clear H
   have hnb18 := NB195_196.out
   have hnc18 := NB196_195.out
   obtain ⟨hcz19_0, hcz19_1, hcz19_2, hfz19_0, hfz19_1, hfz19_2⟩ := c3_ BK195
   go_wp2_with (first | ((with_reducible refine gate_callee (f := 18) rfl ?_); refine gl_ (some 8) Tryz.func18 #[.agg #[.bool a0_0, .int .u64 a0_1, .int .u64 a0_2]] ?_; (with_reducible refine (addr_Right.calls a0_0 a0_1 a0_2 false _ A6.out).mono ?_); rintro e w20 ⟨rfl, hb⟩; refine ⟨_, rfl, ?_⟩; replace BK195 := bb_ BK195 hb; replace BK196 := bb_ BK196 hb; replace HB := bs_ HB hb; (try clear hb); (try clear hb2); (try clear hk); (try clear hi)))
   go_meet
   case rel => exact ⟨_, (true), (by first | rfl | (simp; done) | (simp [*]; done)), H', ⟨by first | omega | exact Nat.le_refl _⟩, ⟨by refine pw_ ?_; exact BK195.out⟩, ⟨by refine pw_ ?_; exact BK196.out⟩, ⟨pb_ HB⟩⟩
 case rest =>
  clear HC3
  try clear c1
  try clear p2
  try clear c3
  try clear c7
  try clear c8
  try clear c8b0
  try clear c9
  try clear c13
  try clear c18
  try clear hcz10_0
  try clear hcz10_1
  try clear hcz10_2
  try clear hcz14_0
  try clear hcz14_1
  try clear hcz14_2
  try clear hcz16_0
  try clear hcz16_1
  try clear hcz16_2
  try clear hcz19_0
  try clear hcz19_1
  try clear hcz19_2
  try clear hfz10_0
  try clear hfz10_1
  try clear hfz10_2
  try clear hfz14_0
  try clear hfz14_1
  try clear hfz14_2
  try clear hfz16_0
  try clear hfz16_1
  try clear hfz16_2
  try clear hfz19_0
  try clear hfz19_1
  try clear hfz19_2
  obtain ⟨kq, x19_2, rfl, HA, HJ2, BK195, BK196, HB⟩ := hcut
  cases kq with
  | zero => exact absurd HA.out (by simp [prefix_Of.j0])
  | succ kj2 =>
   have H := HA.out
   clear HA
   simp only [prefix_Of.j0] at H
   by_cases c21 : x19_2 = true
   ·
    subst c21
    rw [if_pos rfl] at H
    simp only [Option.some.injEq, Prod.mk.injEq] at H
    obtain ⟨rfl, rfl, rfl, rfl, rfl⟩ := H
    have hnb22 := NB196_195.out
    have hnc22 := NB195_196.out
    obtain ⟨hcz23_0, hcz23_1, hcz23_2, hcz23_3, hfz23_0, hfz23_1, hfz23_2, hfz23_3⟩ := c4_ BK196
    go_wp2
    refine bodyPost_ret (results_ct rfl _ _ gb196 38 #[.bool false, .int .u64 0, .int .u64 0, .int .i64 0] (0, 0) _ rfl (by refine pw_ ?_; refine blk_put (cs := #[.bool false, .int .u64 0, .int .u64 0, .int .i64 0]) ?_ 3 _ rfl; refine pw_ ?_; refine blk_put (cs := #[.bool false, .int .u64 0, .int .u64 0, .int .i64 0]) ?_ 2 _ rfl; refine pw_ ?_; refine blk_put (cs := #[.bool false, .int .u64 0, .int .u64 0, .int .i64 0]) ?_ 1 _ rfl; refine pw_ ?_; refine blk_put (cs := #[.bool false, .int .u64 0, .int .u64 0, .int .i64 0]) ?_ 0 _ rfl; refine pw_ ?_; exact BK196.out) Tryz.underlying38 rfl (by kernel_rfl)) rfl ?_
    exact ⟨by first | rfl | (simp [errW_none, errW_some] <;> rfl) | (simp [*, errW_none, errW_some] <;> rfl), pb_ HB⟩
   ·
    replace c21 := Bool.eq_false_iff.mpr c21
    subst c21
    have H1 : ((prefix_free.f a0_0 a0_1 a0_2 a1).bind fun bt200 => ((num_Not.f bt200.1 bt200.2).bind fun bt202 => ((num_And.f a0_1 a0_2 bt202.1 bt202.2).bind fun bt204 => (some (a0_0, bt204.1, bt204.2, a1, 0))))) = some (r1, r2, r3, r4, r5) := by rw [if_neg (show ¬ (false = true) by decide)] at H; exact H
    clear H
    have H := H1
    clear H1
    replace H := Option.bind_eq_some_iff.mp H
    obtain ⟨⟨t200, t201⟩, A240, H⟩ := H
    replace H : ((num_Not.f t200 t201).bind fun bt202 => ((num_And.f a0_1 a0_2 bt202.1 bt202.2).bind fun bt204 => (some (a0_0, bt204.1, bt204.2, a1, 0)))) = some (r1, r2, r3, r4, r5) := H
    have A24 := Aside0.mk A240
    clear A240
    replace H := Option.bind_eq_some_iff.mp H
    obtain ⟨⟨t202, t203⟩, A250, H⟩ := H
    replace H : ((num_And.f a0_1 a0_2 t202 t203).bind fun bt204 => (some (a0_0, bt204.1, bt204.2, a1, 0))) = some (r1, r2, r3, r4, r5) := H
    have A25 := Aside0.mk A250
    clear A250
    replace H := Option.bind_eq_some_iff.mp H
    obtain ⟨⟨t204, t205⟩, A260, H⟩ := H
    replace H : (some (a0_0, t204, t205, a1, 0)) = some (r1, r2, r3, r4, r5) := H
    have A26 := Aside0.mk A260
    clear A260
    simp only [Option.some.injEq, Prod.mk.injEq] at H
    obtain ⟨rfl, rfl, rfl, rfl, rfl⟩ := H
    have hnb27 := NB195_196.out
    have hnc27 := NB196_195.out
    obtain ⟨hcz28_0, hcz28_1, hcz28_2, hfz28_0, hfz28_1, hfz28_2⟩ := c3_ BK195
    try go_wp2_with (first | ((with_reducible refine gate_dst (N := 6) rfl ?_); refine bx_ 6 #[.bool false, .int .u64 0, .int .u64 0, .int .i64 0] 38 ?_; intro gb199 hg w29 hbox hb; have BK199 := Aside0.mk (hbox); have GW199 := gw_ HB hg; have GE199 := gw_ HB hg; have NB195_199 := nl_ BK195 hg; have NB199_195 := ng_ BK195 hg; have NB196_199 := nl_ BK196 hg; have NB199_196 := ng_ BK196 hg; replace BK195 := bb_ BK195 hb; replace BK196 := bb_ BK196 hb; replace HB := bs_ HB hb; clear hb hbox hg; have hnb30 := NB199_195.out; have hnc30 := NB195_199.out; have hnb31 := NB199_196.out; have hnc31 := NB196_199.out; obtain ⟨hcz32_0, hcz32_1, hcz32_2, hcz32_3, hfz32_0, hfz32_1, hfz32_2, hfz32_3⟩ := c4_ BK199))
    have n0_ : Aside0 (((((w29.setCell ⟨gb199, 0, none⟩ (.bool a0_0)).setCell ⟨gb199, 1, none⟩ (.int .u64 a0_1)).setCell ⟨gb199, 2, none⟩ (.int .u64 a0_2)).setCell ⟨gb199, 3, none⟩ (.int .i64 a1)).heap[gb195]? = some (.cells #[.bool a0_0, .int .u64 a0_1, .int .u64 a0_2] 26 (0, 0))) := ⟨by refine pw_ ?_; refine blk_far ?_ NB195_199.out _; refine pw_ ?_; refine blk_far ?_ NB195_199.out _; refine pw_ ?_; refine blk_far ?_ NB195_199.out _; refine pw_ ?_; refine blk_far ?_ NB195_199.out _; refine pw_ ?_; exact BK195.out⟩
    have n1_ : Aside0 (((((w29.setCell ⟨gb199, 0, none⟩ (.bool a0_0)).setCell ⟨gb199, 1, none⟩ (.int .u64 a0_1)).setCell ⟨gb199, 2, none⟩ (.int .u64 a0_2)).setCell ⟨gb199, 3, none⟩ (.int .i64 a1)).heap[gb196]? = some (.cells #[.bool false, .int .u64 0, .int .u64 0, .int .i64 0] 38 (0, 0))) := ⟨by refine pw_ ?_; refine blk_far ?_ NB196_199.out _; refine pw_ ?_; refine blk_far ?_ NB196_199.out _; refine pw_ ?_; refine blk_far ?_ NB196_199.out _; refine pw_ ?_; refine blk_far ?_ NB196_199.out _; refine pw_ ?_; exact BK196.out⟩
    have n2_ : Aside0 (((((w29.setCell ⟨gb199, 0, none⟩ (.bool a0_0)).setCell ⟨gb199, 1, none⟩ (.int .u64 a0_1)).setCell ⟨gb199, 2, none⟩ (.int .u64 a0_2)).setCell ⟨gb199, 3, none⟩ (.int .i64 a1)).heap[gb199]? = some (.cells #[.bool a0_0, .int .u64 a0_1, .int .u64 a0_2, .int .i64 a1] 38 (0, 0))) := ⟨by refine pw_ ?_; refine blk_put (cs := #[.bool a0_0, .int .u64 a0_1, .int .u64 a0_2, .int .i64 0]) ?_ 3 _ rfl; refine pw_ ?_; refine blk_put (cs := #[.bool a0_0, .int .u64 a0_1, .int .u64 0, .int .i64 0]) ?_ 2 _ rfl; refine pw_ ?_; refine blk_put (cs := #[.bool a0_0, .int .u64 0, .int .u64 0, .int .i64 0]) ?_ 1 _ rfl; refine pw_ ?_; refine blk_put (cs := #[.bool false, .int .u64 0, .int .u64 0, .int .i64 0]) ?_ 0 _ rfl; refine pw_ ?_; exact BK199.out⟩
    have n3_ : Aside0 (Below w.heap.size w ((((w29.setCell ⟨gb199, 0, none⟩ (.bool a0_0)).setCell ⟨gb199, 1, none⟩ (.int .u64 a0_1)).setCell ⟨gb199, 2, none⟩ (.int .u64 a0_2)).setCell ⟨gb199, 3, none⟩ (.int .i64 a1))) := ⟨pb_ HB⟩
    (try clear BK195)
    (try clear BK196)
    (try clear BK199)
    (try clear HB)
    generalize ((((w29.setCell ⟨gb199, 0, none⟩ (.bool a0_0)).setCell ⟨gb199, 1, none⟩ (.int .u64 a0_1)).setCell ⟨gb199, 2, none⟩ (.int .u64 a0_2)).setCell ⟨gb199, 3, none⟩ (.int .i64 a1)) = w33 at n0_ n1_ n2_ n3_ ⊢
    have BK195 := n0_
    have BK196 := n1_
    have BK199 := n2_
    have HB := n3_
    clear n0_ n1_ n2_ n3_
    replace BK195 := Aside0.mk (blk_drew BK195.out)
    replace BK196 := Aside0.mk (blk_drew BK196.out)
    replace BK199 := Aside0.mk (blk_drew BK199.out)
    replace HB := Aside0.mk (below_drew1 HB.out)
    refine start_ (n := 9) (S := fun w' => w'.cell? ⟨gb195, 0, none⟩ = some (.bool a0_0) ∧ w'.cell? ⟨gb195, 1, none⟩ = some (.int .u64 a0_1) ∧ w'.cell? ⟨gb195, 2, none⟩ = some (.int .u64 a0_2) ∧ w'.cell? ⟨gb199, 0, none⟩ = some (.bool a0_0) ∧ w'.cell? ⟨gb199, 1, none⟩ = some (.int .u64 a0_1) ∧ w'.cell? ⟨gb199, 2, none⟩ = some (.int .u64 a0_2) ∧ w'.cell? ⟨gb199, 3, none⟩ = some (.int .i64 a1)) (ds := [8]) (bm_ 9 0) (by kernel_rfl) rfl rfl ⟨kc_ BK195 0, kc_ BK195 1, kc_ BK195 2, kc_ BK199 0, kc_ BK199 1, kc_ BK199 2, kc_ BK199 3⟩ (fun hHeld => ?_); refine with_tabW prefix_Of.tab4 prefix_Of.bits4 (fun HT_ HW_ => ?_)
    generalize w33.drew = w34 at BK195 BK196 BK199 HB hHeld ⊢
    refine pu_ 0 (some 24) (bm_ 9 1) rfl HT_ ⟨by rfl, by intro w'; go_simp; with_reducible rfl⟩ ?_
    refine ta_ 1 (some 25) (bm_ 9 3) rfl HT_ HW_ ⟨by rfl, by rintro w' ⟨s0, s1, s2, s3, s4, s5, s6⟩; go_simp; with_reducible rfl⟩ hHeld ?_
    refine ta_ 2 (some 26) (bm_ 9 7) rfl HT_ HW_ ⟨by rfl, by rintro w' ⟨s0, s1, s2, s3, s4, s5, s6⟩; go_simp; with_reducible rfl⟩ hHeld ?_
    refine one_ (i := 3) (N := some 27) (bm_ 9 15) rfl rfl (one_of HT_.out (by kernel_rfl)) (by decide) (fun K hK => ?_)
    refine gr_ Tryz.func85 #[.agg #[.bool a0_0, .int .u64 a0_1, .int .u64 a0_2, .int .i64 a1]] ?_
    with_reducible refine (prefix_free.calls a0_0 a0_1 a0_2 a1 t200 t201 _ A24.out).mono ?_
    rintro e w35 ⟨rfl, hb⟩
    refine ⟨_, rfl, ?_⟩
    replace BK195 := bb_ BK195 hb
    replace BK196 := bb_ BK196 hb
    replace BK199 := bb_ BK199 hb
    replace HB := bs_ HB hb
    (try clear hb)
    (try clear hb2)
    (try clear hk)
    (try clear hi)
    refine hK.out _ _ ⟨kc_ BK195 0, kc_ BK195 1, kc_ BK195 2, kc_ BK199 0, kc_ BK199 1, kc_ BK199 2, kc_ BK199 3⟩ (fun hHeld => ?_)
    clear hK K
    refine norm_ (a' := ?_) ?_ ?_
    rotate_left
    ·
     show Act.put _ (some 27) _ = _
     simp only [Act.put, List.setIfInBounds_toArray, List.set_cons_zero, List.set_cons_succ, i64_w, i32_w]
     rfl
    refine one_ (i := 4) (N := some 28) (bm_ 9 31) rfl rfl (one_of HT_.out (by kernel_rfl)) (by decide) (fun K hK => ?_)
    refine gr_ Tryz.func81 #[.agg #[.int .u64 t200, .int .u64 t201]] ?_
    with_reducible refine (num_Not.calls t200 t201 t202 t203 _ A25.out).mono ?_
    rintro e w36 ⟨rfl, hb⟩
    refine ⟨_, rfl, ?_⟩
    replace BK195 := bb_ BK195 hb
    replace BK196 := bb_ BK196 hb
    replace BK199 := bb_ BK199 hb
    replace HB := bs_ HB hb
    (try clear hb)
    (try clear hb2)
    (try clear hk)
    (try clear hi)
    refine hK.out _ _ ⟨kc_ BK195 0, kc_ BK195 1, kc_ BK195 2, kc_ BK199 0, kc_ BK199 1, kc_ BK199 2, kc_ BK199 3⟩ (fun hHeld => ?_)
    clear hK K
    refine norm_ (a' := ?_) ?_ ?_
    rotate_left
    ·
     show Act.put _ (some 28) _ = _
     simp only [Act.put, List.setIfInBounds_toArray, List.set_cons_zero, List.set_cons_succ, i64_w, i32_w]
     rfl
    refine one_ (i := 5) (N := some 29) (bm_ 9 63) rfl rfl (one_of HT_.out (by kernel_rfl)) (by decide) (fun K hK => ?_)
    refine gr_ Tryz.func79 #[.agg #[.int .u64 a0_1, .int .u64 a0_2], .agg #[.int .u64 t202, .int .u64 t203]] ?_
    with_reducible refine (num_And.calls a0_1 a0_2 t202 t203 t204 t205 _ A26.out).mono ?_
    rintro e w37 ⟨rfl, hb⟩
    refine ⟨_, rfl, ?_⟩
    replace BK195 := bb_ BK195 hb
    replace BK196 := bb_ BK196 hb
    replace BK199 := bb_ BK199 hb
    replace HB := bs_ HB hb
    (try clear hb)
    (try clear hb2)
    (try clear hk)
    (try clear hi)
    refine hK.out _ _ ⟨kc_ BK195 0, kc_ BK195 1, kc_ BK195 2, kc_ BK199 0, kc_ BK199 1, kc_ BK199 2, kc_ BK199 3⟩ (fun hHeld => ?_)
    clear hK K
    refine norm_ (a' := ?_) ?_ ?_
    rotate_left
    ·
     show Act.put _ (some 29) _ = _
     simp only [Act.put, List.setIfInBounds_toArray, List.set_cons_zero, List.set_cons_succ, i64_w, i32_w]
     rfl
    refine pu_ 6 (some 30) (bm_ 9 127) rfl HT_ ⟨by rfl, by intro w'; go_simp; with_reducible rfl⟩ ?_
    refine pu_ 7 (some 31) (bm_ 9 255) rfl HT_ ⟨by rfl, by intro w'; go_simp; with_reducible rfl⟩ ?_
    refine last_ (i := 8) (N := none) (bm_ 9 511) rfl rfl (one_of HT_.out (by kernel_rfl)) (by decide) (fun K hK => ?_)
    have hs38 : w37.cell? ⟨gb199, 1, none⟩ = some (.int .u64 a0_1) := kc_ BK199 1
    have hfs38 := blk_frozen BK199.out 1
    have hns38_0 := NB195_199.out
    have hns38_1 := NB196_199.out
    have hms38_0 := NB199_195.out
    have hms38_1 := NB199_196.out
    have hs39 : w37.cell? ⟨gb199, 2, none⟩ = some (.int .u64 a0_2) := kc_ BK199 2
    have hfs39 := blk_frozen BK199.out 2
    have hns39_0 := NB195_199.out
    have hns39_1 := NB196_199.out
    have hms39_0 := NB199_195.out
    have hms39_1 := NB199_196.out
    refine skip_ (w1 := ?_) (by rfl) rfl ?_ ?_
    rotate_left
    ·
     go_simp
     rfl
    refine hK.out _ _ ?_
    clear hK K
    refine done_ (done_of HT_.out (by kernel_rfl)) ?_
    obtain ⟨hcz40_0, hcz40_1, hcz40_2, hcz40_3, hfz40_0, hfz40_1, hfz40_2, hfz40_3⟩ := c4_ BK199
    obtain ⟨hcz41_0, hcz41_1, hcz41_2, hcz41_3, hfz41_0, hfz41_1, hfz41_2, hfz41_3⟩ := c4_ BK196
    try go_wp2
    refine bodyPost_ret (results_ct rfl _ _ gb196 38 #[.bool a0_0, .int .u64 t204, .int .u64 t205, .int .i64 a1] (0, 0) _ rfl (by refine pw_ ?_; refine blk_put (cs := #[.bool a0_0, .int .u64 t204, .int .u64 t205, .int .i64 0]) ?_ 3 _ rfl; refine pw_ ?_; refine blk_put (cs := #[.bool a0_0, .int .u64 t204, .int .u64 0, .int .i64 0]) ?_ 2 _ rfl; refine pw_ ?_; refine blk_put (cs := #[.bool a0_0, .int .u64 0, .int .u64 0, .int .i64 0]) ?_ 1 _ rfl; refine pw_ ?_; refine blk_put (cs := #[.bool false, .int .u64 0, .int .u64 0, .int .i64 0]) ?_ 0 _ rfl; refine pw_ ?_; refine blk_far ?_ NB196_199.out _; refine pw_ ?_; refine blk_far ?_ NB196_199.out _; refine pw_ ?_; exact BK196.out) Tryz.underlying38 rfl (by kernel_rfl)) rfl ?_
    exact ⟨by first | rfl | (simp [errW_none, errW_some] <;> rfl) | (simp [*, errW_none, errW_some] <;> rfl), pb_ HB⟩

end Go.Proofs.YtgdgklibilddgaaGreatDoor.PPr

namespace Go.Proofs.YtgdgklibilddgaaGreatDoor.PPr
open Go.RowKit Go.Proofs.YtgdgklibilddgaaGreatDoorW.PrintWords Go.Proofs.YtgdgklibilddgaaGreatDoorW.PrintLast Go.Proofs.YtgdgklibilddgaaGreatDoorW.PrintMore
attribute [local go_sem] max2_int min2_int max_two min_two max_three min_three max_four min_four   -- for this text's walks alone

def prefix_Common.j0 : Nat → Bool → Bool → Int → Int → Int → Bool → Int → Int → Int → Option (Bool × Int × Int × Int × Int)
 | 0, _, _, _, _, _, _, _, _, _ => none
 | k + 1, x23, x367000, x367001, x367002, x367003, x368000, x368001, x368002, x368003 => if x23 = true then (some (false, 0, 0, 0, 1)) else ((num_Or.f x367001 x367002 x368001 x368002).bind fun bt371 => ((num_And.f x367001 x367002 x368001 x368002).bind fun bt373 => ((num_Not.f bt373.1 bt373.2).bind fun bt375 => ((num_And.f bt371.1 bt371.2 bt375.1 bt375.2).bind fun bt377 => ((addr_Width.f x367000 x367001 x367002).bind fun t380 => ((num_Len.f bt377.1 bt377.2).bind fun t381 => ((prefix_Of.f k x367000 x367001 x367002 (mn (mn x367003 x368003) (wrap64 (t380 - t381)))).bind fun bt382 => (some (bt382.1, bt382.2.1, bt382.2.2.1, bt382.2.2.2.1, bt382.2.2.2.2)))))))))
def prefix_Common.f (k : Nat) (a0_0 : Bool) (a0_1 : Int) (a0_2 : Int) (a0_3 : Int) (a1_0 : Bool) (a1_1 : Int) (a1_2 : Int) (a1_3 : Int) : Option (Bool × Int × Int × Int × Int) := (prefix_Right.f a0_0 a0_1 a0_2 a0_3).bind fun t369 => (if t369 = true then ((prefix_Right.f a1_0 a1_1 a1_2 a1_3).bind fun t370 => (if t370 = true then (prefix_Common.j0 k (a0_0 != a1_0) a0_0 a0_1 a0_2 a0_3 a1_0 a1_1 a1_2 a1_3) else (prefix_Common.j0 k true a0_0 a0_1 a0_2 a0_3 a1_0 a1_1 a1_2 a1_3))) else (prefix_Common.j0 k true a0_0 a0_1 a0_2 a0_3 a1_0 a1_1 a1_2 a1_3))
def prefix_Common.T3 : Bool × List (List Nat × List Nat) := (true, [([], []), ([0], [0]), ([1], [1]), ([], []), ([3], [3]), ([4], [4]), ([2, 5], [2, 5]), ([], []), ([7], [7]), ([8], [8]), ([], []), ([10], [10]), ([11], [11]), ([9, 12, 6], [9, 12]), ([13, 13], [13]), ([6, 14, 14], [6, 14]), ([], []), ([16, 15, 15, 0, 1, 2, 3, 4, 5, 6, 7, 8, 9, 10, 11, 12, 13, 14, 15, 16], [15, 16])])
def prefix_Common.B3 : List Nat := [0, 1, 3, 0, 8, 24, 63, 0, 128, 384, 0, 1024, 3072, 8191, 16383, 32767, 0, 131071]
theorem prefix_Common.tab3 : rtab .any (opsOf Tryz.f30 3) = prefix_Common.T3 := by kernel_rfl
theorem prefix_Common.bits3 : waitsOk prefix_Common.T3.2 prefix_Common.B3 = true := by kernel_rfl
def prefix_Common.T4 : Bool × List (List Nat × List Nat) := (true, [([], []), ([0], [0]), ([], []), ([2], [2]), ([], []), ([4], [4]), ([], []), ([6], [6]), ([7], [7]), ([], []), ([9, 8], [9]), ([8, 10], [8, 10]), ([3, 5, 11], [3, 5, 11]), ([1, 12, 10], [1, 12]), ([13], [13]), ([13], [13]), ([14, 13, 0, 1, 2, 3, 4, 5, 6, 7, 8, 9, 10, 11, 12, 13, 14, 15], [14]), ([15, 16, 0, 1, 2, 3, 4, 5, 6, 7, 8, 9, 10, 11, 12, 13, 14, 15, 16], [15])])
def prefix_Common.B4 : List Nat := [0, 1, 0, 4, 0, 16, 0, 64, 192, 0, 960, 1984, 4092, 8191, 16383, 16383, 65535, 131071]
theorem prefix_Common.tab4 : rtab .any (opsOf Tryz.f30 4) = prefix_Common.T4 := by kernel_rfl
theorem prefix_Common.bits4 : waitsOk prefix_Common.T4.2 prefix_Common.B4 = true := by kernel_rfl
set_option maxHeartbeats 8000000 in
set_option maxRecDepth 100000 in
theorem prefix_Common.calls (k : Nat) (a0_0 : Bool) (a0_1 : Int) (a0_2 : Int) (a0_3 : Int) (a1_0 : Bool) (a1_1 : Int) (a1_2 : Int) (a1_3 : Int) (r1 : Bool) (r2 : Int) (r3 : Int) (r4 : Int) (r5 : Int) (w : World) (h : prefix_Common.f k a0_0 a0_1 a0_2 a0_3 a1_0 a1_1 a1_2 a1_3 = some (r1, r2, r3, r4, r5)) :
  Calls Tryz.prog 30 #[.agg #[.bool a0_0, .int .u64 a0_1, .int .u64 a0_2, .int .i64 a0_3], .agg #[.bool a1_0, .int .u64 a1_1, .int .u64 a1_2, .int .i64 a1_3]] w fun e w' => e = .returned (.tuple #[.agg #[.bool r1, .int .u64 r2, .int .u64 r3, .int .i64 r4], .int .i64 r5]) ∧ Below w.heap.size w w' := by
 have hu38 := Tryz.underlying38
 have hu24 := Tryz.underlying24
 have hu26 := Tryz.underlying26
 have HB := Aside0.mk (Below.refl w.heap.size w)
 have H : ((prefix_Right.f a0_0 a0_1 a0_2 a0_3).bind fun t369 => (if t369 = true then ((prefix_Right.f a1_0 a1_1 a1_2 a1_3).bind fun t370 => (if t370 = true then (prefix_Common.j0 k (a0_0 != a1_0) a0_0 a0_1 a0_2 a0_3 a1_0 a1_1 a1_2 a1_3) else (prefix_Common.j0 k true a0_0 a0_1 a0_2 a0_3 a1_0 a1_1 a1_2 a1_3))) else (prefix_Common.j0 k true a0_0 a0_1 a0_2 a0_3 a1_0 a1_1 a1_2 a1_3))) = some (r1, r2, r3, r4, r5) := h
 clear h
 have HC3 := Aside0.mk H
 clear H
 go_enter Tryz.func30, Tryz.ntmps30
 go_upto_region 1 with (first | ((with_reducible refine gate_dst (N := 2) rfl ?_); refine bx_ 2 #[.bool a0_0, .int .u64 a0_1, .int .u64 a0_2, .int .i64 a0_3] 38 ?_; intro gb366 hg w4 hbox hb; have BK366 := Aside0.mk (hbox); have GW366 := gw_ HB hg; have GE366 := gw_ HB hg; replace HB := bs_ HB hb; clear hb hbox hg) | ((with_reducible refine gate_dst (N := 3) rfl ?_); refine bx_ 3 #[.bool a1_0, .int .u64 a1_1, .int .u64 a1_2, .int .i64 a1_3] 38 ?_; intro gb367 hg w5 hbox hb; have BK367 := Aside0.mk (hbox); have GW367 := gw_ HB hg; have GE367 := gw_ HB hg; have NB366_367 := nl_ BK366 hg; have NB367_366 := ng_ BK366 hg; replace BK366 := bb_ BK366 hb; replace HB := bs_ HB hb; clear hb hbox hg) | ((with_reducible refine gate_dst (N := 4) rfl ?_); refine bx_ 4 #[.bool false, .int .u64 0, .int .u64 0, .int .i64 0] 38 ?_; intro gb368 hg w6 hbox hb; have BK368 := Aside0.mk (hbox); have GW368 := gw_ HB hg; have GE368 := gw_ HB hg; have NB366_368 := nl_ BK366 hg; have NB368_366 := ng_ BK366 hg; have NB367_368 := nl_ BK367 hg; have NB368_367 := ng_ BK367 hg; replace BK366 := bb_ BK366 hb; replace BK367 := bb_ BK367 hb; replace HB := bs_ HB hb; clear hb hbox hg))
 (try simp only [Act.put, List.setIfInBounds_toArray, List.set_cons_zero, List.set_cons_succ])
 go_cut [23] (fun v23 wc => ∃ (kq : Nat) (x23_2 : Bool), v23 = .bool x23_2 ∧ Aside0 (prefix_Common.j0 kq x23_2 a0_0 a0_1 a0_2 a0_3 a1_0 a1_1 a1_2 a1_3 = some (r1, r2, r3, r4, r5)) ∧ Aside0 (kq ≤ k) ∧ Aside0 (wc.heap[gb366]? = some (.cells #[.bool a0_0, .int .u64 a0_1, .int .u64 a0_2, .int .i64 a0_3] 38 (0, 0))) ∧ Aside0 (wc.heap[gb367]? = some (.cells #[.bool a1_0, .int .u64 a1_1, .int .u64 a1_2, .int .i64 a1_3] 38 (0, 0))) ∧ Aside0 (wc.heap[gb368]? = some (.cells #[.bool false, .int .u64 0, .int .u64 0, .int .i64 0] 38 (0, 0))) ∧ Aside0 (Below w.heap.size w wc))
 case first =>
  have H := HC3.out
  clear HC3
  replace H := Option.bind_eq_some_iff.mp H
  obtain ⟨t369, A70, H⟩ := H
  replace H : (if t369 = true then ((prefix_Right.f a1_0 a1_1 a1_2 a1_3).bind fun t370 => (if t370 = true then (prefix_Common.j0 k (a0_0 != a1_0) a0_0 a0_1 a0_2 a0_3 a1_0 a1_1 a1_2 a1_3) else (prefix_Common.j0 k true a0_0 a0_1 a0_2 a0_3 a1_0 a1_1 a1_2 a1_3))) else (prefix_Common.j0 k true a0_0 a0_1 a0_2 a0_3 a1_0 a1_1 a1_2 a1_3)) = some (r1, r2, r3, r4, r5) := H
  have A7 := Aside0.mk A70
  clear A70
  by_cases c8 : t369 = true
  ·
   subst c8
   rw [if_pos rfl] at H
   replace H := Option.bind_eq_some_iff.mp H
   obtain ⟨t370, A90, H⟩ := H
   replace H : (if t370 = true then (prefix_Common.j0 k (a0_0 != a1_0) a0_0 a0_1 a0_2 a0_3 a1_0 a1_1 a1_2 a1_3) else (prefix_Common.j0 k true a0_0 a0_1 a0_2 a0_3 a1_0 a1_1 a1_2 a1_3)) = some (r1, r2, r3, r4, r5) := H
   have A9 := Aside0.mk A90
   clear A90
   by_cases c10 : t370 = true
   ·
    subst c10
    rw [if_pos rfl] at H
    have H' := Aside0.mk H
    clear H
    have hnb11 := NB366_367.out
    have hnc11 := NB367_366.out
    have hnb12 := NB366_368.out
    have hnc12 := NB368_366.out
    obtain ⟨hcz13_0, hcz13_1, hcz13_2, hcz13_3, hfz13_0, hfz13_1, hfz13_2, hfz13_3⟩ := c4_ BK366
    go_wp2_with (first | ((with_reducible refine gate_callee (f := 36) rfl ?_); refine gl_ (some 8) Tryz.func36 #[.agg #[.bool a0_0, .int .u64 a0_1, .int .u64 a0_2, .int .i64 a0_3]] ?_; (with_reducible refine (prefix_Right.calls a0_0 a0_1 a0_2 a0_3 true _ A7.out).mono ?_); rintro e w14 ⟨rfl, hb⟩; refine ⟨_, rfl, ?_⟩; replace BK366 := bb_ BK366 hb; replace BK367 := bb_ BK367 hb; replace BK368 := bb_ BK368 hb; replace HB := bs_ HB hb; (try clear hb); (try clear hb2); (try clear hk); (try clear hi); have hnb15 := NB367_368.out; have hnc15 := NB368_367.out; obtain ⟨hcz16_0, hcz16_1, hcz16_2, hcz16_3, hfz16_0, hfz16_1, hfz16_2, hfz16_3⟩ := c4_ BK367) | (go_at_call 36; (with_reducible refine (prefix_Right.calls a1_0 a1_1 a1_2 a1_3 true _ A9.out).mono ?_); rintro e w17 ⟨rfl, hb⟩; replace BK366 := bb_ BK366 hb; replace BK367 := bb_ BK367 hb; replace BK368 := bb_ BK368 hb; replace HB := bs_ HB hb; (try clear hb); (try clear hb2); (try clear hk); (try clear hi); obtain ⟨hcz18_0, hcz18_1, hcz18_2, hcz18_3, hfz18_0, hfz18_1, hfz18_2, hfz18_3⟩ := c4_ BK366; obtain ⟨hcz19_0, hcz19_1, hcz19_2, hcz19_3, hfz19_0, hfz19_1, hfz19_2, hfz19_3⟩ := c4_ BK367))
    go_meet
    case rel => exact ⟨_, ((a0_0 != a1_0)), (by first | rfl | (simp; done) | (simp [*]; done)), H', ⟨by first | omega | exact Nat.le_refl _⟩, ⟨by refine pw_ ?_; exact BK366.out⟩, ⟨by refine pw_ ?_; exact BK367.out⟩, ⟨by refine pw_ ?_; exact BK368.out⟩, ⟨pb_ HB⟩⟩
   ·
    replace c10 := Bool.eq_false_iff.mpr c10
    subst c10
    have H1 : (prefix_Common.j0 k true a0_0 a0_1 a0_2 a0_3 a1_0 a1_1 a1_2 a1_3) = some (r1, r2, r3, r4, r5) := by rw [if_neg (show ¬ (false = true) by decide)] at H; exact H
    clear H
    have H := H1
    clear H1
    have H' := Aside0.mk H
    clear H
    have hnb20 := NB366_367.out
    have hnc20 := NB367_366.out
    have hnb21 := NB366_368.out
    have hnc21 := NB368_366.out
    obtain ⟨hcz22_0, hcz22_1, hcz22_2, hcz22_3, hfz22_0, hfz22_1, hfz22_2, hfz22_3⟩ := c4_ BK366
    go_wp2_with (first | ((with_reducible refine gate_callee (f := 36) rfl ?_); refine gl_ (some 8) Tryz.func36 #[.agg #[.bool a0_0, .int .u64 a0_1, .int .u64 a0_2, .int .i64 a0_3]] ?_; (with_reducible refine (prefix_Right.calls a0_0 a0_1 a0_2 a0_3 true _ A7.out).mono ?_); rintro e w23 ⟨rfl, hb⟩; refine ⟨_, rfl, ?_⟩; replace BK366 := bb_ BK366 hb; replace BK367 := bb_ BK367 hb; replace BK368 := bb_ BK368 hb; replace HB := bs_ HB hb; (try clear hb); (try clear hb2); (try clear hk); (try clear hi); have hnb24 := NB367_368.out; have hnc24 := NB368_367.out; obtain ⟨hcz25_0, hcz25_1, hcz25_2, hcz25_3, hfz25_0, hfz25_1, hfz25_2, hfz25_3⟩ := c4_ BK367) | (go_at_call 36; (with_reducible refine (prefix_Right.calls a1_0 a1_1 a1_2 a1_3 false _ A9.out).mono ?_); rintro e w26 ⟨rfl, hb⟩; replace BK366 := bb_ BK366 hb; replace BK367 := bb_ BK367 hb; replace BK368 := bb_ BK368 hb; replace HB := bs_ HB hb; (try clear hb); (try clear hb2); (try clear hk); (try clear hi)))
    go_meet
    case rel => exact ⟨_, (true), (by first | rfl | (simp; done) | (simp [*]; done)), H', ⟨by first | omega | exact Nat.le_refl _⟩, ⟨by refine pw_ ?_; exact BK366.out⟩, ⟨by refine pw_ ?_; exact BK367.out⟩, ⟨by refine pw_ ?_; exact BK368.out⟩, ⟨pb_ HB⟩⟩
  ·
   replace c8 := Bool.eq_false_iff.mpr c8
   subst c8
   have H1 : (prefix_Common.j0 k true a0_0 a0_1 a0_2 a0_3 a1_0 a1_1 a1_2 a1_3) = some (r1, r2, r3, r4, r5) := by rw [if_neg (show ¬ (false = true) by decide)] at H; exact H
   clear H
   have H := H1
   clear H1
   have H' := Aside0.mk H
   clear H
   have hnb27 := NB366_367.out
   have hnc27 := NB367_366.out
   have hnb28 := NB366_368.out
   have hnc28 := NB368_366.out
   obtain ⟨hcz29_0, hcz29_1, hcz29_2, hcz29_3, hfz29_0, hfz29_1, hfz29_2, hfz29_3⟩ := c4_ BK366
   go_wp2_with (first | ((with_reducible refine gate_callee (f := 36) rfl ?_); refine gl_ (some 8) Tryz.func36 #[.agg #[.bool a0_0, .int .u64 a0_1, .int .u64 a0_2, .int .i64 a0_3]] ?_; (with_reducible refine (prefix_Right.calls a0_0 a0_1 a0_2 a0_3 false _ A7.out).mono ?_); rintro e w30 ⟨rfl, hb⟩; refine ⟨_, rfl, ?_⟩; replace BK366 := bb_ BK366 hb; replace BK367 := bb_ BK367 hb; replace BK368 := bb_ BK368 hb; replace HB := bs_ HB hb; (try clear hb); (try clear hb2); (try clear hk); (try clear hi)))
   go_meet
   case rel => exact ⟨_, (true), (by first | rfl | (simp; done) | (simp [*]; done)), H', ⟨by first | omega | exact Nat.le_refl _⟩, ⟨by refine pw_ ?_; exact BK366.out⟩, ⟨by refine pw_ ?_; exact BK367.out⟩, ⟨by refine pw_ ?_; exact BK368.out⟩, ⟨pb_ HB⟩⟩
 case rest =>
  clear HC3
  try clear c1
  try clear c2
  try clear p2
  try clear c3
  try clear c8
  try clear c10
  try clear c11
  try clear c12
  try clear c15
  try clear c20
  try clear c21
  try clear c24
  try clear c27
  try clear c28
  try clear c30
  try clear hcz13_0
  try clear hcz13_1
  try clear hcz13_2
  try clear hcz13_3
  try clear hcz16_0
  try clear hcz16_1
  try clear hcz16_2
  try clear hcz16_3
  try clear hcz18_0
  try clear hcz18_1
  try clear hcz18_2
  try clear hcz18_3
  try clear hcz19_0
  try clear hcz19_1
  try clear hcz19_2
  try clear hcz19_3
  try clear hcz22_0
  try clear hcz22_1
  try clear hcz22_2
  try clear hcz22_3
  try clear hcz25_0
  try clear hcz25_1
  try clear hcz25_2
  try clear hcz25_3
  try clear hcz29_0
  try clear hcz29_1
  try clear hcz29_2
  try clear hcz29_3
  try clear hfz13_0
  try clear hfz13_1
  try clear hfz13_2
  try clear hfz13_3
  try clear hfz16_0
  try clear hfz16_1
  try clear hfz16_2
  try clear hfz16_3
  try clear hfz18_0
  try clear hfz18_1
  try clear hfz18_2
  try clear hfz18_3
  try clear hfz19_0
  try clear hfz19_1
  try clear hfz19_2
  try clear hfz19_3
  try clear hfz22_0
  try clear hfz22_1
  try clear hfz22_2
  try clear hfz22_3
  try clear hfz25_0
  try clear hfz25_1
  try clear hfz25_2
  try clear hfz25_3
  try clear hfz29_0
  try clear hfz29_1
  try clear hfz29_2
  try clear hfz29_3
  obtain ⟨kq, x23_2, rfl, HA, HJ2, BK366, BK367, BK368, HB⟩ := hcut
  cases kq with
  | zero => exact absurd HA.out (by simp [prefix_Common.j0])
  | succ kj2 =>
   have H := HA.out
   clear HA
   simp only [prefix_Common.j0] at H
   by_cases c31 : x23_2 = true
   ·
    subst c31
    rw [if_pos rfl] at H
    simp only [Option.some.injEq, Prod.mk.injEq] at H
    obtain ⟨rfl, rfl, rfl, rfl, rfl⟩ := H
    have hnb32 := NB368_366.out
    have hnc32 := NB366_368.out
    have hnb33 := NB368_367.out
    have hnc33 := NB367_368.out
    obtain ⟨hcz34_0, hcz34_1, hcz34_2, hcz34_3, hfz34_0, hfz34_1, hfz34_2, hfz34_3⟩ := c4_ BK368
    go_wp2
    refine bodyPost_ret (results_ct rfl _ _ gb368 38 #[.bool false, .int .u64 0, .int .u64 0, .int .i64 0] (0, 0) _ rfl (by refine pw_ ?_; refine blk_put (cs := #[.bool false, .int .u64 0, .int .u64 0, .int .i64 0]) ?_ 3 _ rfl; refine pw_ ?_; refine blk_put (cs := #[.bool false, .int .u64 0, .int .u64 0, .int .i64 0]) ?_ 2 _ rfl; refine pw_ ?_; refine blk_put (cs := #[.bool false, .int .u64 0, .int .u64 0, .int .i64 0]) ?_ 1 _ rfl; refine pw_ ?_; refine blk_put (cs := #[.bool false, .int .u64 0, .int .u64 0, .int .i64 0]) ?_ 0 _ rfl; refine pw_ ?_; exact BK368.out) Tryz.underlying38 rfl (by kernel_rfl)) rfl ?_
    exact ⟨by first | rfl | (simp [errW_none, errW_some] <;> rfl) | (simp [*, errW_none, errW_some] <;> rfl), pb_ HB⟩
   ·
    replace c31 := Bool.eq_false_iff.mpr c31
    subst c31
    have H1 : ((num_Or.f a0_1 a0_2 a1_1 a1_2).bind fun bt371 => ((num_And.f a0_1 a0_2 a1_1 a1_2).bind fun bt373 => ((num_Not.f bt373.1 bt373.2).bind fun bt375 => ((num_And.f bt371.1 bt371.2 bt375.1 bt375.2).bind fun bt377 => ((addr_Width.f a0_0 a0_1 a0_2).bind fun t380 => ((num_Len.f bt377.1 bt377.2).bind fun t381 => ((prefix_Of.f kj2 a0_0 a0_1 a0_2 (mn (mn a0_3 a1_3) (wrap64 (t380 - t381)))).bind fun bt382 => (some (bt382.1, bt382.2.1, bt382.2.2.1, bt382.2.2.2.1, bt382.2.2.2.2))))))))) = some (r1, r2, r3, r4, r5) := by rw [if_neg (show ¬ (false = true) by decide)] at H; exact H
    clear H
    have H := H1
    clear H1
    replace H := Option.bind_eq_some_iff.mp H
    obtain ⟨⟨t371, t372⟩, A350, H⟩ := H
    replace H : ((num_And.f a0_1 a0_2 a1_1 a1_2).bind fun bt373 => ((num_Not.f bt373.1 bt373.2).bind fun bt375 => ((num_And.f t371 t372 bt375.1 bt375.2).bind fun bt377 => ((addr_Width.f a0_0 a0_1 a0_2).bind fun t380 => ((num_Len.f bt377.1 bt377.2).bind fun t381 => ((prefix_Of.f kj2 a0_0 a0_1 a0_2 (mn (mn a0_3 a1_3) (wrap64 (t380 - t381)))).bind fun bt382 => (some (bt382.1, bt382.2.1, bt382.2.2.1, bt382.2.2.2.1, bt382.2.2.2.2)))))))) = some (r1, r2, r3, r4, r5) := H
    have A35 := Aside0.mk A350
    clear A350
    replace H := Option.bind_eq_some_iff.mp H
    obtain ⟨⟨t373, t374⟩, A360, H⟩ := H
    replace H : ((num_Not.f t373 t374).bind fun bt375 => ((num_And.f t371 t372 bt375.1 bt375.2).bind fun bt377 => ((addr_Width.f a0_0 a0_1 a0_2).bind fun t380 => ((num_Len.f bt377.1 bt377.2).bind fun t381 => ((prefix_Of.f kj2 a0_0 a0_1 a0_2 (mn (mn a0_3 a1_3) (wrap64 (t380 - t381)))).bind fun bt382 => (some (bt382.1, bt382.2.1, bt382.2.2.1, bt382.2.2.2.1, bt382.2.2.2.2))))))) = some (r1, r2, r3, r4, r5) := H
    have A36 := Aside0.mk A360
    clear A360
    replace H := Option.bind_eq_some_iff.mp H
    obtain ⟨⟨t375, t376⟩, A370, H⟩ := H
    replace H : ((num_And.f t371 t372 t375 t376).bind fun bt377 => ((addr_Width.f a0_0 a0_1 a0_2).bind fun t380 => ((num_Len.f bt377.1 bt377.2).bind fun t381 => ((prefix_Of.f kj2 a0_0 a0_1 a0_2 (mn (mn a0_3 a1_3) (wrap64 (t380 - t381)))).bind fun bt382 => (some (bt382.1, bt382.2.1, bt382.2.2.1, bt382.2.2.2.1, bt382.2.2.2.2)))))) = some (r1, r2, r3, r4, r5) := H
    have A37 := Aside0.mk A370
    clear A370
    replace H := Option.bind_eq_some_iff.mp H
    obtain ⟨⟨t377, t378⟩, A380, H⟩ := H
    replace H : ((addr_Width.f a0_0 a0_1 a0_2).bind fun t380 => ((num_Len.f t377 t378).bind fun t381 => ((prefix_Of.f kj2 a0_0 a0_1 a0_2 (mn (mn a0_3 a1_3) (wrap64 (t380 - t381)))).bind fun bt382 => (some (bt382.1, bt382.2.1, bt382.2.2.1, bt382.2.2.2.1, bt382.2.2.2.2))))) = some (r1, r2, r3, r4, r5) := H
    have A38 := Aside0.mk A380
    clear A380
    replace H := Option.bind_eq_some_iff.mp H
    obtain ⟨t380, A390, H⟩ := H
    replace H : ((num_Len.f t377 t378).bind fun t381 => ((prefix_Of.f kj2 a0_0 a0_1 a0_2 (mn (mn a0_3 a1_3) (wrap64 (t380 - t381)))).bind fun bt382 => (some (bt382.1, bt382.2.1, bt382.2.2.1, bt382.2.2.2.1, bt382.2.2.2.2)))) = some (r1, r2, r3, r4, r5) := H
    have A39 := Aside0.mk A390
    clear A390
    replace H := Option.bind_eq_some_iff.mp H
    obtain ⟨t381, A400, H⟩ := H
    replace H : ((prefix_Of.f kj2 a0_0 a0_1 a0_2 (mn (mn a0_3 a1_3) (wrap64 (t380 - t381)))).bind fun bt382 => (some (bt382.1, bt382.2.1, bt382.2.2.1, bt382.2.2.2.1, bt382.2.2.2.2))) = some (r1, r2, r3, r4, r5) := H
    have A40 := Aside0.mk A400
    clear A400
    obtain ⟨ji41, hji41⟩ : ∃ j_ : Int, (mn a0_3 a1_3) = j_ := ⟨_, rfl⟩
    replace H : ((prefix_Of.f kj2 a0_0 a0_1 a0_2 (mn (ji41) (wrap64 (t380 - t381)))).bind fun bt382 => (some (bt382.1, bt382.2.1, bt382.2.2.1, bt382.2.2.2.1, bt382.2.2.2.2))) = some (r1, r2, r3, r4, r5) := by first | (rw [hji41] at H; exact H) | (simp only [hji41] at H ⊢; exact H)
    (try rw [hji41] at A35)
    (try rw [hji41] at A36)
    (try rw [hji41] at A37)
    (try rw [hji41] at A38)
    (try rw [hji41] at A39)
    (try rw [hji41] at A40)
    have hji41_ : (if a1_3 < a0_3 then a1_3 else a0_3) = ji41 := hji41
    obtain ⟨ji42, hji42⟩ : ∃ j_ : Int, (mn (ji41) (wrap64 (t380 - t381))) = j_ := ⟨_, rfl⟩
    replace H : ((prefix_Of.f kj2 a0_0 a0_1 a0_2 (ji42)).bind fun bt382 => (some (bt382.1, bt382.2.1, bt382.2.2.1, bt382.2.2.2.1, bt382.2.2.2.2))) = some (r1, r2, r3, r4, r5) := by first | (rw [hji42] at H; exact H) | (simp only [hji42] at H ⊢; exact H)
    (try rw [hji42] at A35)
    (try rw [hji42] at A36)
    (try rw [hji42] at A37)
    (try rw [hji42] at A38)
    (try rw [hji42] at A39)
    (try rw [hji42] at A40)
    have hji42_ : (if (wrap64 (t380 - t381)) < (ji41) then (wrap64 (t380 - t381)) else (ji41)) = ji42 := hji42
    replace H := Option.bind_eq_some_iff.mp H
    obtain ⟨⟨t382, t383, t384, t385, t386⟩, A430, H⟩ := H
    replace H : (some (t382, t383, t384, t385, t386)) = some (r1, r2, r3, r4, r5) := H
    have A43 := Aside0.mk A430
    clear A430
    simp only [Option.some.injEq, Prod.mk.injEq] at H
    obtain ⟨rfl, rfl, rfl, rfl, rfl⟩ := H
    try go_wp2
    replace BK366 := Aside0.mk (blk_drew BK366.out)
    replace BK367 := Aside0.mk (blk_drew BK367.out)
    replace BK368 := Aside0.mk (blk_drew BK368.out)
    replace HB := Aside0.mk (below_drew1 HB.out)
    refine start_ (n := 18) (S := fun w' => w'.cell? ⟨gb366, 0, none⟩ = some (.bool a0_0) ∧ w'.cell? ⟨gb366, 1, none⟩ = some (.int .u64 a0_1) ∧ w'.cell? ⟨gb366, 2, none⟩ = some (.int .u64 a0_2) ∧ w'.cell? ⟨gb366, 3, none⟩ = some (.int .i64 a0_3) ∧ w'.cell? ⟨gb367, 0, none⟩ = some (.bool a1_0) ∧ w'.cell? ⟨gb367, 1, none⟩ = some (.int .u64 a1_1) ∧ w'.cell? ⟨gb367, 2, none⟩ = some (.int .u64 a1_2) ∧ w'.cell? ⟨gb367, 3, none⟩ = some (.int .i64 a1_3)) (ds := []) (bm_ 18 0) (by kernel_rfl) rfl rfl ⟨kc_ BK366 0, kc_ BK366 1, kc_ BK366 2, kc_ BK366 3, kc_ BK367 0, kc_ BK367 1, kc_ BK367 2, kc_ BK367 3⟩ (fun hHeld => ?_); refine with_tabW prefix_Common.tab3 prefix_Common.bits3 (fun HT_ HW_ => ?_)
    generalize wc.drew = w44 at BK366 BK367 BK368 HB hHeld ⊢
    refine pu_ 0 (some 25) (bm_ 18 1) rfl HT_ ⟨by rfl, by intro w'; go_simp; with_reducible rfl⟩ ?_
    refine pu_ 1 (some 26) (bm_ 18 3) rfl HT_ ⟨by rfl, by intro w'; go_simp; with_reducible rfl⟩ ?_
    refine pu_ 3 (some 28) (bm_ 18 11) rfl HT_ ⟨by rfl, by intro w'; go_simp; with_reducible rfl⟩ ?_
    refine pu_ 4 (some 29) (bm_ 18 27) rfl HT_ ⟨by rfl, by intro w'; go_simp; with_reducible rfl⟩ ?_
    refine pu_ 7 (some 32) (bm_ 18 155) rfl HT_ ⟨by rfl, by intro w'; go_simp; with_reducible rfl⟩ ?_
    refine pu_ 8 (some 33) (bm_ 18 411) rfl HT_ ⟨by rfl, by intro w'; go_simp; with_reducible rfl⟩ ?_
    refine pu_ 10 (some 35) (bm_ 18 1435) rfl HT_ ⟨by rfl, by intro w'; go_simp; with_reducible rfl⟩ ?_
    refine pu_ 11 (some 36) (bm_ 18 3483) rfl HT_ ⟨by rfl, by intro w'; go_simp; with_reducible rfl⟩ ?_
    refine ta_ 2 (some 27) (bm_ 18 3487) rfl HT_ HW_ ⟨by rfl, by rintro w' ⟨s0, s1, s2, s3, s4, s5, s6, s7⟩; go_simp; with_reducible rfl⟩ hHeld ?_
    refine ta_ 5 (some 30) (bm_ 18 3519) rfl HT_ HW_ ⟨by rfl, by rintro w' ⟨s0, s1, s2, s3, s4, s5, s6, s7⟩; go_simp; with_reducible rfl⟩ hHeld ?_
    refine ta_ 9 (some 34) (bm_ 18 4031) rfl HT_ HW_ ⟨by rfl, by rintro w' ⟨s0, s1, s2, s3, s4, s5, s6, s7⟩; go_simp; with_reducible rfl⟩ hHeld ?_
    refine ta_ 12 (some 37) (bm_ 18 8127) rfl HT_ HW_ ⟨by rfl, by rintro w' ⟨s0, s1, s2, s3, s4, s5, s6, s7⟩; go_simp; with_reducible rfl⟩ hHeld ?_
    refine join_ (σ := Nat) 1 (bm_ 18 131071) (fun s_ => [(31, .agg #[.int .u64 t371, .int .u64 t372]), (38, .agg #[.int .u64 t373, .int .u64 t374]), (39, .agg #[.int .u64 t375, .int .u64 t376]), (40, .agg #[.int .u64 t377, .int .u64 t378]), (6, .pointer (some ⟨s_, 0, none⟩))]) (fun s_ w' => (w'.cell? ⟨gb366, 0, none⟩ = some (.bool a0_0) ∧ w'.cell? ⟨gb366, 1, none⟩ = some (.int .u64 a0_1) ∧ w'.cell? ⟨gb366, 2, none⟩ = some (.int .u64 a0_2) ∧ w'.cell? ⟨gb366, 3, none⟩ = some (.int .i64 a0_3) ∧ w'.cell? ⟨gb367, 0, none⟩ = some (.bool a1_0) ∧ w'.cell? ⟨gb367, 1, none⟩ = some (.int .u64 a1_1) ∧ w'.cell? ⟨gb367, 2, none⟩ = some (.int .u64 a1_2) ∧ w'.cell? ⟨gb367, 3, none⟩ = some (.int .i64 a1_3)) ∧ (w'.heap[gb366]? = some (.cells #[.bool a0_0, .int .u64 a0_1, .int .u64 a0_2, .int .i64 a0_3] 38 (0, 0))) ∧ (w'.heap[gb367]? = some (.cells #[.bool a1_0, .int .u64 a1_1, .int .u64 a1_2, .int .i64 a1_3] 38 (0, 0))) ∧ (w'.heap[gb368]? = some (.cells #[.bool false, .int .u64 0, .int .u64 0, .int .i64 0] 38 (0, 0))) ∧ (w'.heap[s_]? = some (.cells #[.int .u64 0, .int .u64 0] 24 (0, 0))) ∧ (w.heap.size ≤ s_) ∧ (w.heap.size ≤ s_) ∧ (gb366 ≠ s_) ∧ (s_ ≠ gb366) ∧ (gb367 ≠ s_) ∧ (s_ ≠ gb367) ∧ (gb368 ≠ s_) ∧ (s_ ≠ gb368) ∧ (Below w.heap.size w w')) ?_ ?_
    rotate_left
    ·
     intro hJ6_13_14_15_16
     refine join_ (σ := Unit) 2 (bm_ 18 65535) (fun s_ => [(31, .agg #[.int .u64 t371, .int .u64 t372]), (38, .agg #[.int .u64 t373, .int .u64 t374]), (39, .agg #[.int .u64 t375, .int .u64 t376]), (40, .agg #[.int .u64 t377, .int .u64 t378])]) (fun s_ w' => (w'.cell? ⟨gb366, 0, none⟩ = some (.bool a0_0) ∧ w'.cell? ⟨gb366, 1, none⟩ = some (.int .u64 a0_1) ∧ w'.cell? ⟨gb366, 2, none⟩ = some (.int .u64 a0_2) ∧ w'.cell? ⟨gb366, 3, none⟩ = some (.int .i64 a0_3) ∧ w'.cell? ⟨gb367, 0, none⟩ = some (.bool a1_0) ∧ w'.cell? ⟨gb367, 1, none⟩ = some (.int .u64 a1_1) ∧ w'.cell? ⟨gb367, 2, none⟩ = some (.int .u64 a1_2) ∧ w'.cell? ⟨gb367, 3, none⟩ = some (.int .i64 a1_3)) ∧ (w'.heap[gb366]? = some (.cells #[.bool a0_0, .int .u64 a0_1, .int .u64 a0_2, .int .i64 a0_3] 38 (0, 0))) ∧ (w'.heap[gb367]? = some (.cells #[.bool a1_0, .int .u64 a1_1, .int .u64 a1_2, .int .i64 a1_3] 38 (0, 0))) ∧ (w'.heap[gb368]? = some (.cells #[.bool false, .int .u64 0, .int .u64 0, .int .i64 0] 38 (0, 0))) ∧ (Below w.heap.size w w')) ?_ ?_
     rotate_left
     ·
      intro hJ6_13_14_15
      refine join_ (σ := Nat) 2 (bm_ 18 98303) (fun s_ => [(31, .agg #[.int .u64 t371, .int .u64 t372]), (38, .agg #[.int .u64 t373, .int .u64 t374]), (39, .agg #[.int .u64 t375, .int .u64 t376]), (6, .pointer (some ⟨s_, 0, none⟩))]) (fun s_ w' => (w'.cell? ⟨gb366, 0, none⟩ = some (.bool a0_0) ∧ w'.cell? ⟨gb366, 1, none⟩ = some (.int .u64 a0_1) ∧ w'.cell? ⟨gb366, 2, none⟩ = some (.int .u64 a0_2) ∧ w'.cell? ⟨gb366, 3, none⟩ = some (.int .i64 a0_3) ∧ w'.cell? ⟨gb367, 0, none⟩ = some (.bool a1_0) ∧ w'.cell? ⟨gb367, 1, none⟩ = some (.int .u64 a1_1) ∧ w'.cell? ⟨gb367, 2, none⟩ = some (.int .u64 a1_2) ∧ w'.cell? ⟨gb367, 3, none⟩ = some (.int .i64 a1_3)) ∧ (w'.heap[gb366]? = some (.cells #[.bool a0_0, .int .u64 a0_1, .int .u64 a0_2, .int .i64 a0_3] 38 (0, 0))) ∧ (w'.heap[gb367]? = some (.cells #[.bool a1_0, .int .u64 a1_1, .int .u64 a1_2, .int .i64 a1_3] 38 (0, 0))) ∧ (w'.heap[gb368]? = some (.cells #[.bool false, .int .u64 0, .int .u64 0, .int .i64 0] 38 (0, 0))) ∧ (w'.heap[s_]? = some (.cells #[.int .u64 0, .int .u64 0] 24 (0, 0))) ∧ (w.heap.size ≤ s_) ∧ (w.heap.size ≤ s_) ∧ (gb366 ≠ s_) ∧ (s_ ≠ gb366) ∧ (gb367 ≠ s_) ∧ (s_ ≠ gb367) ∧ (gb368 ≠ s_) ∧ (s_ ≠ gb368) ∧ (Below w.heap.size w w')) ?_ ?_
      rotate_left
      ·
       intro hJ6_13_14_16
       refine join_ (σ := Unit) 3 (bm_ 18 32767) (fun s_ => [(31, .agg #[.int .u64 t371, .int .u64 t372]), (38, .agg #[.int .u64 t373, .int .u64 t374]), (39, .agg #[.int .u64 t375, .int .u64 t376])]) (fun s_ w' => (w'.cell? ⟨gb366, 0, none⟩ = some (.bool a0_0) ∧ w'.cell? ⟨gb366, 1, none⟩ = some (.int .u64 a0_1) ∧ w'.cell? ⟨gb366, 2, none⟩ = some (.int .u64 a0_2) ∧ w'.cell? ⟨gb366, 3, none⟩ = some (.int .i64 a0_3) ∧ w'.cell? ⟨gb367, 0, none⟩ = some (.bool a1_0) ∧ w'.cell? ⟨gb367, 1, none⟩ = some (.int .u64 a1_1) ∧ w'.cell? ⟨gb367, 2, none⟩ = some (.int .u64 a1_2) ∧ w'.cell? ⟨gb367, 3, none⟩ = some (.int .i64 a1_3)) ∧ (w'.heap[gb366]? = some (.cells #[.bool a0_0, .int .u64 a0_1, .int .u64 a0_2, .int .i64 a0_3] 38 (0, 0))) ∧ (w'.heap[gb367]? = some (.cells #[.bool a1_0, .int .u64 a1_1, .int .u64 a1_2, .int .i64 a1_3] 38 (0, 0))) ∧ (w'.heap[gb368]? = some (.cells #[.bool false, .int .u64 0, .int .u64 0, .int .i64 0] 38 (0, 0))) ∧ (Below w.heap.size w w')) ?_ ?_
       rotate_left
       ·
        intro hJ6_13_14
        refine join_ (σ := Nat) 3 (bm_ 18 81919) (fun s_ => [(31, .agg #[.int .u64 t371, .int .u64 t372]), (38, .agg #[.int .u64 t373, .int .u64 t374]), (6, .pointer (some ⟨s_, 0, none⟩))]) (fun s_ w' => (w'.cell? ⟨gb366, 0, none⟩ = some (.bool a0_0) ∧ w'.cell? ⟨gb366, 1, none⟩ = some (.int .u64 a0_1) ∧ w'.cell? ⟨gb366, 2, none⟩ = some (.int .u64 a0_2) ∧ w'.cell? ⟨gb366, 3, none⟩ = some (.int .i64 a0_3) ∧ w'.cell? ⟨gb367, 0, none⟩ = some (.bool a1_0) ∧ w'.cell? ⟨gb367, 1, none⟩ = some (.int .u64 a1_1) ∧ w'.cell? ⟨gb367, 2, none⟩ = some (.int .u64 a1_2) ∧ w'.cell? ⟨gb367, 3, none⟩ = some (.int .i64 a1_3)) ∧ (w'.heap[gb366]? = some (.cells #[.bool a0_0, .int .u64 a0_1, .int .u64 a0_2, .int .i64 a0_3] 38 (0, 0))) ∧ (w'.heap[gb367]? = some (.cells #[.bool a1_0, .int .u64 a1_1, .int .u64 a1_2, .int .i64 a1_3] 38 (0, 0))) ∧ (w'.heap[gb368]? = some (.cells #[.bool false, .int .u64 0, .int .u64 0, .int .i64 0] 38 (0, 0))) ∧ (w'.heap[s_]? = some (.cells #[.int .u64 0, .int .u64 0] 24 (0, 0))) ∧ (w.heap.size ≤ s_) ∧ (w.heap.size ≤ s_) ∧ (gb366 ≠ s_) ∧ (s_ ≠ gb366) ∧ (gb367 ≠ s_) ∧ (s_ ≠ gb367) ∧ (gb368 ≠ s_) ∧ (s_ ≠ gb368) ∧ (Below w.heap.size w w')) ?_ ?_
        rotate_left
        ·
         intro hJ6_13_16
         refine join_ (σ := Unit) 4 (bm_ 18 16383) (fun s_ => [(31, .agg #[.int .u64 t371, .int .u64 t372]), (38, .agg #[.int .u64 t373, .int .u64 t374])]) (fun s_ w' => (w'.cell? ⟨gb366, 0, none⟩ = some (.bool a0_0) ∧ w'.cell? ⟨gb366, 1, none⟩ = some (.int .u64 a0_1) ∧ w'.cell? ⟨gb366, 2, none⟩ = some (.int .u64 a0_2) ∧ w'.cell? ⟨gb366, 3, none⟩ = some (.int .i64 a0_3) ∧ w'.cell? ⟨gb367, 0, none⟩ = some (.bool a1_0) ∧ w'.cell? ⟨gb367, 1, none⟩ = some (.int .u64 a1_1) ∧ w'.cell? ⟨gb367, 2, none⟩ = some (.int .u64 a1_2) ∧ w'.cell? ⟨gb367, 3, none⟩ = some (.int .i64 a1_3)) ∧ (w'.heap[gb366]? = some (.cells #[.bool a0_0, .int .u64 a0_1, .int .u64 a0_2, .int .i64 a0_3] 38 (0, 0))) ∧ (w'.heap[gb367]? = some (.cells #[.bool a1_0, .int .u64 a1_1, .int .u64 a1_2, .int .i64 a1_3] 38 (0, 0))) ∧ (w'.heap[gb368]? = some (.cells #[.bool false, .int .u64 0, .int .u64 0, .int .i64 0] 38 (0, 0))) ∧ (Below w.heap.size w w')) ?_ ?_
         rotate_left
         ·
          intro hJ6_13
          refine join_ (σ := Nat) 4 (bm_ 18 73727) (fun s_ => [(31, .agg #[.int .u64 t371, .int .u64 t372]), (6, .pointer (some ⟨s_, 0, none⟩))]) (fun s_ w' => (w'.cell? ⟨gb366, 0, none⟩ = some (.bool a0_0) ∧ w'.cell? ⟨gb366, 1, none⟩ = some (.int .u64 a0_1) ∧ w'.cell? ⟨gb366, 2, none⟩ = some (.int .u64 a0_2) ∧ w'.cell? ⟨gb366, 3, none⟩ = some (.int .i64 a0_3) ∧ w'.cell? ⟨gb367, 0, none⟩ = some (.bool a1_0) ∧ w'.cell? ⟨gb367, 1, none⟩ = some (.int .u64 a1_1) ∧ w'.cell? ⟨gb367, 2, none⟩ = some (.int .u64 a1_2) ∧ w'.cell? ⟨gb367, 3, none⟩ = some (.int .i64 a1_3)) ∧ (w'.heap[gb366]? = some (.cells #[.bool a0_0, .int .u64 a0_1, .int .u64 a0_2, .int .i64 a0_3] 38 (0, 0))) ∧ (w'.heap[gb367]? = some (.cells #[.bool a1_0, .int .u64 a1_1, .int .u64 a1_2, .int .i64 a1_3] 38 (0, 0))) ∧ (w'.heap[gb368]? = some (.cells #[.bool false, .int .u64 0, .int .u64 0, .int .i64 0] 38 (0, 0))) ∧ (w'.heap[s_]? = some (.cells #[.int .u64 0, .int .u64 0] 24 (0, 0))) ∧ (w.heap.size ≤ s_) ∧ (w.heap.size ≤ s_) ∧ (gb366 ≠ s_) ∧ (s_ ≠ gb366) ∧ (gb367 ≠ s_) ∧ (s_ ≠ gb367) ∧ (gb368 ≠ s_) ∧ (s_ ≠ gb368) ∧ (Below w.heap.size w w')) ?_ ?_
          rotate_left
          ·
           intro hJ6_16
           refine join_ (σ := Unit) 5 (bm_ 18 8191) (fun s_ => [(31, .agg #[.int .u64 t371, .int .u64 t372])]) (fun s_ w' => (w'.cell? ⟨gb366, 0, none⟩ = some (.bool a0_0) ∧ w'.cell? ⟨gb366, 1, none⟩ = some (.int .u64 a0_1) ∧ w'.cell? ⟨gb366, 2, none⟩ = some (.int .u64 a0_2) ∧ w'.cell? ⟨gb366, 3, none⟩ = some (.int .i64 a0_3) ∧ w'.cell? ⟨gb367, 0, none⟩ = some (.bool a1_0) ∧ w'.cell? ⟨gb367, 1, none⟩ = some (.int .u64 a1_1) ∧ w'.cell? ⟨gb367, 2, none⟩ = some (.int .u64 a1_2) ∧ w'.cell? ⟨gb367, 3, none⟩ = some (.int .i64 a1_3)) ∧ (w'.heap[gb366]? = some (.cells #[.bool a0_0, .int .u64 a0_1, .int .u64 a0_2, .int .i64 a0_3] 38 (0, 0))) ∧ (w'.heap[gb367]? = some (.cells #[.bool a1_0, .int .u64 a1_1, .int .u64 a1_2, .int .i64 a1_3] 38 (0, 0))) ∧ (w'.heap[gb368]? = some (.cells #[.bool false, .int .u64 0, .int .u64 0, .int .i64 0] 38 (0, 0))) ∧ (Below w.heap.size w w')) ?_ ?_
           rotate_left
           ·
            intro hJ6
            refine join_ (σ := Nat) 5 (bm_ 18 73663) (fun s_ => [(6, .pointer (some ⟨s_, 0, none⟩))]) (fun s_ w' => (w'.cell? ⟨gb366, 0, none⟩ = some (.bool a0_0) ∧ w'.cell? ⟨gb366, 1, none⟩ = some (.int .u64 a0_1) ∧ w'.cell? ⟨gb366, 2, none⟩ = some (.int .u64 a0_2) ∧ w'.cell? ⟨gb366, 3, none⟩ = some (.int .i64 a0_3) ∧ w'.cell? ⟨gb367, 0, none⟩ = some (.bool a1_0) ∧ w'.cell? ⟨gb367, 1, none⟩ = some (.int .u64 a1_1) ∧ w'.cell? ⟨gb367, 2, none⟩ = some (.int .u64 a1_2) ∧ w'.cell? ⟨gb367, 3, none⟩ = some (.int .i64 a1_3)) ∧ (w'.heap[gb366]? = some (.cells #[.bool a0_0, .int .u64 a0_1, .int .u64 a0_2, .int .i64 a0_3] 38 (0, 0))) ∧ (w'.heap[gb367]? = some (.cells #[.bool a1_0, .int .u64 a1_1, .int .u64 a1_2, .int .i64 a1_3] 38 (0, 0))) ∧ (w'.heap[gb368]? = some (.cells #[.bool false, .int .u64 0, .int .u64 0, .int .i64 0] 38 (0, 0))) ∧ (w'.heap[s_]? = some (.cells #[.int .u64 0, .int .u64 0] 24 (0, 0))) ∧ (w.heap.size ≤ s_) ∧ (w.heap.size ≤ s_) ∧ (gb366 ≠ s_) ∧ (s_ ≠ gb366) ∧ (gb367 ≠ s_) ∧ (s_ ≠ gb367) ∧ (gb368 ≠ s_) ∧ (s_ ≠ gb368) ∧ (Below w.heap.size w w')) ?_ ?_
            rotate_left
            ·
             intro hJ16
             refine two_ (i := 6) (j := 16) (Ni := some 31) (Nj := some 6) (bm_ 18 8191) (bm_ 18 73663) rfl rfl rfl rfl (two_of HT_.out (by kernel_rfl)) (by decide) (by decide) (fun K hK => ?_) (fun K hK => ?_)
             ·
              skip
              refine gr_ Tryz.func80 #[.agg #[.int .u64 a0_1, .int .u64 a0_2], .agg #[.int .u64 a1_1, .int .u64 a1_2]] ?_
              with_reducible refine (num_Or.calls a0_1 a0_2 a1_1 a1_2 t371 t372 _ A35.out).mono ?_
              rintro e w45 ⟨rfl, hb⟩
              refine ⟨_, rfl, ?_⟩
              replace BK366 := bb_ BK366 hb
              replace BK367 := bb_ BK367 hb
              replace BK368 := bb_ BK368 hb
              replace HB := bs_ HB hb
              (try clear hb)
              (try clear hb2)
              (try clear hk)
              (try clear hi)
              refine hK.out _ _ ⟨kc_ BK366 0, kc_ BK366 1, kc_ BK366 2, kc_ BK366 3, kc_ BK367 0, kc_ BK367 1, kc_ BK367 2, kc_ BK367 3⟩ (fun hHeld => ?_)
              clear hK K
              refine norm_ (a' := ?_) ?_ ?_
              rotate_left
              ·
               show Act.put _ (some 31) _ = _
               simp only [Act.put, List.setIfInBounds_toArray, List.set_cons_zero, List.set_cons_succ, i64_w, i32_w]
               rfl
              exact norm_ (by first | (simp only [putAll, Act.put, List.setIfInBounds_toArray, List.set_cons_zero, List.set_cons_succ]; done) | (simp only [putAll, Act.put, List.setIfInBounds_toArray, List.set_cons_zero, List.set_cons_succ]; rfl)) (hJ6 () _ ⟨hHeld, (pk_ BK366), (pk_ BK367), (pk_ BK368), (pb_ HB)⟩)
             ·
              skip
              refine box_step ?hg (N := 6) ?hd (cs := #[.int .u64 0, .int .u64 0]) (t := 24) ?hr ?_; (case hd => rfl); (case hg => rfl); (case hr => first | (go_simp; done) | (go_simp; rfl))
              intro gb379 hg w45 hbox hb
              have BK379 := Aside0.mk (hbox)
              have GW379 := gw_ HB hg
              have GE379 := gw_ HB hg
              have NB366_379 := nl_ BK366 hg
              have NB379_366 := ng_ BK366 hg
              have NB367_379 := nl_ BK367 hg
              have NB379_367 := ng_ BK367 hg
              have NB368_379 := nl_ BK368 hg
              have NB379_368 := ng_ BK368 hg
              replace BK366 := bb_ BK366 hb
              replace BK367 := bb_ BK367 hb
              replace BK368 := bb_ BK368 hb
              replace HB := bs_ HB hb
              clear hb hbox hg
              refine hK.out _ _ ⟨kc_ BK366 0, kc_ BK366 1, kc_ BK366 2, kc_ BK366 3, kc_ BK367 0, kc_ BK367 1, kc_ BK367 2, kc_ BK367 3⟩ (fun hHeld => ?_)
              clear hK K
              refine norm_ (a' := ?_) ?_ ?_
              rotate_left
              ·
               show Act.put _ (some 6) _ = _
               simp only [Act.put, List.setIfInBounds_toArray, List.set_cons_zero, List.set_cons_succ, i64_w, i32_w]
               rfl
              exact norm_ (by first | (simp only [putAll, Act.put, List.setIfInBounds_toArray, List.set_cons_zero, List.set_cons_succ]; done) | (simp only [putAll, Act.put, List.setIfInBounds_toArray, List.set_cons_zero, List.set_cons_succ]; rfl)) (hJ16 (gb379) _ ⟨hHeld, (pk_ BK366), (pk_ BK367), (pk_ BK368), (pk_ BK379), GW379.out, GE379.out, NB366_379.out, NB379_366.out, NB367_379.out, NB379_367.out, NB368_379.out, NB379_368.out, (pb_ HB)⟩)
            ·
             skip
             rintro gb379 w46 ⟨hS_, h0_, h1_, h2_, h3_, h4_, h5_, h6_, h7_, h8_, h9_, h10_, h11_, h12_⟩
             have n0_ : Aside0 (w46.heap[gb366]? = some (.cells #[.bool a0_0, .int .u64 a0_1, .int .u64 a0_2, .int .i64 a0_3] 38 (0, 0))) := ⟨h0_⟩
             have n1_ : Aside0 (w46.heap[gb367]? = some (.cells #[.bool a1_0, .int .u64 a1_1, .int .u64 a1_2, .int .i64 a1_3] 38 (0, 0))) := ⟨h1_⟩
             have n2_ : Aside0 (w46.heap[gb368]? = some (.cells #[.bool false, .int .u64 0, .int .u64 0, .int .i64 0] 38 (0, 0))) := ⟨h2_⟩
             have n3_ : Aside0 (w46.heap[gb379]? = some (.cells #[.int .u64 0, .int .u64 0] 24 (0, 0))) := ⟨h3_⟩
             have n4_ : Aside0 (w.heap.size ≤ gb379) := ⟨h4_⟩
             have n5_ : Aside0 (w.heap.size ≤ gb379) := ⟨h5_⟩
             have n6_ : Aside0 (gb366 ≠ gb379) := ⟨h6_⟩
             have n7_ : Aside0 (gb379 ≠ gb366) := ⟨h7_⟩
             have n8_ : Aside0 (gb367 ≠ gb379) := ⟨h8_⟩
             have n9_ : Aside0 (gb379 ≠ gb367) := ⟨h9_⟩
             have n10_ : Aside0 (gb368 ≠ gb379) := ⟨h10_⟩
             have n11_ : Aside0 (gb379 ≠ gb368) := ⟨h11_⟩
             have n12_ : Aside0 (Below w.heap.size w w46) := ⟨h12_⟩
             clear BK366
             clear BK367
             clear BK368
             clear HB
             clear h0_ h1_ h2_ h3_ h4_ h5_ h6_ h7_ h8_ h9_ h10_ h11_ h12_
             have BK366 := n0_
             have BK367 := n1_
             have BK368 := n2_
             have BK379 := n3_
             have GW379 := n4_
             have GE379 := n5_
             have NB366_379 := n6_
             have NB379_366 := n7_
             have NB367_379 := n8_
             have NB379_367 := n9_
             have NB368_379 := n10_
             have NB379_368 := n11_
             have HB := n12_
             clear n0_ n1_ n2_ n3_ n4_ n5_ n6_ n7_ n8_ n9_ n10_ n11_ n12_
             have hHeld : w46.cell? ⟨gb366, 0, none⟩ = some (.bool a0_0) ∧ w46.cell? ⟨gb366, 1, none⟩ = some (.int .u64 a0_1) ∧ w46.cell? ⟨gb366, 2, none⟩ = some (.int .u64 a0_2) ∧ w46.cell? ⟨gb366, 3, none⟩ = some (.int .i64 a0_3) ∧ w46.cell? ⟨gb367, 0, none⟩ = some (.bool a1_0) ∧ w46.cell? ⟨gb367, 1, none⟩ = some (.int .u64 a1_1) ∧ w46.cell? ⟨gb367, 2, none⟩ = some (.int .u64 a1_2) ∧ w46.cell? ⟨gb367, 3, none⟩ = some (.int .i64 a1_3) := hS_
             refine norm_ (a' := ?_) ?_ ?_
             rotate_left
             ·
              simp only [putAll, Act.put, List.setIfInBounds_toArray, List.set_cons_zero, List.set_cons_succ]
              rfl
             refine one_ (i := 6) (N := some 31) (bm_ 18 73727) rfl rfl (one_of HT_.out (by kernel_rfl)) (by decide) (fun K hK => ?_)
             refine gr_ Tryz.func80 #[.agg #[.int .u64 a0_1, .int .u64 a0_2], .agg #[.int .u64 a1_1, .int .u64 a1_2]] ?_
             with_reducible refine (num_Or.calls a0_1 a0_2 a1_1 a1_2 t371 t372 _ A35.out).mono ?_
             rintro e w47 ⟨rfl, hb⟩
             refine ⟨_, rfl, ?_⟩
             replace BK366 := bb_ BK366 hb
             replace BK367 := bb_ BK367 hb
             replace BK368 := bb_ BK368 hb
             replace BK379 := bb_ BK379 hb
             replace HB := bs_ HB hb
             (try clear hb)
             (try clear hb2)
             (try clear hk)
             (try clear hi)
             refine hK.out _ _ ⟨kc_ BK366 0, kc_ BK366 1, kc_ BK366 2, kc_ BK366 3, kc_ BK367 0, kc_ BK367 1, kc_ BK367 2, kc_ BK367 3⟩ (fun hHeld => ?_)
             clear hK K
             refine norm_ (a' := ?_) ?_ ?_
             rotate_left
             ·
              show Act.put _ (some 31) _ = _
              simp only [Act.put, List.setIfInBounds_toArray, List.set_cons_zero, List.set_cons_succ, i64_w, i32_w]
              rfl
             exact norm_ (by first | (simp only [putAll, Act.put, List.setIfInBounds_toArray, List.set_cons_zero, List.set_cons_succ]; done) | (simp only [putAll, Act.put, List.setIfInBounds_toArray, List.set_cons_zero, List.set_cons_succ]; rfl)) (hJ6_16 (gb379) _ ⟨hHeld, (pk_ BK366), (pk_ BK367), (pk_ BK368), (pk_ BK379), GW379.out, GE379.out, NB366_379.out, NB379_366.out, NB367_379.out, NB379_367.out, NB368_379.out, NB379_368.out, (pb_ HB)⟩)
           ·
            skip
            rintro _ w46 ⟨hS_, h0_, h1_, h2_, h3_⟩
            have n0_ : Aside0 (w46.heap[gb366]? = some (.cells #[.bool a0_0, .int .u64 a0_1, .int .u64 a0_2, .int .i64 a0_3] 38 (0, 0))) := ⟨h0_⟩
            have n1_ : Aside0 (w46.heap[gb367]? = some (.cells #[.bool a1_0, .int .u64 a1_1, .int .u64 a1_2, .int .i64 a1_3] 38 (0, 0))) := ⟨h1_⟩
            have n2_ : Aside0 (w46.heap[gb368]? = some (.cells #[.bool false, .int .u64 0, .int .u64 0, .int .i64 0] 38 (0, 0))) := ⟨h2_⟩
            have n3_ : Aside0 (Below w.heap.size w w46) := ⟨h3_⟩
            clear BK366
            clear BK367
            clear BK368
            clear HB
            clear h0_ h1_ h2_ h3_
            have BK366 := n0_
            have BK367 := n1_
            have BK368 := n2_
            have HB := n3_
            clear n0_ n1_ n2_ n3_
            have hHeld : w46.cell? ⟨gb366, 0, none⟩ = some (.bool a0_0) ∧ w46.cell? ⟨gb366, 1, none⟩ = some (.int .u64 a0_1) ∧ w46.cell? ⟨gb366, 2, none⟩ = some (.int .u64 a0_2) ∧ w46.cell? ⟨gb366, 3, none⟩ = some (.int .i64 a0_3) ∧ w46.cell? ⟨gb367, 0, none⟩ = some (.bool a1_0) ∧ w46.cell? ⟨gb367, 1, none⟩ = some (.int .u64 a1_1) ∧ w46.cell? ⟨gb367, 2, none⟩ = some (.int .u64 a1_2) ∧ w46.cell? ⟨gb367, 3, none⟩ = some (.int .i64 a1_3) := hS_
            refine norm_ (a' := ?_) ?_ ?_
            rotate_left
            ·
             simp only [putAll, Act.put, List.setIfInBounds_toArray, List.set_cons_zero, List.set_cons_succ]
             rfl
            refine two_ (i := 13) (j := 16) (Ni := some 38) (Nj := some 6) (bm_ 18 16383) (bm_ 18 73727) rfl rfl rfl rfl (two_of HT_.out (by kernel_rfl)) (by decide) (by decide) (fun K hK => ?_) (fun K hK => ?_)
            ·
             skip
             refine gr_ Tryz.func79 #[.agg #[.int .u64 a0_1, .int .u64 a0_2], .agg #[.int .u64 a1_1, .int .u64 a1_2]] ?_
             with_reducible refine (num_And.calls a0_1 a0_2 a1_1 a1_2 t373 t374 _ A36.out).mono ?_
             rintro e w47 ⟨rfl, hb⟩
             refine ⟨_, rfl, ?_⟩
             replace BK366 := bb_ BK366 hb
             replace BK367 := bb_ BK367 hb
             replace BK368 := bb_ BK368 hb
             replace HB := bs_ HB hb
             (try clear hb)
             (try clear hb2)
             (try clear hk)
             (try clear hi)
             refine hK.out _ _ ⟨kc_ BK366 0, kc_ BK366 1, kc_ BK366 2, kc_ BK366 3, kc_ BK367 0, kc_ BK367 1, kc_ BK367 2, kc_ BK367 3⟩ (fun hHeld => ?_)
             clear hK K
             refine norm_ (a' := ?_) ?_ ?_
             rotate_left
             ·
              show Act.put _ (some 38) _ = _
              simp only [Act.put, List.setIfInBounds_toArray, List.set_cons_zero, List.set_cons_succ, i64_w, i32_w]
              rfl
             exact norm_ (by first | (simp only [putAll, Act.put, List.setIfInBounds_toArray, List.set_cons_zero, List.set_cons_succ]; done) | (simp only [putAll, Act.put, List.setIfInBounds_toArray, List.set_cons_zero, List.set_cons_succ]; rfl)) (hJ6_13 () _ ⟨hHeld, (pk_ BK366), (pk_ BK367), (pk_ BK368), (pb_ HB)⟩)
            ·
             skip
             refine box_step ?hg (N := 6) ?hd (cs := #[.int .u64 0, .int .u64 0]) (t := 24) ?hr ?_; (case hd => rfl); (case hg => rfl); (case hr => first | (go_simp; done) | (go_simp; rfl))
             intro gb379 hg w47 hbox hb
             have BK379 := Aside0.mk (hbox)
             have GW379 := gw_ HB hg
             have GE379 := gw_ HB hg
             have NB366_379 := nl_ BK366 hg
             have NB379_366 := ng_ BK366 hg
             have NB367_379 := nl_ BK367 hg
             have NB379_367 := ng_ BK367 hg
             have NB368_379 := nl_ BK368 hg
             have NB379_368 := ng_ BK368 hg
             replace BK366 := bb_ BK366 hb
             replace BK367 := bb_ BK367 hb
             replace BK368 := bb_ BK368 hb
             replace HB := bs_ HB hb
             clear hb hbox hg
             refine hK.out _ _ ⟨kc_ BK366 0, kc_ BK366 1, kc_ BK366 2, kc_ BK366 3, kc_ BK367 0, kc_ BK367 1, kc_ BK367 2, kc_ BK367 3⟩ (fun hHeld => ?_)
             clear hK K
             refine norm_ (a' := ?_) ?_ ?_
             rotate_left
             ·
              show Act.put _ (some 6) _ = _
              simp only [Act.put, List.setIfInBounds_toArray, List.set_cons_zero, List.set_cons_succ, i64_w, i32_w]
              rfl
             exact norm_ (by first | (simp only [putAll, Act.put, List.setIfInBounds_toArray, List.set_cons_zero, List.set_cons_succ]; done) | (simp only [putAll, Act.put, List.setIfInBounds_toArray, List.set_cons_zero, List.set_cons_succ]; rfl)) (hJ6_16 (gb379) _ ⟨hHeld, (pk_ BK366), (pk_ BK367), (pk_ BK368), (pk_ BK379), GW379.out, GE379.out, NB366_379.out, NB379_366.out, NB367_379.out, NB379_367.out, NB368_379.out, NB379_368.out, (pb_ HB)⟩)
          ·
           skip
           rintro gb379 w47 ⟨hS_, h0_, h1_, h2_, h3_, h4_, h5_, h6_, h7_, h8_, h9_, h10_, h11_, h12_⟩
           have n0_ : Aside0 (w47.heap[gb366]? = some (.cells #[.bool a0_0, .int .u64 a0_1, .int .u64 a0_2, .int .i64 a0_3] 38 (0, 0))) := ⟨h0_⟩
           have n1_ : Aside0 (w47.heap[gb367]? = some (.cells #[.bool a1_0, .int .u64 a1_1, .int .u64 a1_2, .int .i64 a1_3] 38 (0, 0))) := ⟨h1_⟩
           have n2_ : Aside0 (w47.heap[gb368]? = some (.cells #[.bool false, .int .u64 0, .int .u64 0, .int .i64 0] 38 (0, 0))) := ⟨h2_⟩
           have n3_ : Aside0 (w47.heap[gb379]? = some (.cells #[.int .u64 0, .int .u64 0] 24 (0, 0))) := ⟨h3_⟩
           have n4_ : Aside0 (w.heap.size ≤ gb379) := ⟨h4_⟩
           have n5_ : Aside0 (w.heap.size ≤ gb379) := ⟨h5_⟩
           have n6_ : Aside0 (gb366 ≠ gb379) := ⟨h6_⟩
           have n7_ : Aside0 (gb379 ≠ gb366) := ⟨h7_⟩
           have n8_ : Aside0 (gb367 ≠ gb379) := ⟨h8_⟩
           have n9_ : Aside0 (gb379 ≠ gb367) := ⟨h9_⟩
           have n10_ : Aside0 (gb368 ≠ gb379) := ⟨h10_⟩
           have n11_ : Aside0 (gb379 ≠ gb368) := ⟨h11_⟩
           have n12_ : Aside0 (Below w.heap.size w w47) := ⟨h12_⟩
           clear BK366
           clear BK367
           clear BK368
           clear HB
           clear h0_ h1_ h2_ h3_ h4_ h5_ h6_ h7_ h8_ h9_ h10_ h11_ h12_
           have BK366 := n0_
           have BK367 := n1_
           have BK368 := n2_
           have BK379 := n3_
           have GW379 := n4_
           have GE379 := n5_
           have NB366_379 := n6_
           have NB379_366 := n7_
           have NB367_379 := n8_
           have NB379_367 := n9_
           have NB368_379 := n10_
           have NB379_368 := n11_
           have HB := n12_
           clear n0_ n1_ n2_ n3_ n4_ n5_ n6_ n7_ n8_ n9_ n10_ n11_ n12_
           have hHeld : w47.cell? ⟨gb366, 0, none⟩ = some (.bool a0_0) ∧ w47.cell? ⟨gb366, 1, none⟩ = some (.int .u64 a0_1) ∧ w47.cell? ⟨gb366, 2, none⟩ = some (.int .u64 a0_2) ∧ w47.cell? ⟨gb366, 3, none⟩ = some (.int .i64 a0_3) ∧ w47.cell? ⟨gb367, 0, none⟩ = some (.bool a1_0) ∧ w47.cell? ⟨gb367, 1, none⟩ = some (.int .u64 a1_1) ∧ w47.cell? ⟨gb367, 2, none⟩ = some (.int .u64 a1_2) ∧ w47.cell? ⟨gb367, 3, none⟩ = some (.int .i64 a1_3) := hS_
           refine norm_ (a' := ?_) ?_ ?_
           rotate_left
           ·
            simp only [putAll, Act.put, List.setIfInBounds_toArray, List.set_cons_zero, List.set_cons_succ]
            rfl
           refine one_ (i := 13) (N := some 38) (bm_ 18 81919) rfl rfl (one_of HT_.out (by kernel_rfl)) (by decide) (fun K hK => ?_)
           refine gr_ Tryz.func79 #[.agg #[.int .u64 a0_1, .int .u64 a0_2], .agg #[.int .u64 a1_1, .int .u64 a1_2]] ?_
           with_reducible refine (num_And.calls a0_1 a0_2 a1_1 a1_2 t373 t374 _ A36.out).mono ?_
           rintro e w48 ⟨rfl, hb⟩
           refine ⟨_, rfl, ?_⟩
           replace BK366 := bb_ BK366 hb
           replace BK367 := bb_ BK367 hb
           replace BK368 := bb_ BK368 hb
           replace BK379 := bb_ BK379 hb
           replace HB := bs_ HB hb
           (try clear hb)
           (try clear hb2)
           (try clear hk)
           (try clear hi)
           refine hK.out _ _ ⟨kc_ BK366 0, kc_ BK366 1, kc_ BK366 2, kc_ BK366 3, kc_ BK367 0, kc_ BK367 1, kc_ BK367 2, kc_ BK367 3⟩ (fun hHeld => ?_)
           clear hK K
           refine norm_ (a' := ?_) ?_ ?_
           rotate_left
           ·
            show Act.put _ (some 38) _ = _
            simp only [Act.put, List.setIfInBounds_toArray, List.set_cons_zero, List.set_cons_succ, i64_w, i32_w]
            rfl
           exact norm_ (by first | (simp only [putAll, Act.put, List.setIfInBounds_toArray, List.set_cons_zero, List.set_cons_succ]; done) | (simp only [putAll, Act.put, List.setIfInBounds_toArray, List.set_cons_zero, List.set_cons_succ]; rfl)) (hJ6_13_16 (gb379) _ ⟨hHeld, (pk_ BK366), (pk_ BK367), (pk_ BK368), (pk_ BK379), GW379.out, GE379.out, NB366_379.out, NB379_366.out, NB367_379.out, NB379_367.out, NB368_379.out, NB379_368.out, (pb_ HB)⟩)
         ·
          skip
          rintro _ w47 ⟨hS_, h0_, h1_, h2_, h3_⟩
          have n0_ : Aside0 (w47.heap[gb366]? = some (.cells #[.bool a0_0, .int .u64 a0_1, .int .u64 a0_2, .int .i64 a0_3] 38 (0, 0))) := ⟨h0_⟩
          have n1_ : Aside0 (w47.heap[gb367]? = some (.cells #[.bool a1_0, .int .u64 a1_1, .int .u64 a1_2, .int .i64 a1_3] 38 (0, 0))) := ⟨h1_⟩
          have n2_ : Aside0 (w47.heap[gb368]? = some (.cells #[.bool false, .int .u64 0, .int .u64 0, .int .i64 0] 38 (0, 0))) := ⟨h2_⟩
          have n3_ : Aside0 (Below w.heap.size w w47) := ⟨h3_⟩
          clear BK366
          clear BK367
          clear BK368
          clear HB
          clear h0_ h1_ h2_ h3_
          have BK366 := n0_
          have BK367 := n1_
          have BK368 := n2_
          have HB := n3_
          clear n0_ n1_ n2_ n3_
          have hHeld : w47.cell? ⟨gb366, 0, none⟩ = some (.bool a0_0) ∧ w47.cell? ⟨gb366, 1, none⟩ = some (.int .u64 a0_1) ∧ w47.cell? ⟨gb366, 2, none⟩ = some (.int .u64 a0_2) ∧ w47.cell? ⟨gb366, 3, none⟩ = some (.int .i64 a0_3) ∧ w47.cell? ⟨gb367, 0, none⟩ = some (.bool a1_0) ∧ w47.cell? ⟨gb367, 1, none⟩ = some (.int .u64 a1_1) ∧ w47.cell? ⟨gb367, 2, none⟩ = some (.int .u64 a1_2) ∧ w47.cell? ⟨gb367, 3, none⟩ = some (.int .i64 a1_3) := hS_
          refine norm_ (a' := ?_) ?_ ?_
          rotate_left
          ·
           simp only [putAll, Act.put, List.setIfInBounds_toArray, List.set_cons_zero, List.set_cons_succ]
           rfl
          refine two_ (i := 14) (j := 16) (Ni := some 39) (Nj := some 6) (bm_ 18 32767) (bm_ 18 81919) rfl rfl rfl rfl (two_of HT_.out (by kernel_rfl)) (by decide) (by decide) (fun K hK => ?_) (fun K hK => ?_)
          ·
           skip
           refine gr_ Tryz.func81 #[.agg #[.int .u64 t373, .int .u64 t374]] ?_
           with_reducible refine (num_Not.calls t373 t374 t375 t376 _ A37.out).mono ?_
           rintro e w48 ⟨rfl, hb⟩
           refine ⟨_, rfl, ?_⟩
           replace BK366 := bb_ BK366 hb
           replace BK367 := bb_ BK367 hb
           replace BK368 := bb_ BK368 hb
           replace HB := bs_ HB hb
           (try clear hb)
           (try clear hb2)
           (try clear hk)
           (try clear hi)
           refine hK.out _ _ ⟨kc_ BK366 0, kc_ BK366 1, kc_ BK366 2, kc_ BK366 3, kc_ BK367 0, kc_ BK367 1, kc_ BK367 2, kc_ BK367 3⟩ (fun hHeld => ?_)
           clear hK K
           refine norm_ (a' := ?_) ?_ ?_
           rotate_left
           ·
            show Act.put _ (some 39) _ = _
            simp only [Act.put, List.setIfInBounds_toArray, List.set_cons_zero, List.set_cons_succ, i64_w, i32_w]
            rfl
           exact norm_ (by first | (simp only [putAll, Act.put, List.setIfInBounds_toArray, List.set_cons_zero, List.set_cons_succ]; done) | (simp only [putAll, Act.put, List.setIfInBounds_toArray, List.set_cons_zero, List.set_cons_succ]; rfl)) (hJ6_13_14 () _ ⟨hHeld, (pk_ BK366), (pk_ BK367), (pk_ BK368), (pb_ HB)⟩)
          ·
           skip
           refine box_step ?hg (N := 6) ?hd (cs := #[.int .u64 0, .int .u64 0]) (t := 24) ?hr ?_; (case hd => rfl); (case hg => rfl); (case hr => first | (go_simp; done) | (go_simp; rfl))
           intro gb379 hg w48 hbox hb
           have BK379 := Aside0.mk (hbox)
           have GW379 := gw_ HB hg
           have GE379 := gw_ HB hg
           have NB366_379 := nl_ BK366 hg
           have NB379_366 := ng_ BK366 hg
           have NB367_379 := nl_ BK367 hg
           have NB379_367 := ng_ BK367 hg
           have NB368_379 := nl_ BK368 hg
           have NB379_368 := ng_ BK368 hg
           replace BK366 := bb_ BK366 hb
           replace BK367 := bb_ BK367 hb
           replace BK368 := bb_ BK368 hb
           replace HB := bs_ HB hb
           clear hb hbox hg
           refine hK.out _ _ ⟨kc_ BK366 0, kc_ BK366 1, kc_ BK366 2, kc_ BK366 3, kc_ BK367 0, kc_ BK367 1, kc_ BK367 2, kc_ BK367 3⟩ (fun hHeld => ?_)
           clear hK K
           refine norm_ (a' := ?_) ?_ ?_
           rotate_left
           ·
            show Act.put _ (some 6) _ = _
            simp only [Act.put, List.setIfInBounds_toArray, List.set_cons_zero, List.set_cons_succ, i64_w, i32_w]
            rfl
           exact norm_ (by first | (simp only [putAll, Act.put, List.setIfInBounds_toArray, List.set_cons_zero, List.set_cons_succ]; done) | (simp only [putAll, Act.put, List.setIfInBounds_toArray, List.set_cons_zero, List.set_cons_succ]; rfl)) (hJ6_13_16 (gb379) _ ⟨hHeld, (pk_ BK366), (pk_ BK367), (pk_ BK368), (pk_ BK379), GW379.out, GE379.out, NB366_379.out, NB379_366.out, NB367_379.out, NB379_367.out, NB368_379.out, NB379_368.out, (pb_ HB)⟩)
        ·
         skip
         rintro gb379 w48 ⟨hS_, h0_, h1_, h2_, h3_, h4_, h5_, h6_, h7_, h8_, h9_, h10_, h11_, h12_⟩
         have n0_ : Aside0 (w48.heap[gb366]? = some (.cells #[.bool a0_0, .int .u64 a0_1, .int .u64 a0_2, .int .i64 a0_3] 38 (0, 0))) := ⟨h0_⟩
         have n1_ : Aside0 (w48.heap[gb367]? = some (.cells #[.bool a1_0, .int .u64 a1_1, .int .u64 a1_2, .int .i64 a1_3] 38 (0, 0))) := ⟨h1_⟩
         have n2_ : Aside0 (w48.heap[gb368]? = some (.cells #[.bool false, .int .u64 0, .int .u64 0, .int .i64 0] 38 (0, 0))) := ⟨h2_⟩
         have n3_ : Aside0 (w48.heap[gb379]? = some (.cells #[.int .u64 0, .int .u64 0] 24 (0, 0))) := ⟨h3_⟩
         have n4_ : Aside0 (w.heap.size ≤ gb379) := ⟨h4_⟩
         have n5_ : Aside0 (w.heap.size ≤ gb379) := ⟨h5_⟩
         have n6_ : Aside0 (gb366 ≠ gb379) := ⟨h6_⟩
         have n7_ : Aside0 (gb379 ≠ gb366) := ⟨h7_⟩
         have n8_ : Aside0 (gb367 ≠ gb379) := ⟨h8_⟩
         have n9_ : Aside0 (gb379 ≠ gb367) := ⟨h9_⟩
         have n10_ : Aside0 (gb368 ≠ gb379) := ⟨h10_⟩
         have n11_ : Aside0 (gb379 ≠ gb368) := ⟨h11_⟩
         have n12_ : Aside0 (Below w.heap.size w w48) := ⟨h12_⟩
         clear BK366
         clear BK367
         clear BK368
         clear HB
         clear h0_ h1_ h2_ h3_ h4_ h5_ h6_ h7_ h8_ h9_ h10_ h11_ h12_
         have BK366 := n0_
         have BK367 := n1_
         have BK368 := n2_
         have BK379 := n3_
         have GW379 := n4_
         have GE379 := n5_
         have NB366_379 := n6_
         have NB379_366 := n7_
         have NB367_379 := n8_
         have NB379_367 := n9_
         have NB368_379 := n10_
         have NB379_368 := n11_
         have HB := n12_
         clear n0_ n1_ n2_ n3_ n4_ n5_ n6_ n7_ n8_ n9_ n10_ n11_ n12_
         have hHeld : w48.cell? ⟨gb366, 0, none⟩ = some (.bool a0_0) ∧ w48.cell? ⟨gb366, 1, none⟩ = some (.int .u64 a0_1) ∧ w48.cell? ⟨gb366, 2, none⟩ = some (.int .u64 a0_2) ∧ w48.cell? ⟨gb366, 3, none⟩ = some (.int .i64 a0_3) ∧ w48.cell? ⟨gb367, 0, none⟩ = some (.bool a1_0) ∧ w48.cell? ⟨gb367, 1, none⟩ = some (.int .u64 a1_1) ∧ w48.cell? ⟨gb367, 2, none⟩ = some (.int .u64 a1_2) ∧ w48.cell? ⟨gb367, 3, none⟩ = some (.int .i64 a1_3) := hS_
         refine norm_ (a' := ?_) ?_ ?_
         rotate_left
         ·
          simp only [putAll, Act.put, List.setIfInBounds_toArray, List.set_cons_zero, List.set_cons_succ]
          rfl
         refine one_ (i := 14) (N := some 39) (bm_ 18 98303) rfl rfl (one_of HT_.out (by kernel_rfl)) (by decide) (fun K hK => ?_)
         refine gr_ Tryz.func81 #[.agg #[.int .u64 t373, .int .u64 t374]] ?_
         with_reducible refine (num_Not.calls t373 t374 t375 t376 _ A37.out).mono ?_
         rintro e w49 ⟨rfl, hb⟩
         refine ⟨_, rfl, ?_⟩
         replace BK366 := bb_ BK366 hb
         replace BK367 := bb_ BK367 hb
         replace BK368 := bb_ BK368 hb
         replace BK379 := bb_ BK379 hb
         replace HB := bs_ HB hb
         (try clear hb)
         (try clear hb2)
         (try clear hk)
         (try clear hi)
         refine hK.out _ _ ⟨kc_ BK366 0, kc_ BK366 1, kc_ BK366 2, kc_ BK366 3, kc_ BK367 0, kc_ BK367 1, kc_ BK367 2, kc_ BK367 3⟩ (fun hHeld => ?_)
         clear hK K
         refine norm_ (a' := ?_) ?_ ?_
         rotate_left
         ·
          show Act.put _ (some 39) _ = _
          simp only [Act.put, List.setIfInBounds_toArray, List.set_cons_zero, List.set_cons_succ, i64_w, i32_w]
          rfl
         exact norm_ (by first | (simp only [putAll, Act.put, List.setIfInBounds_toArray, List.set_cons_zero, List.set_cons_succ]; done) | (simp only [putAll, Act.put, List.setIfInBounds_toArray, List.set_cons_zero, List.set_cons_succ]; rfl)) (hJ6_13_14_16 (gb379) _ ⟨hHeld, (pk_ BK366), (pk_ BK367), (pk_ BK368), (pk_ BK379), GW379.out, GE379.out, NB366_379.out, NB379_366.out, NB367_379.out, NB379_367.out, NB368_379.out, NB379_368.out, (pb_ HB)⟩)
       ·
        skip
        rintro _ w48 ⟨hS_, h0_, h1_, h2_, h3_⟩
        have n0_ : Aside0 (w48.heap[gb366]? = some (.cells #[.bool a0_0, .int .u64 a0_1, .int .u64 a0_2, .int .i64 a0_3] 38 (0, 0))) := ⟨h0_⟩
        have n1_ : Aside0 (w48.heap[gb367]? = some (.cells #[.bool a1_0, .int .u64 a1_1, .int .u64 a1_2, .int .i64 a1_3] 38 (0, 0))) := ⟨h1_⟩
        have n2_ : Aside0 (w48.heap[gb368]? = some (.cells #[.bool false, .int .u64 0, .int .u64 0, .int .i64 0] 38 (0, 0))) := ⟨h2_⟩
        have n3_ : Aside0 (Below w.heap.size w w48) := ⟨h3_⟩
        clear BK366
        clear BK367
        clear BK368
        clear HB
        clear h0_ h1_ h2_ h3_
        have BK366 := n0_
        have BK367 := n1_
        have BK368 := n2_
        have HB := n3_
        clear n0_ n1_ n2_ n3_
        have hHeld : w48.cell? ⟨gb366, 0, none⟩ = some (.bool a0_0) ∧ w48.cell? ⟨gb366, 1, none⟩ = some (.int .u64 a0_1) ∧ w48.cell? ⟨gb366, 2, none⟩ = some (.int .u64 a0_2) ∧ w48.cell? ⟨gb366, 3, none⟩ = some (.int .i64 a0_3) ∧ w48.cell? ⟨gb367, 0, none⟩ = some (.bool a1_0) ∧ w48.cell? ⟨gb367, 1, none⟩ = some (.int .u64 a1_1) ∧ w48.cell? ⟨gb367, 2, none⟩ = some (.int .u64 a1_2) ∧ w48.cell? ⟨gb367, 3, none⟩ = some (.int .i64 a1_3) := hS_
        refine norm_ (a' := ?_) ?_ ?_
        rotate_left
        ·
         simp only [putAll, Act.put, List.setIfInBounds_toArray, List.set_cons_zero, List.set_cons_succ]
         rfl
        refine two_ (i := 15) (j := 16) (Ni := some 40) (Nj := some 6) (bm_ 18 65535) (bm_ 18 98303) rfl rfl rfl rfl (two_of HT_.out (by kernel_rfl)) (by decide) (by decide) (fun K hK => ?_) (fun K hK => ?_)
        ·
         skip
         refine gr_ Tryz.func79 #[.agg #[.int .u64 t371, .int .u64 t372], .agg #[.int .u64 t375, .int .u64 t376]] ?_
         with_reducible refine (num_And.calls t371 t372 t375 t376 t377 t378 _ A38.out).mono ?_
         rintro e w49 ⟨rfl, hb⟩
         refine ⟨_, rfl, ?_⟩
         replace BK366 := bb_ BK366 hb
         replace BK367 := bb_ BK367 hb
         replace BK368 := bb_ BK368 hb
         replace HB := bs_ HB hb
         (try clear hb)
         (try clear hb2)
         (try clear hk)
         (try clear hi)
         refine hK.out _ _ ⟨kc_ BK366 0, kc_ BK366 1, kc_ BK366 2, kc_ BK366 3, kc_ BK367 0, kc_ BK367 1, kc_ BK367 2, kc_ BK367 3⟩ (fun hHeld => ?_)
         clear hK K
         refine norm_ (a' := ?_) ?_ ?_
         rotate_left
         ·
          show Act.put _ (some 40) _ = _
          simp only [Act.put, List.setIfInBounds_toArray, List.set_cons_zero, List.set_cons_succ, i64_w, i32_w]
          rfl
         exact norm_ (by first | (simp only [putAll, Act.put, List.setIfInBounds_toArray, List.set_cons_zero, List.set_cons_succ]; done) | (simp only [putAll, Act.put, List.setIfInBounds_toArray, List.set_cons_zero, List.set_cons_succ]; rfl)) (hJ6_13_14_15 () _ ⟨hHeld, (pk_ BK366), (pk_ BK367), (pk_ BK368), (pb_ HB)⟩)
        ·
         skip
         refine box_step ?hg (N := 6) ?hd (cs := #[.int .u64 0, .int .u64 0]) (t := 24) ?hr ?_; (case hd => rfl); (case hg => rfl); (case hr => first | (go_simp; done) | (go_simp; rfl))
         intro gb379 hg w49 hbox hb
         have BK379 := Aside0.mk (hbox)
         have GW379 := gw_ HB hg
         have GE379 := gw_ HB hg
         have NB366_379 := nl_ BK366 hg
         have NB379_366 := ng_ BK366 hg
         have NB367_379 := nl_ BK367 hg
         have NB379_367 := ng_ BK367 hg
         have NB368_379 := nl_ BK368 hg
         have NB379_368 := ng_ BK368 hg
         replace BK366 := bb_ BK366 hb
         replace BK367 := bb_ BK367 hb
         replace BK368 := bb_ BK368 hb
         replace HB := bs_ HB hb
         clear hb hbox hg
         refine hK.out _ _ ⟨kc_ BK366 0, kc_ BK366 1, kc_ BK366 2, kc_ BK366 3, kc_ BK367 0, kc_ BK367 1, kc_ BK367 2, kc_ BK367 3⟩ (fun hHeld => ?_)
         clear hK K
         refine norm_ (a' := ?_) ?_ ?_
         rotate_left
         ·
          show Act.put _ (some 6) _ = _
          simp only [Act.put, List.setIfInBounds_toArray, List.set_cons_zero, List.set_cons_succ, i64_w, i32_w]
          rfl
         exact norm_ (by first | (simp only [putAll, Act.put, List.setIfInBounds_toArray, List.set_cons_zero, List.set_cons_succ]; done) | (simp only [putAll, Act.put, List.setIfInBounds_toArray, List.set_cons_zero, List.set_cons_succ]; rfl)) (hJ6_13_14_16 (gb379) _ ⟨hHeld, (pk_ BK366), (pk_ BK367), (pk_ BK368), (pk_ BK379), GW379.out, GE379.out, NB366_379.out, NB379_366.out, NB367_379.out, NB379_367.out, NB368_379.out, NB379_368.out, (pb_ HB)⟩)
      ·
       skip
       rintro gb379 w49 ⟨hS_, h0_, h1_, h2_, h3_, h4_, h5_, h6_, h7_, h8_, h9_, h10_, h11_, h12_⟩
       have n0_ : Aside0 (w49.heap[gb366]? = some (.cells #[.bool a0_0, .int .u64 a0_1, .int .u64 a0_2, .int .i64 a0_3] 38 (0, 0))) := ⟨h0_⟩
       have n1_ : Aside0 (w49.heap[gb367]? = some (.cells #[.bool a1_0, .int .u64 a1_1, .int .u64 a1_2, .int .i64 a1_3] 38 (0, 0))) := ⟨h1_⟩
       have n2_ : Aside0 (w49.heap[gb368]? = some (.cells #[.bool false, .int .u64 0, .int .u64 0, .int .i64 0] 38 (0, 0))) := ⟨h2_⟩
       have n3_ : Aside0 (w49.heap[gb379]? = some (.cells #[.int .u64 0, .int .u64 0] 24 (0, 0))) := ⟨h3_⟩
       have n4_ : Aside0 (w.heap.size ≤ gb379) := ⟨h4_⟩
       have n5_ : Aside0 (w.heap.size ≤ gb379) := ⟨h5_⟩
       have n6_ : Aside0 (gb366 ≠ gb379) := ⟨h6_⟩
       have n7_ : Aside0 (gb379 ≠ gb366) := ⟨h7_⟩
       have n8_ : Aside0 (gb367 ≠ gb379) := ⟨h8_⟩
       have n9_ : Aside0 (gb379 ≠ gb367) := ⟨h9_⟩
       have n10_ : Aside0 (gb368 ≠ gb379) := ⟨h10_⟩
       have n11_ : Aside0 (gb379 ≠ gb368) := ⟨h11_⟩
       have n12_ : Aside0 (Below w.heap.size w w49) := ⟨h12_⟩
       clear BK366
       clear BK367
       clear BK368
       clear HB
       clear h0_ h1_ h2_ h3_ h4_ h5_ h6_ h7_ h8_ h9_ h10_ h11_ h12_
       have BK366 := n0_
       have BK367 := n1_
       have BK368 := n2_
       have BK379 := n3_
       have GW379 := n4_
       have GE379 := n5_
       have NB366_379 := n6_
       have NB379_366 := n7_
       have NB367_379 := n8_
       have NB379_367 := n9_
       have NB368_379 := n10_
       have NB379_368 := n11_
       have HB := n12_
       clear n0_ n1_ n2_ n3_ n4_ n5_ n6_ n7_ n8_ n9_ n10_ n11_ n12_
       have hHeld : w49.cell? ⟨gb366, 0, none⟩ = some (.bool a0_0) ∧ w49.cell? ⟨gb366, 1, none⟩ = some (.int .u64 a0_1) ∧ w49.cell? ⟨gb366, 2, none⟩ = some (.int .u64 a0_2) ∧ w49.cell? ⟨gb366, 3, none⟩ = some (.int .i64 a0_3) ∧ w49.cell? ⟨gb367, 0, none⟩ = some (.bool a1_0) ∧ w49.cell? ⟨gb367, 1, none⟩ = some (.int .u64 a1_1) ∧ w49.cell? ⟨gb367, 2, none⟩ = some (.int .u64 a1_2) ∧ w49.cell? ⟨gb367, 3, none⟩ = some (.int .i64 a1_3) := hS_
       refine norm_ (a' := ?_) ?_ ?_
       rotate_left
       ·
        simp only [putAll, Act.put, List.setIfInBounds_toArray, List.set_cons_zero, List.set_cons_succ]
        rfl
       refine one_ (i := 15) (N := some 40) (bm_ 18 131071) rfl rfl (one_of HT_.out (by kernel_rfl)) (by decide) (fun K hK => ?_)
       refine gr_ Tryz.func79 #[.agg #[.int .u64 t371, .int .u64 t372], .agg #[.int .u64 t375, .int .u64 t376]] ?_
       with_reducible refine (num_And.calls t371 t372 t375 t376 t377 t378 _ A38.out).mono ?_
       rintro e w50 ⟨rfl, hb⟩
       refine ⟨_, rfl, ?_⟩
       replace BK366 := bb_ BK366 hb
       replace BK367 := bb_ BK367 hb
       replace BK368 := bb_ BK368 hb
       replace BK379 := bb_ BK379 hb
       replace HB := bs_ HB hb
       (try clear hb)
       (try clear hb2)
       (try clear hk)
       (try clear hi)
       refine hK.out _ _ ⟨kc_ BK366 0, kc_ BK366 1, kc_ BK366 2, kc_ BK366 3, kc_ BK367 0, kc_ BK367 1, kc_ BK367 2, kc_ BK367 3⟩ (fun hHeld => ?_)
       clear hK K
       refine norm_ (a' := ?_) ?_ ?_
       rotate_left
       ·
        show Act.put _ (some 40) _ = _
        simp only [Act.put, List.setIfInBounds_toArray, List.set_cons_zero, List.set_cons_succ, i64_w, i32_w]
        rfl
       exact norm_ (by first | (simp only [putAll, Act.put, List.setIfInBounds_toArray, List.set_cons_zero, List.set_cons_succ]; done) | (simp only [putAll, Act.put, List.setIfInBounds_toArray, List.set_cons_zero, List.set_cons_succ]; rfl)) (hJ6_13_14_15_16 (gb379) _ ⟨hHeld, (pk_ BK366), (pk_ BK367), (pk_ BK368), (pk_ BK379), GW379.out, GE379.out, NB366_379.out, NB379_366.out, NB367_379.out, NB379_367.out, NB368_379.out, NB379_368.out, (pb_ HB)⟩)
     ·
      skip
      rintro _ w49 ⟨hS_, h0_, h1_, h2_, h3_⟩
      have n0_ : Aside0 (w49.heap[gb366]? = some (.cells #[.bool a0_0, .int .u64 a0_1, .int .u64 a0_2, .int .i64 a0_3] 38 (0, 0))) := ⟨h0_⟩
      have n1_ : Aside0 (w49.heap[gb367]? = some (.cells #[.bool a1_0, .int .u64 a1_1, .int .u64 a1_2, .int .i64 a1_3] 38 (0, 0))) := ⟨h1_⟩
      have n2_ : Aside0 (w49.heap[gb368]? = some (.cells #[.bool false, .int .u64 0, .int .u64 0, .int .i64 0] 38 (0, 0))) := ⟨h2_⟩
      have n3_ : Aside0 (Below w.heap.size w w49) := ⟨h3_⟩
      clear BK366
      clear BK367
      clear BK368
      clear HB
      clear h0_ h1_ h2_ h3_
      have BK366 := n0_
      have BK367 := n1_
      have BK368 := n2_
      have HB := n3_
      clear n0_ n1_ n2_ n3_
      have hHeld : w49.cell? ⟨gb366, 0, none⟩ = some (.bool a0_0) ∧ w49.cell? ⟨gb366, 1, none⟩ = some (.int .u64 a0_1) ∧ w49.cell? ⟨gb366, 2, none⟩ = some (.int .u64 a0_2) ∧ w49.cell? ⟨gb366, 3, none⟩ = some (.int .i64 a0_3) ∧ w49.cell? ⟨gb367, 0, none⟩ = some (.bool a1_0) ∧ w49.cell? ⟨gb367, 1, none⟩ = some (.int .u64 a1_1) ∧ w49.cell? ⟨gb367, 2, none⟩ = some (.int .u64 a1_2) ∧ w49.cell? ⟨gb367, 3, none⟩ = some (.int .i64 a1_3) := hS_
      refine norm_ (a' := ?_) ?_ ?_
      rotate_left
      ·
       simp only [putAll, Act.put, List.setIfInBounds_toArray, List.set_cons_zero, List.set_cons_succ]
       rfl
      refine one_ (i := 16) (N := some 6) (bm_ 18 131071) rfl rfl (one_of HT_.out (by kernel_rfl)) (by decide) (fun K hK => ?_)
      refine box_step ?hg (N := 6) ?hd (cs := #[.int .u64 0, .int .u64 0]) (t := 24) ?hr ?_; (case hd => rfl); (case hg => rfl); (case hr => first | (go_simp; done) | (go_simp; rfl))
      intro gb379 hg w50 hbox hb
      have BK379 := Aside0.mk (hbox)
      have GW379 := gw_ HB hg
      have GE379 := gw_ HB hg
      have NB366_379 := nl_ BK366 hg
      have NB379_366 := ng_ BK366 hg
      have NB367_379 := nl_ BK367 hg
      have NB379_367 := ng_ BK367 hg
      have NB368_379 := nl_ BK368 hg
      have NB379_368 := ng_ BK368 hg
      replace BK366 := bb_ BK366 hb
      replace BK367 := bb_ BK367 hb
      replace BK368 := bb_ BK368 hb
      replace HB := bs_ HB hb
      clear hb hbox hg
      refine hK.out _ _ ⟨kc_ BK366 0, kc_ BK366 1, kc_ BK366 2, kc_ BK366 3, kc_ BK367 0, kc_ BK367 1, kc_ BK367 2, kc_ BK367 3⟩ (fun hHeld => ?_)
      clear hK K
      refine norm_ (a' := ?_) ?_ ?_
      rotate_left
      ·
       show Act.put _ (some 6) _ = _
       simp only [Act.put, List.setIfInBounds_toArray, List.set_cons_zero, List.set_cons_succ, i64_w, i32_w]
       rfl
      exact norm_ (by first | (simp only [putAll, Act.put, List.setIfInBounds_toArray, List.set_cons_zero, List.set_cons_succ]; done) | (simp only [putAll, Act.put, List.setIfInBounds_toArray, List.set_cons_zero, List.set_cons_succ]; rfl)) (hJ6_13_14_15_16 (gb379) _ ⟨hHeld, (pk_ BK366), (pk_ BK367), (pk_ BK368), (pk_ BK379), GW379.out, GE379.out, NB366_379.out, NB379_366.out, NB367_379.out, NB379_367.out, NB368_379.out, NB379_368.out, (pb_ HB)⟩)
    rintro gb379 w50 ⟨hS_, h0_, h1_, h2_, h3_, h4_, h5_, h6_, h7_, h8_, h9_, h10_, h11_, h12_⟩
    have n0_ : Aside0 (w50.heap[gb366]? = some (.cells #[.bool a0_0, .int .u64 a0_1, .int .u64 a0_2, .int .i64 a0_3] 38 (0, 0))) := ⟨h0_⟩
    have n1_ : Aside0 (w50.heap[gb367]? = some (.cells #[.bool a1_0, .int .u64 a1_1, .int .u64 a1_2, .int .i64 a1_3] 38 (0, 0))) := ⟨h1_⟩
    have n2_ : Aside0 (w50.heap[gb368]? = some (.cells #[.bool false, .int .u64 0, .int .u64 0, .int .i64 0] 38 (0, 0))) := ⟨h2_⟩
    have n3_ : Aside0 (w50.heap[gb379]? = some (.cells #[.int .u64 0, .int .u64 0] 24 (0, 0))) := ⟨h3_⟩
    have n4_ : Aside0 (w.heap.size ≤ gb379) := ⟨h4_⟩
    have n5_ : Aside0 (w.heap.size ≤ gb379) := ⟨h5_⟩
    have n6_ : Aside0 (gb366 ≠ gb379) := ⟨h6_⟩
    have n7_ : Aside0 (gb379 ≠ gb366) := ⟨h7_⟩
    have n8_ : Aside0 (gb367 ≠ gb379) := ⟨h8_⟩
    have n9_ : Aside0 (gb379 ≠ gb367) := ⟨h9_⟩
    have n10_ : Aside0 (gb368 ≠ gb379) := ⟨h10_⟩
    have n11_ : Aside0 (gb379 ≠ gb368) := ⟨h11_⟩
    have n12_ : Aside0 (Below w.heap.size w w50) := ⟨h12_⟩
    clear BK366
    clear BK367
    clear BK368
    clear HB
    clear h0_ h1_ h2_ h3_ h4_ h5_ h6_ h7_ h8_ h9_ h10_ h11_ h12_
    have BK366 := n0_
    have BK367 := n1_
    have BK368 := n2_
    have BK379 := n3_
    have GW379 := n4_
    have GE379 := n5_
    have NB366_379 := n6_
    have NB379_366 := n7_
    have NB367_379 := n8_
    have NB379_367 := n9_
    have NB368_379 := n10_
    have NB379_368 := n11_
    have HB := n12_
    clear n0_ n1_ n2_ n3_ n4_ n5_ n6_ n7_ n8_ n9_ n10_ n11_ n12_
    have hHeld : w50.cell? ⟨gb366, 0, none⟩ = some (.bool a0_0) ∧ w50.cell? ⟨gb366, 1, none⟩ = some (.int .u64 a0_1) ∧ w50.cell? ⟨gb366, 2, none⟩ = some (.int .u64 a0_2) ∧ w50.cell? ⟨gb366, 3, none⟩ = some (.int .i64 a0_3) ∧ w50.cell? ⟨gb367, 0, none⟩ = some (.bool a1_0) ∧ w50.cell? ⟨gb367, 1, none⟩ = some (.int .u64 a1_1) ∧ w50.cell? ⟨gb367, 2, none⟩ = some (.int .u64 a1_2) ∧ w50.cell? ⟨gb367, 3, none⟩ = some (.int .i64 a1_3) := hS_
    refine norm_ (a' := ?_) ?_ ?_
    rotate_left
    ·
     simp only [putAll, Act.put, List.setIfInBounds_toArray, List.set_cons_zero, List.set_cons_succ]
     rfl
    refine one_ (i := 17) (N := none) (bm_ 18 262143) rfl rfl (one_of HT_.out (by kernel_rfl)) (by decide) (fun K hK => ?_)
    have hs51 : w50.cell? ⟨gb379, 0, none⟩ = some (.int .u64 0) := kc_ BK379 0
    have hfs51 := blk_frozen BK379.out 0
    have hns51_0 := NB366_379.out
    have hns51_1 := NB367_379.out
    have hns51_2 := NB368_379.out
    have hms51_0 := NB379_366.out
    have hms51_1 := NB379_367.out
    have hms51_2 := NB379_368.out
    have hs52 : w50.cell? ⟨gb379, 1, none⟩ = some (.int .u64 0) := kc_ BK379 1
    have hfs52 := blk_frozen BK379.out 1
    have hns52_0 := NB366_379.out
    have hns52_1 := NB367_379.out
    have hns52_2 := NB368_379.out
    have hms52_0 := NB379_366.out
    have hms52_1 := NB379_367.out
    have hms52_2 := NB379_368.out
    refine skip_ (w1 := ?_) (by rfl) rfl ?_ ?_
    rotate_left
    ·
     go_simp
     rfl
    refine hK.out _ _ ⟨((cell_far (p := ⟨gb379, _, none⟩) NB366_379.out _).trans (((cell_far (p := ⟨gb379, _, none⟩) NB366_379.out _).trans (hHeld.1)))), ((cell_far (p := ⟨gb379, _, none⟩) NB366_379.out _).trans (((cell_far (p := ⟨gb379, _, none⟩) NB366_379.out _).trans (hHeld.2.1)))), ((cell_far (p := ⟨gb379, _, none⟩) NB366_379.out _).trans (((cell_far (p := ⟨gb379, _, none⟩) NB366_379.out _).trans (hHeld.2.2.1)))), ((cell_far (p := ⟨gb379, _, none⟩) NB366_379.out _).trans (((cell_far (p := ⟨gb379, _, none⟩) NB366_379.out _).trans (hHeld.2.2.2.1)))), ((cell_far (p := ⟨gb379, _, none⟩) NB367_379.out _).trans (((cell_far (p := ⟨gb379, _, none⟩) NB367_379.out _).trans (hHeld.2.2.2.2.1)))), ((cell_far (p := ⟨gb379, _, none⟩) NB367_379.out _).trans (((cell_far (p := ⟨gb379, _, none⟩) NB367_379.out _).trans (hHeld.2.2.2.2.2.1)))), ((cell_far (p := ⟨gb379, _, none⟩) NB367_379.out _).trans (((cell_far (p := ⟨gb379, _, none⟩) NB367_379.out _).trans (hHeld.2.2.2.2.2.2.1)))), ((cell_far (p := ⟨gb379, _, none⟩) NB367_379.out _).trans (((cell_far (p := ⟨gb379, _, none⟩) NB367_379.out _).trans (hHeld.2.2.2.2.2.2.2))))⟩ (fun hHeld => ?_)
    clear hK K
    refine done_ (done_of HT_.out (by kernel_rfl)) ?_
    try go_wp2
    have n0_ : Aside0 (((w50.setCell ⟨gb379, 0, none⟩ (.int .u64 t377)).setCell ⟨gb379, 1, none⟩ (.int .u64 t378)).heap[gb366]? = some (.cells #[.bool a0_0, .int .u64 a0_1, .int .u64 a0_2, .int .i64 a0_3] 38 (0, 0))) := ⟨by refine pw_ ?_; refine blk_far ?_ NB366_379.out _; refine pw_ ?_; refine blk_far ?_ NB366_379.out _; refine pw_ ?_; exact BK366.out⟩
    have n1_ : Aside0 (((w50.setCell ⟨gb379, 0, none⟩ (.int .u64 t377)).setCell ⟨gb379, 1, none⟩ (.int .u64 t378)).heap[gb367]? = some (.cells #[.bool a1_0, .int .u64 a1_1, .int .u64 a1_2, .int .i64 a1_3] 38 (0, 0))) := ⟨by refine pw_ ?_; refine blk_far ?_ NB367_379.out _; refine pw_ ?_; refine blk_far ?_ NB367_379.out _; refine pw_ ?_; exact BK367.out⟩
    have n2_ : Aside0 (((w50.setCell ⟨gb379, 0, none⟩ (.int .u64 t377)).setCell ⟨gb379, 1, none⟩ (.int .u64 t378)).heap[gb368]? = some (.cells #[.bool false, .int .u64 0, .int .u64 0, .int .i64 0] 38 (0, 0))) := ⟨by refine pw_ ?_; refine blk_far ?_ NB368_379.out _; refine pw_ ?_; refine blk_far ?_ NB368_379.out _; refine pw_ ?_; exact BK368.out⟩
    have n3_ : Aside0 (((w50.setCell ⟨gb379, 0, none⟩ (.int .u64 t377)).setCell ⟨gb379, 1, none⟩ (.int .u64 t378)).heap[gb379]? = some (.cells #[.int .u64 t377, .int .u64 t378] 24 (0, 0))) := ⟨by refine pw_ ?_; refine blk_put (cs := #[.int .u64 t377, .int .u64 0]) ?_ 1 _ rfl; refine pw_ ?_; refine blk_put (cs := #[.int .u64 0, .int .u64 0]) ?_ 0 _ rfl; refine pw_ ?_; exact BK379.out⟩
    have n4_ : Aside0 (Below w.heap.size w ((w50.setCell ⟨gb379, 0, none⟩ (.int .u64 t377)).setCell ⟨gb379, 1, none⟩ (.int .u64 t378))) := ⟨pb_ HB⟩
    (try clear BK366)
    (try clear BK367)
    (try clear BK368)
    (try clear BK379)
    (try clear HB)
    generalize ((w50.setCell ⟨gb379, 0, none⟩ (.int .u64 t377)).setCell ⟨gb379, 1, none⟩ (.int .u64 t378)) = w53 at n0_ n1_ n2_ n3_ n4_ ⊢
    have BK366 := n0_
    have BK367 := n1_
    have BK368 := n2_
    have BK379 := n3_
    have HB := n4_
    clear n0_ n1_ n2_ n3_ n4_
    replace BK366 := Aside0.mk (blk_drew BK366.out)
    replace BK367 := Aside0.mk (blk_drew BK367.out)
    replace BK368 := Aside0.mk (blk_drew BK368.out)
    replace BK379 := Aside0.mk (blk_drew BK379.out)
    replace HB := Aside0.mk (below_drew1 HB.out)
    refine start_ (n := 18) (S := fun w' => w'.cell? ⟨gb366, 0, none⟩ = some (.bool a0_0) ∧ w'.cell? ⟨gb366, 1, none⟩ = some (.int .u64 a0_1) ∧ w'.cell? ⟨gb366, 2, none⟩ = some (.int .u64 a0_2) ∧ w'.cell? ⟨gb366, 3, none⟩ = some (.int .i64 a0_3) ∧ w'.cell? ⟨gb367, 0, none⟩ = some (.bool a1_0) ∧ w'.cell? ⟨gb367, 1, none⟩ = some (.int .u64 a1_1) ∧ w'.cell? ⟨gb367, 2, none⟩ = some (.int .u64 a1_2) ∧ w'.cell? ⟨gb367, 3, none⟩ = some (.int .i64 a1_3) ∧ w'.cell? ⟨gb379, 0, none⟩ = some (.int .u64 t377) ∧ w'.cell? ⟨gb379, 1, none⟩ = some (.int .u64 t378)) (ds := []) (bm_ 18 0) (by kernel_rfl) rfl rfl ⟨kc_ BK366 0, kc_ BK366 1, kc_ BK366 2, kc_ BK366 3, kc_ BK367 0, kc_ BK367 1, kc_ BK367 2, kc_ BK367 3, kc_ BK379 0, kc_ BK379 1⟩ (fun hHeld => ?_); refine with_tabW prefix_Common.tab4 prefix_Common.bits4 (fun HT_ HW_ => ?_)
    generalize w53.drew = w54 at BK366 BK367 BK368 BK379 HB hHeld ⊢
    refine pu_ 0 (some 41) (bm_ 18 1) rfl HT_ ⟨by rfl, by intro w'; go_simp; with_reducible rfl⟩ ?_
    refine pu_ 2 (some 43) (bm_ 18 5) rfl HT_ ⟨by rfl, by intro w'; go_simp; with_reducible rfl⟩ ?_
    refine pu_ 4 (some 45) (bm_ 18 21) rfl HT_ ⟨by rfl, by intro w'; go_simp; with_reducible rfl⟩ ?_
    refine pu_ 6 (some 47) (bm_ 18 85) rfl HT_ ⟨by rfl, by intro w'; go_simp; with_reducible rfl⟩ ?_
    refine ta_ 1 (some 42) (bm_ 18 87) rfl HT_ HW_ ⟨by rfl, by rintro w' ⟨s0, s1, s2, s3, s4, s5, s6, s7, s8, s9⟩; go_simp; with_reducible rfl⟩ hHeld ?_
    refine ta_ 3 (some 44) (bm_ 18 95) rfl HT_ HW_ ⟨by rfl, by rintro w' ⟨s0, s1, s2, s3, s4, s5, s6, s7, s8, s9⟩; go_simp; with_reducible rfl⟩ hHeld ?_
    refine ta_ 5 (some 46) (bm_ 18 127) rfl HT_ HW_ ⟨by rfl, by rintro w' ⟨s0, s1, s2, s3, s4, s5, s6, s7, s8, s9⟩; go_simp; with_reducible rfl⟩ hHeld ?_
    refine ta_ 7 (some 48) (bm_ 18 255) rfl HT_ HW_ ⟨by rfl, by rintro w' ⟨s0, s1, s2, s3, s4, s5, s6, s7, s8, s9⟩; go_simp; with_reducible rfl⟩ hHeld ?_
    refine ta_ 9 (some 50) (bm_ 18 767) rfl HT_ HW_ ⟨by rfl, by rintro w' ⟨s0, s1, s2, s3, s4, s5, s6, s7, s8, s9⟩; go_simp; with_reducible rfl⟩ hHeld ?_
    refine one_ (i := 8) (N := some 49) (bm_ 18 1023) rfl rfl (one_of HT_.out (by kernel_rfl)) (by decide) (fun K hK => ?_)
    refine gr_ Tryz.func22 #[.agg #[.bool a0_0, .int .u64 a0_1, .int .u64 a0_2]] ?_
    with_reducible refine (addr_Width.calls a0_0 a0_1 a0_2 t380 _ A39.out).mono ?_
    rintro e w55 ⟨rfl, hb⟩
    refine ⟨_, rfl, ?_⟩
    replace BK366 := bb_ BK366 hb
    replace BK367 := bb_ BK367 hb
    replace BK368 := bb_ BK368 hb
    replace BK379 := bb_ BK379 hb
    replace HB := bs_ HB hb
    (try clear hb)
    (try clear hb2)
    (try clear hk)
    (try clear hi)
    refine hK.out _ _ ⟨kc_ BK366 0, kc_ BK366 1, kc_ BK366 2, kc_ BK366 3, kc_ BK367 0, kc_ BK367 1, kc_ BK367 2, kc_ BK367 3, kc_ BK379 0, kc_ BK379 1⟩ (fun hHeld => ?_)
    clear hK K
    refine norm_ (a' := ?_) ?_ ?_
    rotate_left
    ·
     show Act.put _ (some 49) _ = _
     simp only [Act.put, List.setIfInBounds_toArray, List.set_cons_zero, List.set_cons_succ, i64_w, i32_w]
     rfl
    refine one_ (i := 10) (N := some 51) (bm_ 18 2047) rfl rfl (one_of HT_.out (by kernel_rfl)) (by decide) (fun K hK => ?_)
    refine gr_ Tryz.func70 #[.agg #[.int .u64 t377, .int .u64 t378]] ?_
    with_reducible refine (num_Len.calls t377 t378 t381 _ A40.out).mono ?_
    rintro e w56 ⟨rfl, hb⟩
    refine ⟨_, rfl, ?_⟩
    replace BK366 := bb_ BK366 hb
    replace BK367 := bb_ BK367 hb
    replace BK368 := bb_ BK368 hb
    replace BK379 := bb_ BK379 hb
    replace HB := bs_ HB hb
    (try clear hb)
    (try clear hb2)
    (try clear hk)
    (try clear hi)
    refine hK.out _ _ ⟨kc_ BK366 0, kc_ BK366 1, kc_ BK366 2, kc_ BK366 3, kc_ BK367 0, kc_ BK367 1, kc_ BK367 2, kc_ BK367 3, kc_ BK379 0, kc_ BK379 1⟩ (fun hHeld => ?_)
    clear hK K
    refine norm_ (a' := ?_) ?_ ?_
    rotate_left
    ·
     show Act.put _ (some 51) _ = _
     simp only [Act.put, List.setIfInBounds_toArray, List.set_cons_zero, List.set_cons_succ, i64_w, i32_w]
     rfl
    refine pu_ 11 (some 52) (bm_ 18 4095) rfl HT_ ⟨by rfl, by intro w'; go_simp; with_reducible rfl⟩ ?_
    refine pu_ 12 (some 53) (bm_ 18 8191) rfl HT_ ⟨by rfl, by intro w'; go_simp; with_reducible rfl⟩ ?_
    refine one_ (i := 13) (N := some 54) (bm_ 18 16383) rfl rfl (one_of HT_.out (by kernel_rfl)) (by decide) (fun K hK => ?_)
    refine goes_ Tryz.func34 (by kernel_rfl) rfl #[.agg #[.bool a0_0, .int .u64 a0_1, .int .u64 a0_2], .int .i64 ji42] (by rfl) rfl rfl (by (try simp only [List.map_toArray, List.map_cons, List.map_nil]); first | done | (simp only [hji42]; rfl) | rfl | (simp only [List.length_drop, List.length_take]; rfl)) ?_
    with_reducible refine (prefix_Of.calls kj2 a0_0 a0_1 a0_2 ji42 t382 t383 t384 t385 t386 _ A43.out).mono ?_
    rintro e w57 ⟨rfl, hb⟩
    refine ⟨_, rfl, ?_⟩
    replace BK366 := bb_ BK366 hb
    replace BK367 := bb_ BK367 hb
    replace BK368 := bb_ BK368 hb
    replace BK379 := bb_ BK379 hb
    replace HB := bs_ HB hb
    (try clear hb)
    (try clear hb2)
    (try clear hk)
    (try clear hi)
    refine hK.out _ _ ⟨kc_ BK366 0, kc_ BK366 1, kc_ BK366 2, kc_ BK366 3, kc_ BK367 0, kc_ BK367 1, kc_ BK367 2, kc_ BK367 3, kc_ BK379 0, kc_ BK379 1⟩ (fun hHeld => ?_)
    clear hK K
    refine norm_ (a' := ?_) ?_ ?_
    rotate_left
    ·
     show Act.put _ (some 54) _ = _
     simp only [Act.put, List.setIfInBounds_toArray, List.set_cons_zero, List.set_cons_succ, i64_w, i32_w]
     rfl
    refine pu_ 14 (some 55) (bm_ 18 32767) rfl HT_ ⟨by rfl, by intro w'; go_simp; with_reducible rfl⟩ ?_
    refine pu_ 15 (some 56) (bm_ 18 65535) rfl HT_ ⟨by rfl, by intro w'; go_simp; with_reducible rfl⟩ ?_
    refine one_ (i := 16) (N := none) (bm_ 18 131071) rfl rfl (one_of HT_.out (by kernel_rfl)) (by decide) (fun K hK => ?_)
    have hs58 : w57.cell? ⟨gb368, 0, none⟩ = some (.bool false) := kc_ BK368 0
    have hfs58 := blk_frozen BK368.out 0
    have hns58_0 := NB366_368.out
    have hns58_1 := NB367_368.out
    have hns58_3 := NB379_368.out
    have hms58_0 := NB368_366.out
    have hms58_1 := NB368_367.out
    have hms58_3 := NB368_379.out
    have hs59 : w57.cell? ⟨gb368, 1, none⟩ = some (.int .u64 0) := kc_ BK368 1
    have hfs59 := blk_frozen BK368.out 1
    have hns59_0 := NB366_368.out
    have hns59_1 := NB367_368.out
    have hns59_3 := NB379_368.out
    have hms59_0 := NB368_366.out
    have hms59_1 := NB368_367.out
    have hms59_3 := NB368_379.out
    have hs60 : w57.cell? ⟨gb368, 2, none⟩ = some (.int .u64 0) := kc_ BK368 2
    have hfs60 := blk_frozen BK368.out 2
    have hns60_0 := NB366_368.out
    have hns60_1 := NB367_368.out
    have hns60_3 := NB379_368.out
    have hms60_0 := NB368_366.out
    have hms60_1 := NB368_367.out
    have hms60_3 := NB368_379.out
    have hs61 : w57.cell? ⟨gb368, 3, none⟩ = some (.int .i64 0) := kc_ BK368 3
    have hfs61 := blk_frozen BK368.out 3
    have hns61_0 := NB366_368.out
    have hns61_1 := NB367_368.out
    have hns61_3 := NB379_368.out
    have hms61_0 := NB368_366.out
    have hms61_1 := NB368_367.out
    have hms61_3 := NB368_379.out
    refine skip_ (w1 := ?_) (by rfl) rfl ?_ ?_
    rotate_left
    ·
     go_simp
     rfl
    refine hK.out _ _ ⟨((cell_far (p := ⟨gb368, _, none⟩) NB366_368.out _).trans (((cell_far (p := ⟨gb368, _, none⟩) NB366_368.out _).trans (((cell_far (p := ⟨gb368, _, none⟩) NB366_368.out _).trans (((cell_far (p := ⟨gb368, _, none⟩) NB366_368.out _).trans (hHeld.1)))))))), ((cell_far (p := ⟨gb368, _, none⟩) NB366_368.out _).trans (((cell_far (p := ⟨gb368, _, none⟩) NB366_368.out _).trans (((cell_far (p := ⟨gb368, _, none⟩) NB366_368.out _).trans (((cell_far (p := ⟨gb368, _, none⟩) NB366_368.out _).trans (hHeld.2.1)))))))), ((cell_far (p := ⟨gb368, _, none⟩) NB366_368.out _).trans (((cell_far (p := ⟨gb368, _, none⟩) NB366_368.out _).trans (((cell_far (p := ⟨gb368, _, none⟩) NB366_368.out _).trans (((cell_far (p := ⟨gb368, _, none⟩) NB366_368.out _).trans (hHeld.2.2.1)))))))), ((cell_far (p := ⟨gb368, _, none⟩) NB366_368.out _).trans (((cell_far (p := ⟨gb368, _, none⟩) NB366_368.out _).trans (((cell_far (p := ⟨gb368, _, none⟩) NB366_368.out _).trans (((cell_far (p := ⟨gb368, _, none⟩) NB366_368.out _).trans (hHeld.2.2.2.1)))))))), ((cell_far (p := ⟨gb368, _, none⟩) NB367_368.out _).trans (((cell_far (p := ⟨gb368, _, none⟩) NB367_368.out _).trans (((cell_far (p := ⟨gb368, _, none⟩) NB367_368.out _).trans (((cell_far (p := ⟨gb368, _, none⟩) NB367_368.out _).trans (hHeld.2.2.2.2.1)))))))), ((cell_far (p := ⟨gb368, _, none⟩) NB367_368.out _).trans (((cell_far (p := ⟨gb368, _, none⟩) NB367_368.out _).trans (((cell_far (p := ⟨gb368, _, none⟩) NB367_368.out _).trans (((cell_far (p := ⟨gb368, _, none⟩) NB367_368.out _).trans (hHeld.2.2.2.2.2.1)))))))), ((cell_far (p := ⟨gb368, _, none⟩) NB367_368.out _).trans (((cell_far (p := ⟨gb368, _, none⟩) NB367_368.out _).trans (((cell_far (p := ⟨gb368, _, none⟩) NB367_368.out _).trans (((cell_far (p := ⟨gb368, _, none⟩) NB367_368.out _).trans (hHeld.2.2.2.2.2.2.1)))))))), ((cell_far (p := ⟨gb368, _, none⟩) NB367_368.out _).trans (((cell_far (p := ⟨gb368, _, none⟩) NB367_368.out _).trans (((cell_far (p := ⟨gb368, _, none⟩) NB367_368.out _).trans (((cell_far (p := ⟨gb368, _, none⟩) NB367_368.out _).trans (hHeld.2.2.2.2.2.2.2.1)))))))), ((cell_far (p := ⟨gb368, _, none⟩) NB379_368.out _).trans (((cell_far (p := ⟨gb368, _, none⟩) NB379_368.out _).trans (((cell_far (p := ⟨gb368, _, none⟩) NB379_368.out _).trans (((cell_far (p := ⟨gb368, _, none⟩) NB379_368.out _).trans (hHeld.2.2.2.2.2.2.2.2.1)))))))), ((cell_far (p := ⟨gb368, _, none⟩) NB379_368.out _).trans (((cell_far (p := ⟨gb368, _, none⟩) NB379_368.out _).trans (((cell_far (p := ⟨gb368, _, none⟩) NB379_368.out _).trans (((cell_far (p := ⟨gb368, _, none⟩) NB379_368.out _).trans (hHeld.2.2.2.2.2.2.2.2.2))))))))⟩ (fun hHeld => ?_)
    clear hK K
    refine pu_ 17 (some 5) (bm_ 18 262143) rfl HT_ ⟨by rfl, by intro w'; go_simp; with_reducible rfl⟩ ?_
    refine done_ (done_of HT_.out (by kernel_rfl)) ?_
    try go_wp2
    refine bodyPost_ret (results_ct rfl _ _ gb368 38 #[.bool t382, .int .u64 t383, .int .u64 t384, .int .i64 t385] (0, 0) _ rfl (by refine pw_ ?_; refine blk_put (cs := #[.bool t382, .int .u64 t383, .int .u64 t384, .int .i64 0]) ?_ 3 _ rfl; refine pw_ ?_; refine blk_put (cs := #[.bool t382, .int .u64 t383, .int .u64 0, .int .i64 0]) ?_ 2 _ rfl; refine pw_ ?_; refine blk_put (cs := #[.bool t382, .int .u64 0, .int .u64 0, .int .i64 0]) ?_ 1 _ rfl; refine pw_ ?_; refine blk_put (cs := #[.bool false, .int .u64 0, .int .u64 0, .int .i64 0]) ?_ 0 _ rfl; refine pw_ ?_; exact BK368.out) Tryz.underlying38 rfl (by kernel_rfl)) rfl ?_
    exact ⟨by first | rfl | (simp [errW_none, errW_some] <;> rfl) | (simp only [← hji41, ← hji42]; first | rfl | (simp [errW_none, errW_some] <;> rfl)) | (simp [*, errW_none, errW_some] <;> rfl), pb_ HB⟩

end Go.Proofs.YtgdgklibilddgaaGreatDoor.PPr

namespace Go.Proofs.YtgdgklibilddgaaGreatDoor.PPr
open Go.RowKit Go.Proofs.YtgdgklibilddgaaGreatDoorW.PrintWords Go.Proofs.YtgdgklibilddgaaGreatDoorW.PrintLast Go.Proofs.YtgdgklibilddgaaGreatDoorW.PrintMore
attribute [local go_sem] max2_int min2_int max_two min_two max_three min_three max_four min_four   -- for this text's walks alone

theorem eqA38 (d : Nat) (w : World) (x0 y0 : Bool) (x1 y1 : Int) (x2 y2 : Int) (x3 y3 : Int) :
    (Op.equalIn (d + 4) 38 (.agg #[.bool x0, .int .u64 x1, .int .u64 x2, .int .i64 x3]) (.agg #[.bool y0, .int .u64 y1, .int .u64 y2, .int .i64 y3])).run Tryz.prog w = .ok ((x0 == y0 && ((x1 == y1 && (x2 == y2)))) && (x3 == y3)) w := by
  refine eqA_of Tryz.underlying38 (by kernel_rfl) ?_
  refine eqf_cons (by rfl) (by go_simp) (by go_simp) (eqA26 (d + 0) w _ _ _ _ _ _) ?_
  exact eqf_last (by rfl) (by go_simp; rfl) (by go_simp; rfl) (by go_simp)
end Go.Proofs.YtgdgklibilddgaaGreatDoor.PPr

