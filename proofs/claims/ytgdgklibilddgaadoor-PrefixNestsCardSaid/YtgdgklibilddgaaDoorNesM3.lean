/-
PrefixNests: of two prefixes that overlap one lies within the other, and an address that both have is there just if they overlap: for every two prefixes and every address the call returns true. No condition; the listed variables are tied to the program's text.
-/
import Derived.ProofKit
import Derived.ChangeSame
import Derived.LaidMore
import Derived.Lay
import Derived.MakeChecks
import Derived.LaidByTextLater
import Derived.OpenShut
import Derived.Stop.Joined
import Derived.Stop.LaidErr
import Derived.Handed
import Derived.Shelf.Vars
import Derived.Lib.SmallJoins
import Derived.Carry
import Derived.SevenTiedAt
import Derived.ShutString
import Derived.Test.YtgdgklibilddgaaDoorNesM2
import Derived.Test.YtgdgklibilddgaaDoorRows
import Derived.Test.YtgdgklibilddgaaDoorCards
import Derived.Test.YtgdgklibilddgaaDoorTie
set_option linter.unusedVariables false
set_option linter.unusedSimpArgs false
namespace Go.Proofs.YtgdgklibilddgaaDoor.PPr
open Go.RowKit Go.Proofs.YtgdgklibilddgaaDoorW.PrintWords Go.Proofs.YtgdgklibilddgaaDoorW.PrintLast Go.Proofs.YtgdgklibilddgaaDoorW.PrintMore
attribute [local go_sem] max2_int min2_int max_two min_two max_three min_three max_four min_four   -- for this text's walks alone

attribute [local go_sem high] eqA43
def platbooklaw03_awake.f  : Option (Bool) := (prefix_Parse.f (⟨#[49, 48, 46, 48, 46, 48, 46, 48, 47, 56]⟩ : ByteArray)).bind fun bt119 => ((prefix_Halves.f bt119.1 bt119.2.1 bt119.2.2.1 bt119.2.2.2.1).bind fun bt125 => ((prefix_Parse.f (⟨#[49, 48, 46, 48, 46, 48, 46, 49, 47, 56]⟩ : ByteArray)).bind fun bt136 => (if bt119.2.2.2.2 = 0 then (if bt125.2.2.2.2.2.2.2.2 = 0 then ((prefix_Print.f bt125.1 bt125.2.1 bt125.2.2.1 bt125.2.2.2.1).bind fun t142 => (if t142.toList = ([49, 48, 46, 48, 46, 48, 46, 48, 47, 57] : List UInt8) then ((prefix_Print.f bt125.2.2.2.2.1 bt125.2.2.2.2.2.1 bt125.2.2.2.2.2.2.1 bt125.2.2.2.2.2.2.2.1).bind fun t143 => (if t143.toList = ([49, 48, 46, 49, 50, 56, 46, 48, 46, 48, 47, 57] : List UInt8) then (some (bt136.2.2.2.2 == 4)) else (some false))) else (some false))) else (some false)) else (some false))))
set_option maxHeartbeats 8000000 in
set_option maxRecDepth 100000 in
theorem platbooklaw03_awake.calls  (r : Bool) (w : World) (hG : Glob w) (hrt : r = true) (h : platbooklaw03_awake.f  = some r) :
  Calls Tryd.prog 20 #[] w fun e w' => e = .returned (.bool r) ∧ Below w.heap.size w w' := by
 have hu43 := Tryd.underlying43
 have HGLB := Aside0.mk hG
 clear hG
 have HRT := Aside0.mk hrt
 clear hrt
 have HB := Aside0.mk (Below.refl w.heap.size w)
 have H : ((prefix_Parse.f (⟨#[49, 48, 46, 48, 46, 48, 46, 48, 47, 56]⟩ : ByteArray)).bind fun bt119 => ((prefix_Halves.f bt119.1 bt119.2.1 bt119.2.2.1 bt119.2.2.2.1).bind fun bt125 => ((prefix_Parse.f (⟨#[49, 48, 46, 48, 46, 48, 46, 49, 47, 56]⟩ : ByteArray)).bind fun bt136 => (if bt119.2.2.2.2 = 0 then (if bt125.2.2.2.2.2.2.2.2 = 0 then ((prefix_Print.f bt125.1 bt125.2.1 bt125.2.2.1 bt125.2.2.2.1).bind fun t142 => (if t142.toList = ([49, 48, 46, 48, 46, 48, 46, 48, 47, 57] : List UInt8) then ((prefix_Print.f bt125.2.2.2.2.1 bt125.2.2.2.2.2.1 bt125.2.2.2.2.2.2.1 bt125.2.2.2.2.2.2.2.1).bind fun t143 => (if t143.toList = ([49, 48, 46, 49, 50, 56, 46, 48, 46, 48, 47, 57] : List UInt8) then (some (bt136.2.2.2.2 == 4)) else (some false))) else (some false))) else (some false)) else (some false))))) = some r := h
 clear h
 replace H := Option.bind_eq_some_iff.mp H
 obtain ⟨⟨t119, t120, t121, t122, t123⟩, A10, H⟩ := H
 replace H : ((prefix_Halves.f t119 t120 t121 t122).bind fun bt125 => ((prefix_Parse.f (⟨#[49, 48, 46, 48, 46, 48, 46, 49, 47, 56]⟩ : ByteArray)).bind fun bt136 => (if t123 = 0 then (if bt125.2.2.2.2.2.2.2.2 = 0 then ((prefix_Print.f bt125.1 bt125.2.1 bt125.2.2.1 bt125.2.2.2.1).bind fun t142 => (if t142.toList = ([49, 48, 46, 48, 46, 48, 46, 48, 47, 57] : List UInt8) then ((prefix_Print.f bt125.2.2.2.2.1 bt125.2.2.2.2.2.1 bt125.2.2.2.2.2.2.1 bt125.2.2.2.2.2.2.2.1).bind fun t143 => (if t143.toList = ([49, 48, 46, 49, 50, 56, 46, 48, 46, 48, 47, 57] : List UInt8) then (some (bt136.2.2.2.2 == 4)) else (some false))) else (some false))) else (some false)) else (some false)))) = some r := H
 have A1 := Aside0.mk A10
 clear A10
 replace H := Option.bind_eq_some_iff.mp H
 obtain ⟨⟨t125, t126, t127, t128, t129, t130, t131, t132, t133⟩, A20, H⟩ := H
 replace H : ((prefix_Parse.f (⟨#[49, 48, 46, 48, 46, 48, 46, 49, 47, 56]⟩ : ByteArray)).bind fun bt136 => (if t123 = 0 then (if t133 = 0 then ((prefix_Print.f t125 t126 t127 t128).bind fun t142 => (if t142.toList = ([49, 48, 46, 48, 46, 48, 46, 48, 47, 57] : List UInt8) then ((prefix_Print.f t129 t130 t131 t132).bind fun t143 => (if t143.toList = ([49, 48, 46, 49, 50, 56, 46, 48, 46, 48, 47, 57] : List UInt8) then (some (bt136.2.2.2.2 == 4)) else (some false))) else (some false))) else (some false)) else (some false))) = some r := H
 have A2 := Aside0.mk A20
 clear A20
 replace H := Option.bind_eq_some_iff.mp H
 obtain ⟨⟨t136, t137, t138, t139, t140⟩, A30, H⟩ := H
 replace H : (if t123 = 0 then (if t133 = 0 then ((prefix_Print.f t125 t126 t127 t128).bind fun t142 => (if t142.toList = ([49, 48, 46, 48, 46, 48, 46, 48, 47, 57] : List UInt8) then ((prefix_Print.f t129 t130 t131 t132).bind fun t143 => (if t143.toList = ([49, 48, 46, 49, 50, 56, 46, 48, 46, 48, 47, 57] : List UInt8) then (some (t140 == 4)) else (some false))) else (some false))) else (some false)) else (some false)) = some r := H
 have A3 := Aside0.mk A30
 clear A30
 by_cases c4 : t123 = 0
 ·
  rw [if_pos c4] at H
  have c4b0 : (t123 == 0) = true := beq_iff_eq.mpr c4
  have c4b1 : (t123 != 0) = false := bne_eq_false_iff_eq.mpr c4
  clear c4
  by_cases c5 : t133 = 0
  ·
   rw [if_pos c5] at H
   have c5b0 : (t133 == 0) = true := beq_iff_eq.mpr c5
   have c5b1 : (t133 != 0) = false := bne_eq_false_iff_eq.mpr c5
   clear c5
   replace H := Option.bind_eq_some_iff.mp H
   obtain ⟨t142, A60, H⟩ := H
   replace H : (if t142.toList = ([49, 48, 46, 48, 46, 48, 46, 48, 47, 57] : List UInt8) then ((prefix_Print.f t129 t130 t131 t132).bind fun t143 => (if t143.toList = ([49, 48, 46, 49, 50, 56, 46, 48, 46, 48, 47, 57] : List UInt8) then (some (t140 == 4)) else (some false))) else (some false)) = some r := H
   have A6 := Aside0.mk A60
   clear A60
   by_cases c7 : t142.toList = ([49, 48, 46, 48, 46, 48, 46, 48, 47, 57] : List UInt8)
   ·
    rw [if_pos c7] at H
    have c7b0 : (t142.toList == ([49, 48, 46, 48, 46, 48, 46, 48, 47, 57] : List UInt8)) = true := beq_iff_eq.mpr c7
    have c7b1 : (t142.toList != ([49, 48, 46, 48, 46, 48, 46, 48, 47, 57] : List UInt8)) = false := bne_eq_false_iff_eq.mpr c7
    clear c7
    replace H := Option.bind_eq_some_iff.mp H
    obtain ⟨t143, A80, H⟩ := H
    replace H : (if t143.toList = ([49, 48, 46, 49, 50, 56, 46, 48, 46, 48, 47, 57] : List UInt8) then (some (t140 == 4)) else (some false)) = some r := H
    have A8 := Aside0.mk A80
    clear A80
    by_cases c9 : t143.toList = ([49, 48, 46, 49, 50, 56, 46, 48, 46, 48, 47, 57] : List UInt8)
    ·
     rw [if_pos c9] at H
     have c9b0 : (t143.toList == ([49, 48, 46, 49, 50, 56, 46, 48, 46, 48, 47, 57] : List UInt8)) = true := beq_iff_eq.mpr c9
     have c9b1 : (t143.toList != ([49, 48, 46, 49, 50, 56, 46, 48, 46, 48, 47, 57] : List UInt8)) = false := bne_eq_false_iff_eq.mpr c9
     clear c9
     obtain rfl := Option.some.inj H
     go_enter Tryd.func20, Tryd.ntmps20
     go_wp2_with (first | ((with_reducible refine gate_callee (f := 51) rfl ?_); refine gl_ (some 9) Tryd.func51 #[.string (⟨#[49, 48, 46, 48, 46, 48, 46, 48, 47, 56]⟩ : ByteArray)] ?_; (with_reducible refine (prefix_Parse.calls (⟨#[49, 48, 46, 48, 46, 48, 46, 48, 47, 56]⟩ : ByteArray) t119 t120 t121 t122 t123 _ ?side1 A1.out).mono ?_); (case side1 => exact glob_keep HGLB.out (pb_ HB)); rintro e w10 ⟨rfl, hb⟩; refine ⟨_, rfl, ?_⟩; replace HB := bs_ HB hb; (try clear hb); (try clear hb2); (try clear hk); (try clear hi)) | ((with_reducible refine gate_dst (N := 1) rfl ?_); refine bx_ 1 #[.bool false, .int .u64 0, .int .u64 0, .int .i64 0] 43 ?_; intro gb124 hg w11 hbox hb; have BK124 := Aside0.mk (hbox); have GW124 := gw_ HB hg; have GE124 := gw_ HB hg; replace HB := bs_ HB hb; clear hb hbox hg; obtain ⟨hcz12_0, hcz12_1, hcz12_2, hcz12_3, hfz12_0, hfz12_1, hfz12_2, hfz12_3⟩ := c4_ BK124) | ((with_reducible refine gate_callee (f := 52) rfl ?_); refine gl_ (some 14) Tryd.func52 #[.agg #[.bool t119, .int .u64 t120, .int .u64 t121, .int .i64 t122]] ?_; (with_reducible refine (prefix_Halves.calls t119 t120 t121 t122 t125 t126 t127 t128 t129 t130 t131 t132 t133 _ A2.out).mono ?_); rintro e w13 ⟨rfl, hb⟩; refine ⟨_, rfl, ?_⟩; replace BK124 := Aside0.mk (blk_below (g := gb124) (o := .cells #[.bool t119, .int .u64 t120, .int .u64 t121, .int .i64 t122] 43 (0, 0)) (by refine pw_ ?_; refine blk_put (cs := #[.bool t119, .int .u64 t120, .int .u64 t121, .int .i64 0]) ?_ 3 _ rfl; refine pw_ ?_; refine blk_put (cs := #[.bool t119, .int .u64 t120, .int .u64 0, .int .i64 0]) ?_ 2 _ rfl; refine pw_ ?_; refine blk_put (cs := #[.bool t119, .int .u64 0, .int .u64 0, .int .i64 0]) ?_ 1 _ rfl; refine pw_ ?_; refine blk_put (cs := #[.bool false, .int .u64 0, .int .u64 0, .int .i64 0]) ?_ 0 _ rfl; refine pw_ ?_; exact BK124.out) hb); replace HB := bs_ HB hb; (try clear hb); (try clear hb2); (try clear hk); (try clear hi)) | ((with_reducible refine gate_dst (N := 3) rfl ?_); refine bx_ 3 #[.bool false, .int .u64 0, .int .u64 0, .int .i64 0] 43 ?_; intro gb134 hg w14 hbox hb; have BK134 := Aside0.mk (hbox); have GW134 := gw_ HB hg; have GE134 := gw_ HB hg; have NB124_134 := nl_ BK124 hg; have NB134_124 := ng_ BK124 hg; replace BK124 := bb_ BK124 hb; replace HB := bs_ HB hb; clear hb hbox hg) | ((with_reducible refine gate_dst (N := 4) rfl ?_); refine bx_ 4 #[.bool false, .int .u64 0, .int .u64 0, .int .i64 0] 43 ?_; intro gb135 hg w15 hbox hb; have BK135 := Aside0.mk (hbox); have GW135 := gw_ HB hg; have GE135 := gw_ HB hg; have NB124_135 := nl_ BK124 hg; have NB135_124 := ng_ BK124 hg; have NB134_135 := nl_ BK134 hg; have NB135_134 := ng_ BK134 hg; replace BK124 := bb_ BK124 hb; replace BK134 := bb_ BK134 hb; replace HB := bs_ HB hb; clear hb hbox hg; have hnb16 := NB134_124.out; have hnc16 := NB124_134.out; have hnb17 := NB134_135.out; have hnc17 := NB135_134.out; obtain ⟨hcz18_0, hcz18_1, hcz18_2, hcz18_3, hfz18_0, hfz18_1, hfz18_2, hfz18_3⟩ := c4_ BK134; have hnb19 := NB135_124.out; have hnc19 := NB124_135.out; obtain ⟨hcz20_0, hcz20_1, hcz20_2, hcz20_3, hfz20_0, hfz20_1, hfz20_2, hfz20_3⟩ := c4_ BK135) | ((with_reducible refine gate_callee (f := 51) rfl ?_); refine gl_ (some 19) Tryd.func51 #[.string (⟨#[49, 48, 46, 48, 46, 48, 46, 49, 47, 56]⟩ : ByteArray)] ?_; (with_reducible refine (prefix_Parse.calls (⟨#[49, 48, 46, 48, 46, 48, 46, 49, 47, 56]⟩ : ByteArray) t136 t137 t138 t139 t140 _ ?side1 A3.out).mono ?_); (case side1 => exact glob_keep HGLB.out (pb_ HB)); rintro e w21 ⟨rfl, hb⟩; refine ⟨_, rfl, ?_⟩; replace BK124 := Aside0.mk (blk_below (g := gb124) (o := .cells #[.bool t119, .int .u64 t120, .int .u64 t121, .int .i64 t122] 43 (0, 0)) (by refine pw_ ?_; refine blk_far ?_ NB124_135.out _; refine pw_ ?_; refine blk_far ?_ NB124_135.out _; refine pw_ ?_; refine blk_far ?_ NB124_135.out _; refine pw_ ?_; refine blk_far ?_ NB124_135.out _; refine pw_ ?_; refine blk_far ?_ NB124_134.out _; refine pw_ ?_; refine blk_far ?_ NB124_134.out _; refine pw_ ?_; refine blk_far ?_ NB124_134.out _; refine pw_ ?_; refine blk_far ?_ NB124_134.out _; refine pw_ ?_; exact BK124.out) hb); replace BK134 := Aside0.mk (blk_below (g := gb134) (o := .cells #[.bool t125, .int .u64 t126, .int .u64 t127, .int .i64 t128] 43 (0, 0)) (by refine pw_ ?_; refine blk_far ?_ NB134_135.out _; refine pw_ ?_; refine blk_far ?_ NB134_135.out _; refine pw_ ?_; refine blk_far ?_ NB134_135.out _; refine pw_ ?_; refine blk_far ?_ NB134_135.out _; refine pw_ ?_; refine blk_put (cs := #[.bool t125, .int .u64 t126, .int .u64 t127, .int .i64 0]) ?_ 3 _ rfl; refine pw_ ?_; refine blk_put (cs := #[.bool t125, .int .u64 t126, .int .u64 0, .int .i64 0]) ?_ 2 _ rfl; refine pw_ ?_; refine blk_put (cs := #[.bool t125, .int .u64 0, .int .u64 0, .int .i64 0]) ?_ 1 _ rfl; refine pw_ ?_; refine blk_put (cs := #[.bool false, .int .u64 0, .int .u64 0, .int .i64 0]) ?_ 0 _ rfl; refine pw_ ?_; exact BK134.out) hb); replace BK135 := Aside0.mk (blk_below (g := gb135) (o := .cells #[.bool t129, .int .u64 t130, .int .u64 t131, .int .i64 t132] 43 (0, 0)) (by refine pw_ ?_; refine blk_put (cs := #[.bool t129, .int .u64 t130, .int .u64 t131, .int .i64 0]) ?_ 3 _ rfl; refine pw_ ?_; refine blk_put (cs := #[.bool t129, .int .u64 t130, .int .u64 0, .int .i64 0]) ?_ 2 _ rfl; refine pw_ ?_; refine blk_put (cs := #[.bool t129, .int .u64 0, .int .u64 0, .int .i64 0]) ?_ 1 _ rfl; refine pw_ ?_; refine blk_put (cs := #[.bool false, .int .u64 0, .int .u64 0, .int .i64 0]) ?_ 0 _ rfl; refine pw_ ?_; refine blk_far ?_ NB135_134.out _; refine pw_ ?_; refine blk_far ?_ NB135_134.out _; refine pw_ ?_; refine blk_far ?_ NB135_134.out _; refine pw_ ?_; refine blk_far ?_ NB135_134.out _; refine pw_ ?_; exact BK135.out) hb); replace HB := bs_ HB hb; (try clear hb); (try clear hb2); (try clear hk); (try clear hi)) | ((with_reducible refine gate_dst (N := 6) rfl ?_); refine bx_ 6 #[.bool false, .int .u64 0, .int .u64 0, .int .i64 0] 43 ?_; intro gb141 hg w22 hbox hb; have BK141 := Aside0.mk (hbox); have GW141 := gw_ HB hg; have GE141 := gw_ HB hg; have NB124_141 := nl_ BK124 hg; have NB141_124 := ng_ BK124 hg; have NB134_141 := nl_ BK134 hg; have NB141_134 := ng_ BK134 hg; have NB135_141 := nl_ BK135 hg; have NB141_135 := ng_ BK135 hg; replace BK124 := bb_ BK124 hb; replace BK134 := bb_ BK134 hb; replace BK135 := bb_ BK135 hb; replace HB := bs_ HB hb; clear hb hbox hg; have hnb23 := NB141_124.out; have hnc23 := NB124_141.out; have hnb24 := NB141_134.out; have hnc24 := NB134_141.out; have hnb25 := NB141_135.out; have hnc25 := NB135_141.out; obtain ⟨hcz26_0, hcz26_1, hcz26_2, hcz26_3, hfz26_0, hfz26_1, hfz26_2, hfz26_3⟩ := c4_ BK141; obtain ⟨hcz27_0, hcz27_1, hcz27_2, hcz27_3, hfz27_0, hfz27_1, hfz27_2, hfz27_3⟩ := c4_ BK134) | (go_at_call 53; (with_reducible refine (prefix_Print.calls t125 t126 t127 t128 t142 _ ?side1 A6.out).mono ?_); (case side1 => exact glob_keep HGLB.out (pb_ HB)); rintro e w28 ⟨rfl, hb⟩; replace BK124 := Aside0.mk (blk_below (g := gb124) (o := .cells #[.bool t119, .int .u64 t120, .int .u64 t121, .int .i64 t122] 43 (0, 0)) (by refine pw_ ?_; refine blk_far ?_ NB124_141.out _; refine pw_ ?_; refine blk_far ?_ NB124_141.out _; refine pw_ ?_; refine blk_far ?_ NB124_141.out _; refine pw_ ?_; refine blk_far ?_ NB124_141.out _; refine pw_ ?_; exact BK124.out) hb); replace BK134 := Aside0.mk (blk_below (g := gb134) (o := .cells #[.bool t125, .int .u64 t126, .int .u64 t127, .int .i64 t128] 43 (0, 0)) (by refine pw_ ?_; refine blk_far ?_ NB134_141.out _; refine pw_ ?_; refine blk_far ?_ NB134_141.out _; refine pw_ ?_; refine blk_far ?_ NB134_141.out _; refine pw_ ?_; refine blk_far ?_ NB134_141.out _; refine pw_ ?_; exact BK134.out) hb); replace BK135 := Aside0.mk (blk_below (g := gb135) (o := .cells #[.bool t129, .int .u64 t130, .int .u64 t131, .int .i64 t132] 43 (0, 0)) (by refine pw_ ?_; refine blk_far ?_ NB135_141.out _; refine pw_ ?_; refine blk_far ?_ NB135_141.out _; refine pw_ ?_; refine blk_far ?_ NB135_141.out _; refine pw_ ?_; refine blk_far ?_ NB135_141.out _; refine pw_ ?_; exact BK135.out) hb); replace BK141 := Aside0.mk (blk_below (g := gb141) (o := .cells #[.bool t136, .int .u64 t137, .int .u64 t138, .int .i64 t139] 43 (0, 0)) (by refine pw_ ?_; refine blk_put (cs := #[.bool t136, .int .u64 t137, .int .u64 t138, .int .i64 0]) ?_ 3 _ rfl; refine pw_ ?_; refine blk_put (cs := #[.bool t136, .int .u64 t137, .int .u64 0, .int .i64 0]) ?_ 2 _ rfl; refine pw_ ?_; refine blk_put (cs := #[.bool t136, .int .u64 0, .int .u64 0, .int .i64 0]) ?_ 1 _ rfl; refine pw_ ?_; refine blk_put (cs := #[.bool false, .int .u64 0, .int .u64 0, .int .i64 0]) ?_ 0 _ rfl; refine pw_ ?_; exact BK141.out) hb); replace HB := bs_ HB hb; (try clear hb); (try clear hb2); (try clear hk); (try clear hi); obtain ⟨hcz29_0, hcz29_1, hcz29_2, hcz29_3, hfz29_0, hfz29_1, hfz29_2, hfz29_3⟩ := c4_ BK135) | (go_at_call 53; (with_reducible refine (prefix_Print.calls t129 t130 t131 t132 t143 _ ?side1 A8.out).mono ?_); (case side1 => exact glob_keep HGLB.out (pb_ HB)); rintro e w30 ⟨rfl, hb⟩; replace BK124 := bb_ BK124 hb; replace BK134 := bb_ BK134 hb; replace BK135 := bb_ BK135 hb; replace BK141 := bb_ BK141 hb; replace HB := bs_ HB hb; (try clear hb); (try clear hb2); (try clear hk); (try clear hi)))
     go_ret
     exact ⟨by first | rfl | (simp [errW_none, errW_some] <;> rfl) | (simp [*, errW_none, errW_some] <;> rfl), pb_ HB⟩
    ·
     rw [if_neg c9] at H
     have c9b0 : (t143.toList == ([49, 48, 46, 49, 50, 56, 46, 48, 46, 48, 47, 57] : List UInt8)) = false := beq_eq_false_iff_ne.mpr c9
     have c9b1 : (t143.toList != ([49, 48, 46, 49, 50, 56, 46, 48, 46, 48, 47, 57] : List UInt8)) = true := bne_iff_ne.mpr c9
     obtain rfl := Option.some.inj H
     exact absurd HRT.out (by decide)
   ·
    rw [if_neg c7] at H
    have c7b0 : (t142.toList == ([49, 48, 46, 48, 46, 48, 46, 48, 47, 57] : List UInt8)) = false := beq_eq_false_iff_ne.mpr c7
    have c7b1 : (t142.toList != ([49, 48, 46, 48, 46, 48, 46, 48, 47, 57] : List UInt8)) = true := bne_iff_ne.mpr c7
    obtain rfl := Option.some.inj H
    exact absurd HRT.out (by decide)
  ·
   rw [if_neg c5] at H
   have c5b0 : (t133 == 0) = false := beq_eq_false_iff_ne.mpr c5
   have c5b1 : (t133 != 0) = true := bne_iff_ne.mpr c5
   obtain rfl := Option.some.inj H
   exact absurd HRT.out (by decide)
 ·
  rw [if_neg c4] at H
  have c4b0 : (t123 == 0) = false := beq_eq_false_iff_ne.mpr c4
  have c4b1 : (t123 != 0) = true := bne_iff_ne.mpr c4
  obtain rfl := Option.some.inj H
  exact absurd HRT.out (by decide)

def prefix_Of.j0 : Nat → Int → Bool → Bool → Int → Int → Option (Bool × Int × Int × Int × Int)
 | 0, _, _, _, _, _ => none
 | k + 1, x1, x19, x145000, x145001, x145002 => if x19 = true then (some (false, 0, 0, 0, 1)) else ((prefix_free.f x145000 x145001 x145002 x1).bind fun bt149 => ((num_Not.f bt149.1 bt149.2).bind fun bt151 => ((num_And.f x145001 x145002 bt151.1 bt151.2).bind fun bt153 => (some (x145000, bt153.1, bt153.2, x1, 0)))))
def prefix_Of.f (k : Nat) (a0_0 : Bool) (a0_1 : Int) (a0_2 : Int) (a1 : Int) : Option (Bool × Int × Int × Int × Int) := (addr_Right.f a0_0 a0_1 a0_2).bind fun t146 => (if t146 = true then (if a1 < 0 then (prefix_Of.j0 k a1 true a0_0 a0_1 a0_2) else ((addr_Width.f a0_0 a0_1 a0_2).bind fun t147 => (prefix_Of.j0 k a1 (decide (a1 > t147)) a0_0 a0_1 a0_2))) else (prefix_Of.j0 k a1 true a0_0 a0_1 a0_2))
def prefix_Of.T4 : Bool × List (List Nat × List Nat) := (true, [([], []), ([0], [0]), ([], []), ([2], [2]), ([3, 3], [3]), ([1, 4, 4], [1, 4]), ([0, 1, 2, 3, 4, 5], []), ([6, 0, 1, 2, 3, 4, 5], [6]), ([7, 5, 5, 0, 1, 2, 3, 4, 5], [5, 7])])
def prefix_Of.B4 : List Nat := [0, 1, 0, 4, 12, 31, 63, 127, 255]
theorem prefix_Of.tab4 : rtab .any (opsOf Tryd.f55 4) = prefix_Of.T4 := by kernel_rfl
theorem prefix_Of.bits4 : waitsOk prefix_Of.T4.2 prefix_Of.B4 = true := by kernel_rfl
set_option maxHeartbeats 8000000 in
set_option maxRecDepth 100000 in
theorem prefix_Of.calls (k : Nat) (a0_0 : Bool) (a0_1 : Int) (a0_2 : Int) (a1 : Int) (r1 : Bool) (r2 : Int) (r3 : Int) (r4 : Int) (r5 : Int) (w : World) (h : prefix_Of.f k a0_0 a0_1 a0_2 a1 = some (r1, r2, r3, r4, r5)) :
  Calls Tryd.prog 55 #[.agg #[.bool a0_0, .int .u64 a0_1, .int .u64 a0_2], .int .i64 a1] w fun e w' => e = .returned (.tuple #[.agg #[.bool r1, .int .u64 r2, .int .u64 r3, .int .i64 r4], .int .i64 r5]) ∧ Below w.heap.size w w' := by
 have hu26 := Tryd.underlying26
 have hu43 := Tryd.underlying43
 have hu24 := Tryd.underlying24
 have HB := Aside0.mk (Below.refl w.heap.size w)
 have H : ((addr_Right.f a0_0 a0_1 a0_2).bind fun t146 => (if t146 = true then (if a1 < 0 then (prefix_Of.j0 k a1 true a0_0 a0_1 a0_2) else ((addr_Width.f a0_0 a0_1 a0_2).bind fun t147 => (prefix_Of.j0 k a1 (decide (a1 > t147)) a0_0 a0_1 a0_2))) else (prefix_Of.j0 k a1 true a0_0 a0_1 a0_2))) = some (r1, r2, r3, r4, r5) := h
 clear h
 have HC3 := Aside0.mk H
 clear H
 go_enter Tryd.func55, Tryd.ntmps55
 go_upto_region 1 with (first | ((with_reducible refine gate_dst (N := 2) rfl ?_); refine bx_ 2 #[.bool a0_0, .int .u64 a0_1, .int .u64 a0_2] 26 ?_; intro gb144 hg w4 hbox hb; have BK144 := Aside0.mk (hbox); have GW144 := gw_ HB hg; have GE144 := gw_ HB hg; replace HB := bs_ HB hb; clear hb hbox hg) | ((with_reducible refine gate_dst (N := 4) rfl ?_); refine bx_ 4 #[.bool false, .int .u64 0, .int .u64 0, .int .i64 0] 43 ?_; intro gb145 hg w5 hbox hb; have BK145 := Aside0.mk (hbox); have GW145 := gw_ HB hg; have GE145 := gw_ HB hg; have NB144_145 := nl_ BK144 hg; have NB145_144 := ng_ BK144 hg; replace BK144 := bb_ BK144 hb; replace HB := bs_ HB hb; clear hb hbox hg))
 (try simp only [Act.put, List.setIfInBounds_toArray, List.set_cons_zero, List.set_cons_succ])
 go_cut [19] (fun v19 wc => ∃ (kq : Nat) (x19_2 : Bool), v19 = .bool x19_2 ∧ Aside0 (prefix_Of.j0 kq a1 x19_2 a0_0 a0_1 a0_2 = some (r1, r2, r3, r4, r5)) ∧ Aside0 (kq ≤ k) ∧ Aside0 (wc.heap[gb144]? = some (.cells #[.bool a0_0, .int .u64 a0_1, .int .u64 a0_2] 26 (0, 0))) ∧ Aside0 (wc.heap[gb145]? = some (.cells #[.bool false, .int .u64 0, .int .u64 0, .int .i64 0] 43 (0, 0))) ∧ Aside0 (Below w.heap.size w wc))
 case first =>
  have H := HC3.out
  clear HC3
  replace H := Option.bind_eq_some_iff.mp H
  obtain ⟨t146, A60, H⟩ := H
  replace H : (if t146 = true then (if a1 < 0 then (prefix_Of.j0 k a1 true a0_0 a0_1 a0_2) else ((addr_Width.f a0_0 a0_1 a0_2).bind fun t147 => (prefix_Of.j0 k a1 (decide (a1 > t147)) a0_0 a0_1 a0_2))) else (prefix_Of.j0 k a1 true a0_0 a0_1 a0_2)) = some (r1, r2, r3, r4, r5) := H
  have A6 := Aside0.mk A60
  clear A60
  by_cases c7 : t146 = true
  ·
   subst c7
   rw [if_pos rfl] at H
   by_cases c8 : a1 < 0
   ·
    rw [if_pos c8] at H
    have c8b0 : decide (a1 < 0) = true := decide_eq_true c8
    clear c8
    (first | rw [c8b0] | (simp only [i64_w, i32_w]; rw [c8b0]) | skip)
    have H' := Aside0.mk H
    clear H
    have hnb9 := NB144_145.out
    have hnc9 := NB145_144.out
    obtain ⟨hcz10_0, hcz10_1, hcz10_2, hfz10_0, hfz10_1, hfz10_2⟩ := c3_ BK144
    go_wp2_with (first | ((with_reducible refine gate_callee (f := 25) rfl ?_); refine gl_ (some 8) Tryd.func25 #[.agg #[.bool a0_0, .int .u64 a0_1, .int .u64 a0_2]] ?_; (with_reducible refine (addr_Right.calls a0_0 a0_1 a0_2 true _ A6.out).mono ?_); rintro e w11 ⟨rfl, hb⟩; refine ⟨_, rfl, ?_⟩; replace BK144 := bb_ BK144 hb; replace BK145 := bb_ BK145 hb; replace HB := bs_ HB hb; (try clear hb); (try clear hb2); (try clear hk); (try clear hi)))
    go_meet
    case rel => exact ⟨_, (true), (by first | rfl | (simp; done) | (simp [*]; done)), H', ⟨by first | omega | exact Nat.le_refl _⟩, ⟨by refine pw_ ?_; exact BK144.out⟩, ⟨by refine pw_ ?_; exact BK145.out⟩, ⟨pb_ HB⟩⟩
   ·
    rw [if_neg c8] at H
    have c8b0 : decide (a1 < 0) = false := decide_eq_false c8
    clear c8
    (first | rw [c8b0] | (simp only [i64_w, i32_w]; rw [c8b0]) | skip)
    replace H := Option.bind_eq_some_iff.mp H
    obtain ⟨t147, A120, H⟩ := H
    replace H : (prefix_Of.j0 k a1 (decide (a1 > t147)) a0_0 a0_1 a0_2) = some (r1, r2, r3, r4, r5) := H
    have A12 := Aside0.mk A120
    clear A120
    have H' := Aside0.mk H
    clear H
    have hnb13 := NB144_145.out
    have hnc13 := NB145_144.out
    obtain ⟨hcz14_0, hcz14_1, hcz14_2, hfz14_0, hfz14_1, hfz14_2⟩ := c3_ BK144
    go_wp2_with (first | ((with_reducible refine gate_callee (f := 25) rfl ?_); refine gl_ (some 8) Tryd.func25 #[.agg #[.bool a0_0, .int .u64 a0_1, .int .u64 a0_2]] ?_; (with_reducible refine (addr_Right.calls a0_0 a0_1 a0_2 true _ A6.out).mono ?_); rintro e w15 ⟨rfl, hb⟩; refine ⟨_, rfl, ?_⟩; replace BK144 := bb_ BK144 hb; replace BK145 := bb_ BK145 hb; replace HB := bs_ HB hb; (try clear hb); (try clear hb2); (try clear hk); (try clear hi); obtain ⟨hcz16_0, hcz16_1, hcz16_2, hfz16_0, hfz16_1, hfz16_2⟩ := c3_ BK144) | (go_at_call 44; (with_reducible refine (addr_Width.calls a0_0 a0_1 a0_2 t147 _ A12.out).mono ?_); rintro e w17 ⟨rfl, hb⟩; replace BK144 := bb_ BK144 hb; replace BK145 := bb_ BK145 hb; replace HB := bs_ HB hb; (try clear hb); (try clear hb2); (try clear hk); (try clear hi)))
    go_meet
    case rel => exact ⟨_, (decide (a1 > t147)), (by first | rfl | (simp; done) | (simp [*]; done)), H', ⟨by first | omega | exact Nat.le_refl _⟩, ⟨by refine pw_ ?_; exact BK144.out⟩, ⟨by refine pw_ ?_; exact BK145.out⟩, ⟨pb_ HB⟩⟩
  ·
   replace c7 := Bool.eq_false_iff.mpr c7
   subst c7
   have H1 : (prefix_Of.j0 k a1 true a0_0 a0_1 a0_2) = some (r1, r2, r3, r4, r5) := by rw [if_neg (show ¬ (false = true) by decide)] at H; exact H
   clear H
   have H := H1
   clear H1
   have H' := Aside0.mk H
   clear H
   have hnb18 := NB144_145.out
   have hnc18 := NB145_144.out
   obtain ⟨hcz19_0, hcz19_1, hcz19_2, hfz19_0, hfz19_1, hfz19_2⟩ := c3_ BK144
   go_wp2_with (first | ((with_reducible refine gate_callee (f := 25) rfl ?_); refine gl_ (some 8) Tryd.func25 #[.agg #[.bool a0_0, .int .u64 a0_1, .int .u64 a0_2]] ?_; (with_reducible refine (addr_Right.calls a0_0 a0_1 a0_2 false _ A6.out).mono ?_); rintro e w20 ⟨rfl, hb⟩; refine ⟨_, rfl, ?_⟩; replace BK144 := bb_ BK144 hb; replace BK145 := bb_ BK145 hb; replace HB := bs_ HB hb; (try clear hb); (try clear hb2); (try clear hk); (try clear hi)))
   go_meet
   case rel => exact ⟨_, (true), (by first | rfl | (simp; done) | (simp [*]; done)), H', ⟨by first | omega | exact Nat.le_refl _⟩, ⟨by refine pw_ ?_; exact BK144.out⟩, ⟨by refine pw_ ?_; exact BK145.out⟩, ⟨pb_ HB⟩⟩
 case rest =>
  clear HC3
  try clear c1
  try clear c2
  try clear p2
  try clear c5
  try clear c7
  try clear c8
  try clear c8b0
  try clear c9
  try clear c13
  try clear c18
  try clear hcz10_0
  try clear hcz10_1
  try clear hcz10_2
  try clear hcz14_0
  try clear hcz14_1
  try clear hcz14_2
  try clear hcz16_0
  try clear hcz16_1
  try clear hcz16_2
  try clear hcz19_0
  try clear hcz19_1
  try clear hcz19_2
  try clear hfz10_0
  try clear hfz10_1
  try clear hfz10_2
  try clear hfz14_0
  try clear hfz14_1
  try clear hfz14_2
  try clear hfz16_0
  try clear hfz16_1
  try clear hfz16_2
  try clear hfz19_0
  try clear hfz19_1
  try clear hfz19_2
  obtain ⟨kq, x19_2, rfl, HA, HJ2, BK144, BK145, HB⟩ := hcut
  cases kq with
  | zero => exact absurd HA.out (by simp [prefix_Of.j0])
  | succ kj2 =>
   have H := HA.out
   clear HA
   simp only [prefix_Of.j0] at H
   by_cases c21 : x19_2 = true
   ·
    subst c21
    rw [if_pos rfl] at H
    simp only [Option.some.injEq, Prod.mk.injEq] at H
    obtain ⟨rfl, rfl, rfl, rfl, rfl⟩ := H
    have hnb22 := NB145_144.out
    have hnc22 := NB144_145.out
    obtain ⟨hcz23_0, hcz23_1, hcz23_2, hcz23_3, hfz23_0, hfz23_1, hfz23_2, hfz23_3⟩ := c4_ BK145
    go_wp2
    refine bodyPost_ret (results_ct rfl _ _ gb145 43 #[.bool false, .int .u64 0, .int .u64 0, .int .i64 0] (0, 0) _ rfl (by refine pw_ ?_; refine blk_put (cs := #[.bool false, .int .u64 0, .int .u64 0, .int .i64 0]) ?_ 3 _ rfl; refine pw_ ?_; refine blk_put (cs := #[.bool false, .int .u64 0, .int .u64 0, .int .i64 0]) ?_ 2 _ rfl; refine pw_ ?_; refine blk_put (cs := #[.bool false, .int .u64 0, .int .u64 0, .int .i64 0]) ?_ 1 _ rfl; refine pw_ ?_; refine blk_put (cs := #[.bool false, .int .u64 0, .int .u64 0, .int .i64 0]) ?_ 0 _ rfl; refine pw_ ?_; exact BK145.out) Tryd.underlying43 rfl (by kernel_rfl)) rfl ?_
    exact ⟨by first | rfl | (simp [errW_none, errW_some] <;> rfl) | (simp [*, errW_none, errW_some] <;> rfl), pb_ HB⟩
   ·
    replace c21 := Bool.eq_false_iff.mpr c21
    subst c21
    have H1 : ((prefix_free.f a0_0 a0_1 a0_2 a1).bind fun bt149 => ((num_Not.f bt149.1 bt149.2).bind fun bt151 => ((num_And.f a0_1 a0_2 bt151.1 bt151.2).bind fun bt153 => (some (a0_0, bt153.1, bt153.2, a1, 0))))) = some (r1, r2, r3, r4, r5) := by rw [if_neg (show ¬ (false = true) by decide)] at H; exact H
    clear H
    have H := H1
    clear H1
    replace H := Option.bind_eq_some_iff.mp H
    obtain ⟨⟨t149, t150⟩, A240, H⟩ := H
    replace H : ((num_Not.f t149 t150).bind fun bt151 => ((num_And.f a0_1 a0_2 bt151.1 bt151.2).bind fun bt153 => (some (a0_0, bt153.1, bt153.2, a1, 0)))) = some (r1, r2, r3, r4, r5) := H
    have A24 := Aside0.mk A240
    clear A240
    replace H := Option.bind_eq_some_iff.mp H
    obtain ⟨⟨t151, t152⟩, A250, H⟩ := H
    replace H : ((num_And.f a0_1 a0_2 t151 t152).bind fun bt153 => (some (a0_0, bt153.1, bt153.2, a1, 0))) = some (r1, r2, r3, r4, r5) := H
    have A25 := Aside0.mk A250
    clear A250
    replace H := Option.bind_eq_some_iff.mp H
    obtain ⟨⟨t153, t154⟩, A260, H⟩ := H
    replace H : (some (a0_0, t153, t154, a1, 0)) = some (r1, r2, r3, r4, r5) := H
    have A26 := Aside0.mk A260
    clear A260
    simp only [Option.some.injEq, Prod.mk.injEq] at H
    obtain ⟨rfl, rfl, rfl, rfl, rfl⟩ := H
    have hnb27 := NB144_145.out
    have hnc27 := NB145_144.out
    obtain ⟨hcz28_0, hcz28_1, hcz28_2, hfz28_0, hfz28_1, hfz28_2⟩ := c3_ BK144
    try go_wp2_with (first | ((with_reducible refine gate_dst (N := 6) rfl ?_); refine bx_ 6 #[.bool false, .int .u64 0, .int .u64 0, .int .i64 0] 43 ?_; intro gb148 hg w29 hbox hb; have BK148 := Aside0.mk (hbox); have GW148 := gw_ HB hg; have GE148 := gw_ HB hg; have NB144_148 := nl_ BK144 hg; have NB148_144 := ng_ BK144 hg; have NB145_148 := nl_ BK145 hg; have NB148_145 := ng_ BK145 hg; replace BK144 := bb_ BK144 hb; replace BK145 := bb_ BK145 hb; replace HB := bs_ HB hb; clear hb hbox hg; have hnb30 := NB148_144.out; have hnc30 := NB144_148.out; have hnb31 := NB148_145.out; have hnc31 := NB145_148.out; obtain ⟨hcz32_0, hcz32_1, hcz32_2, hcz32_3, hfz32_0, hfz32_1, hfz32_2, hfz32_3⟩ := c4_ BK148))
    have n0_ : Aside0 (((((w29.setCell ⟨gb148, 0, none⟩ (.bool a0_0)).setCell ⟨gb148, 1, none⟩ (.int .u64 a0_1)).setCell ⟨gb148, 2, none⟩ (.int .u64 a0_2)).setCell ⟨gb148, 3, none⟩ (.int .i64 a1)).heap[gb144]? = some (.cells #[.bool a0_0, .int .u64 a0_1, .int .u64 a0_2] 26 (0, 0))) := ⟨by refine pw_ ?_; refine blk_far ?_ NB144_148.out _; refine pw_ ?_; refine blk_far ?_ NB144_148.out _; refine pw_ ?_; refine blk_far ?_ NB144_148.out _; refine pw_ ?_; refine blk_far ?_ NB144_148.out _; refine pw_ ?_; exact BK144.out⟩
    have n1_ : Aside0 (((((w29.setCell ⟨gb148, 0, none⟩ (.bool a0_0)).setCell ⟨gb148, 1, none⟩ (.int .u64 a0_1)).setCell ⟨gb148, 2, none⟩ (.int .u64 a0_2)).setCell ⟨gb148, 3, none⟩ (.int .i64 a1)).heap[gb145]? = some (.cells #[.bool false, .int .u64 0, .int .u64 0, .int .i64 0] 43 (0, 0))) := ⟨by refine pw_ ?_; refine blk_far ?_ NB145_148.out _; refine pw_ ?_; refine blk_far ?_ NB145_148.out _; refine pw_ ?_; refine blk_far ?_ NB145_148.out _; refine pw_ ?_; refine blk_far ?_ NB145_148.out _; refine pw_ ?_; exact BK145.out⟩
    have n2_ : Aside0 (((((w29.setCell ⟨gb148, 0, none⟩ (.bool a0_0)).setCell ⟨gb148, 1, none⟩ (.int .u64 a0_1)).setCell ⟨gb148, 2, none⟩ (.int .u64 a0_2)).setCell ⟨gb148, 3, none⟩ (.int .i64 a1)).heap[gb148]? = some (.cells #[.bool a0_0, .int .u64 a0_1, .int .u64 a0_2, .int .i64 a1] 43 (0, 0))) := ⟨by refine pw_ ?_; refine blk_put (cs := #[.bool a0_0, .int .u64 a0_1, .int .u64 a0_2, .int .i64 0]) ?_ 3 _ rfl; refine pw_ ?_; refine blk_put (cs := #[.bool a0_0, .int .u64 a0_1, .int .u64 0, .int .i64 0]) ?_ 2 _ rfl; refine pw_ ?_; refine blk_put (cs := #[.bool a0_0, .int .u64 0, .int .u64 0, .int .i64 0]) ?_ 1 _ rfl; refine pw_ ?_; refine blk_put (cs := #[.bool false, .int .u64 0, .int .u64 0, .int .i64 0]) ?_ 0 _ rfl; refine pw_ ?_; exact BK148.out⟩
    have n3_ : Aside0 (Below w.heap.size w ((((w29.setCell ⟨gb148, 0, none⟩ (.bool a0_0)).setCell ⟨gb148, 1, none⟩ (.int .u64 a0_1)).setCell ⟨gb148, 2, none⟩ (.int .u64 a0_2)).setCell ⟨gb148, 3, none⟩ (.int .i64 a1))) := ⟨pb_ HB⟩
    (try clear BK144)
    (try clear BK145)
    (try clear BK148)
    (try clear HB)
    generalize ((((w29.setCell ⟨gb148, 0, none⟩ (.bool a0_0)).setCell ⟨gb148, 1, none⟩ (.int .u64 a0_1)).setCell ⟨gb148, 2, none⟩ (.int .u64 a0_2)).setCell ⟨gb148, 3, none⟩ (.int .i64 a1)) = w33 at n0_ n1_ n2_ n3_ ⊢
    have BK144 := n0_
    have BK145 := n1_
    have BK148 := n2_
    have HB := n3_
    clear n0_ n1_ n2_ n3_
    replace BK144 := Aside0.mk (blk_drew BK144.out)
    replace BK145 := Aside0.mk (blk_drew BK145.out)
    replace BK148 := Aside0.mk (blk_drew BK148.out)
    replace HB := Aside0.mk (below_drew1 HB.out)
    refine start_ (n := 9) (S := fun w' => w'.cell? ⟨gb144, 0, none⟩ = some (.bool a0_0) ∧ w'.cell? ⟨gb144, 1, none⟩ = some (.int .u64 a0_1) ∧ w'.cell? ⟨gb144, 2, none⟩ = some (.int .u64 a0_2) ∧ w'.cell? ⟨gb148, 0, none⟩ = some (.bool a0_0) ∧ w'.cell? ⟨gb148, 1, none⟩ = some (.int .u64 a0_1) ∧ w'.cell? ⟨gb148, 2, none⟩ = some (.int .u64 a0_2) ∧ w'.cell? ⟨gb148, 3, none⟩ = some (.int .i64 a1)) (ds := [8]) (bm_ 9 0) (by kernel_rfl) rfl rfl ⟨kc_ BK144 0, kc_ BK144 1, kc_ BK144 2, kc_ BK148 0, kc_ BK148 1, kc_ BK148 2, kc_ BK148 3⟩ (fun hHeld => ?_); refine with_tabW prefix_Of.tab4 prefix_Of.bits4 (fun HT_ HW_ => ?_)
    generalize w33.drew = w34 at BK144 BK145 BK148 HB hHeld ⊢
    refine pu_ 0 (some 24) (bm_ 9 1) rfl HT_ ⟨by rfl, by intro w'; go_simp; with_reducible rfl⟩ ?_
    refine ta_ 1 (some 25) (bm_ 9 3) rfl HT_ HW_ ⟨by rfl, by rintro w' ⟨s0, s1, s2, s3, s4, s5, s6⟩; go_simp; with_reducible rfl⟩ hHeld ?_
    refine ta_ 2 (some 26) (bm_ 9 7) rfl HT_ HW_ ⟨by rfl, by rintro w' ⟨s0, s1, s2, s3, s4, s5, s6⟩; go_simp; with_reducible rfl⟩ hHeld ?_
    refine one_ (i := 3) (N := some 27) (bm_ 9 15) rfl rfl (one_of HT_.out (by kernel_rfl)) (by decide) (fun K hK => ?_)
    refine gr_ Tryd.func73 #[.agg #[.bool a0_0, .int .u64 a0_1, .int .u64 a0_2, .int .i64 a1]] ?_
    with_reducible refine (prefix_free.calls a0_0 a0_1 a0_2 a1 t149 t150 _ A24.out).mono ?_
    rintro e w35 ⟨rfl, hb⟩
    refine ⟨_, rfl, ?_⟩
    replace BK144 := bb_ BK144 hb
    replace BK145 := bb_ BK145 hb
    replace BK148 := bb_ BK148 hb
    replace HB := bs_ HB hb
    (try clear hb)
    (try clear hb2)
    (try clear hk)
    (try clear hi)
    refine hK.out _ _ ⟨kc_ BK144 0, kc_ BK144 1, kc_ BK144 2, kc_ BK148 0, kc_ BK148 1, kc_ BK148 2, kc_ BK148 3⟩ (fun hHeld => ?_)
    clear hK K
    refine norm_ (a' := ?_) ?_ ?_
    rotate_left
    ·
     show Act.put _ (some 27) _ = _
     simp only [Act.put, List.setIfInBounds_toArray, List.set_cons_zero, List.set_cons_succ, i64_w, i32_w]
     rfl
    refine one_ (i := 4) (N := some 28) (bm_ 9 31) rfl rfl (one_of HT_.out (by kernel_rfl)) (by decide) (fun K hK => ?_)
    refine gr_ Tryd.func74 #[.agg #[.int .u64 t149, .int .u64 t150]] ?_
    with_reducible refine (num_Not.calls t149 t150 t151 t152 _ A25.out).mono ?_
    rintro e w36 ⟨rfl, hb⟩
    refine ⟨_, rfl, ?_⟩
    replace BK144 := bb_ BK144 hb
    replace BK145 := bb_ BK145 hb
    replace BK148 := bb_ BK148 hb
    replace HB := bs_ HB hb
    (try clear hb)
    (try clear hb2)
    (try clear hk)
    (try clear hi)
    refine hK.out _ _ ⟨kc_ BK144 0, kc_ BK144 1, kc_ BK144 2, kc_ BK148 0, kc_ BK148 1, kc_ BK148 2, kc_ BK148 3⟩ (fun hHeld => ?_)
    clear hK K
    refine norm_ (a' := ?_) ?_ ?_
    rotate_left
    ·
     show Act.put _ (some 28) _ = _
     simp only [Act.put, List.setIfInBounds_toArray, List.set_cons_zero, List.set_cons_succ, i64_w, i32_w]
     rfl
    refine one_ (i := 5) (N := some 29) (bm_ 9 63) rfl rfl (one_of HT_.out (by kernel_rfl)) (by decide) (fun K hK => ?_)
    refine gr_ Tryd.func72 #[.agg #[.int .u64 a0_1, .int .u64 a0_2], .agg #[.int .u64 t151, .int .u64 t152]] ?_
    with_reducible refine (num_And.calls a0_1 a0_2 t151 t152 t153 t154 _ A26.out).mono ?_
    rintro e w37 ⟨rfl, hb⟩
    refine ⟨_, rfl, ?_⟩
    replace BK144 := bb_ BK144 hb
    replace BK145 := bb_ BK145 hb
    replace BK148 := bb_ BK148 hb
    replace HB := bs_ HB hb
    (try clear hb)
    (try clear hb2)
    (try clear hk)
    (try clear hi)
    refine hK.out _ _ ⟨kc_ BK144 0, kc_ BK144 1, kc_ BK144 2, kc_ BK148 0, kc_ BK148 1, kc_ BK148 2, kc_ BK148 3⟩ (fun hHeld => ?_)
    clear hK K
    refine norm_ (a' := ?_) ?_ ?_
    rotate_left
    ·
     show Act.put _ (some 29) _ = _
     simp only [Act.put, List.setIfInBounds_toArray, List.set_cons_zero, List.set_cons_succ, i64_w, i32_w]
     rfl
    refine pu_ 6 (some 30) (bm_ 9 127) rfl HT_ ⟨by rfl, by intro w'; go_simp; with_reducible rfl⟩ ?_
    refine pu_ 7 (some 31) (bm_ 9 255) rfl HT_ ⟨by rfl, by intro w'; go_simp; with_reducible rfl⟩ ?_
    refine last_ (i := 8) (N := none) (bm_ 9 511) rfl rfl (one_of HT_.out (by kernel_rfl)) (by decide) (fun K hK => ?_)
    have hs38 : w37.cell? ⟨gb148, 1, none⟩ = some (.int .u64 a0_1) := kc_ BK148 1
    have hfs38 := blk_frozen BK148.out 1
    have hns38_0 := NB144_148.out
    have hns38_1 := NB145_148.out
    have hms38_0 := NB148_144.out
    have hms38_1 := NB148_145.out
    have hs39 : w37.cell? ⟨gb148, 2, none⟩ = some (.int .u64 a0_2) := kc_ BK148 2
    have hfs39 := blk_frozen BK148.out 2
    have hns39_0 := NB144_148.out
    have hns39_1 := NB145_148.out
    have hms39_0 := NB148_144.out
    have hms39_1 := NB148_145.out
    refine skip_ (w1 := ?_) (by rfl) rfl ?_ ?_
    rotate_left
    ·
     go_simp
     rfl
    refine hK.out _ _ ?_
    clear hK K
    refine done_ (done_of HT_.out (by kernel_rfl)) ?_
    obtain ⟨hcz40_0, hcz40_1, hcz40_2, hcz40_3, hfz40_0, hfz40_1, hfz40_2, hfz40_3⟩ := c4_ BK148
    obtain ⟨hcz41_0, hcz41_1, hcz41_2, hcz41_3, hfz41_0, hfz41_1, hfz41_2, hfz41_3⟩ := c4_ BK145
    try go_wp2
    refine bodyPost_ret (results_ct rfl _ _ gb145 43 #[.bool a0_0, .int .u64 t153, .int .u64 t154, .int .i64 a1] (0, 0) _ rfl (by refine pw_ ?_; refine blk_put (cs := #[.bool a0_0, .int .u64 t153, .int .u64 t154, .int .i64 0]) ?_ 3 _ rfl; refine pw_ ?_; refine blk_put (cs := #[.bool a0_0, .int .u64 t153, .int .u64 0, .int .i64 0]) ?_ 2 _ rfl; refine pw_ ?_; refine blk_put (cs := #[.bool a0_0, .int .u64 0, .int .u64 0, .int .i64 0]) ?_ 1 _ rfl; refine pw_ ?_; refine blk_put (cs := #[.bool false, .int .u64 0, .int .u64 0, .int .i64 0]) ?_ 0 _ rfl; refine pw_ ?_; refine blk_far ?_ NB145_148.out _; refine pw_ ?_; refine blk_far ?_ NB145_148.out _; refine pw_ ?_; exact BK145.out) Tryd.underlying43 rfl (by kernel_rfl)) rfl ?_
    exact ⟨by first | rfl | (simp [errW_none, errW_some] <;> rfl) | (simp [*, errW_none, errW_some] <;> rfl), pb_ HB⟩

def prefix_Has.f (k : Nat) (a0_0 : Bool) (a0_1 : Int) (a0_2 : Int) (a0_3 : Int) (a1_0 : Bool) (a1_1 : Int) (a1_2 : Int) : Option (Bool) := (prefix_Right.f a0_0 a0_1 a0_2 a0_3).bind fun t157 => (if t157 = true then ((addr_Right.f a1_0 a1_1 a1_2).bind fun t158 => (if t158 = true then (if (a1_0 != a0_0) = true then (some false) else ((prefix_Of.f k a1_0 a1_1 a1_2 a0_3).bind fun bt159 => (some ((bt159.1 == a0_0 && ((bt159.2.1 == a0_1 && (bt159.2.2.1 == a0_2)))) && (bt159.2.2.2.1 == a0_3))))) else (some false))) else (some false))
set_option maxHeartbeats 8000000 in
set_option maxRecDepth 100000 in
theorem prefix_Has.calls (k : Nat) (a0_0 : Bool) (a0_1 : Int) (a0_2 : Int) (a0_3 : Int) (a1_0 : Bool) (a1_1 : Int) (a1_2 : Int) (r : Bool) (w : World) (h : prefix_Has.f k a0_0 a0_1 a0_2 a0_3 a1_0 a1_1 a1_2 = some r) :
  Calls Tryd.prog 23 #[.agg #[.bool a0_0, .int .u64 a0_1, .int .u64 a0_2, .int .i64 a0_3], .agg #[.bool a1_0, .int .u64 a1_1, .int .u64 a1_2]] w fun e w' => e = .returned (.bool r) ∧ Below w.heap.size w w' := by
 have hu43 := Tryd.underlying43
 have hu26 := Tryd.underlying26
 have HB := Aside0.mk (Below.refl w.heap.size w)
 have H : ((prefix_Right.f a0_0 a0_1 a0_2 a0_3).bind fun t157 => (if t157 = true then ((addr_Right.f a1_0 a1_1 a1_2).bind fun t158 => (if t158 = true then (if (a1_0 != a0_0) = true then (some false) else ((prefix_Of.f k a1_0 a1_1 a1_2 a0_3).bind fun bt159 => (some ((bt159.1 == a0_0 && ((bt159.2.1 == a0_1 && (bt159.2.2.1 == a0_2)))) && (bt159.2.2.2.1 == a0_3))))) else (some false))) else (some false))) = some r := h
 clear h
 replace H := Option.bind_eq_some_iff.mp H
 obtain ⟨t157, A30, H⟩ := H
 replace H : (if t157 = true then ((addr_Right.f a1_0 a1_1 a1_2).bind fun t158 => (if t158 = true then (if (a1_0 != a0_0) = true then (some false) else ((prefix_Of.f k a1_0 a1_1 a1_2 a0_3).bind fun bt159 => (some ((bt159.1 == a0_0 && ((bt159.2.1 == a0_1 && (bt159.2.2.1 == a0_2)))) && (bt159.2.2.2.1 == a0_3))))) else (some false))) else (some false)) = some r := H
 have A3 := Aside0.mk A30
 clear A30
 by_cases c4 : t157 = true
 ·
  subst c4
  rw [if_pos rfl] at H
  replace H := Option.bind_eq_some_iff.mp H
  obtain ⟨t158, A50, H⟩ := H
  replace H : (if t158 = true then (if (a1_0 != a0_0) = true then (some false) else ((prefix_Of.f k a1_0 a1_1 a1_2 a0_3).bind fun bt159 => (some ((bt159.1 == a0_0 && ((bt159.2.1 == a0_1 && (bt159.2.2.1 == a0_2)))) && (bt159.2.2.2.1 == a0_3))))) else (some false)) = some r := H
  have A5 := Aside0.mk A50
  clear A50
  by_cases c6 : t158 = true
  ·
   subst c6
   rw [if_pos rfl] at H
   by_cases c7 : (a1_0 != a0_0) = true
   ·
    rw [if_pos c7] at H
    have c7b0 : (a1_0 != a0_0) = true := c7
    (try (have c7b1 : decide (a1_0 = a0_0) = false := by simpa using c7))
    (try (have c7b2 : (a1_0 == a0_0) = false := by simpa using c7))
    (try (have c7b3 : ¬ (a1_0 = a0_0) := by simpa using c7))
    clear c7
    obtain rfl := Option.some.inj H
    go_enter Tryd.func23, Tryd.ntmps23
    go_wp2_with (first | ((with_reducible refine gate_dst (N := 2) rfl ?_); refine bx_ 2 #[.bool a0_0, .int .u64 a0_1, .int .u64 a0_2, .int .i64 a0_3] 43 ?_; intro gb155 hg w8 hbox hb; have BK155 := Aside0.mk (hbox); have GW155 := gw_ HB hg; have GE155 := gw_ HB hg; replace HB := bs_ HB hb; clear hb hbox hg) | ((with_reducible refine gate_dst (N := 3) rfl ?_); refine bx_ 3 #[.bool a1_0, .int .u64 a1_1, .int .u64 a1_2] 26 ?_; intro gb156 hg w9 hbox hb; have BK156 := Aside0.mk (hbox); have GW156 := gw_ HB hg; have GE156 := gw_ HB hg; have NB155_156 := nl_ BK155 hg; have NB156_155 := ng_ BK155 hg; replace BK155 := bb_ BK155 hb; replace HB := bs_ HB hb; clear hb hbox hg; have hnb10 := NB155_156.out; have hnc10 := NB156_155.out; obtain ⟨hcz11_0, hcz11_1, hcz11_2, hcz11_3, hfz11_0, hfz11_1, hfz11_2, hfz11_3⟩ := c4_ BK155) | ((with_reducible refine gate_callee (f := 54) rfl ?_); refine gl_ (some 8) Tryd.func54 #[.agg #[.bool a0_0, .int .u64 a0_1, .int .u64 a0_2, .int .i64 a0_3]] ?_; (with_reducible refine (prefix_Right.calls a0_0 a0_1 a0_2 a0_3 true _ A3.out).mono ?_); rintro e w12 ⟨rfl, hb⟩; refine ⟨_, rfl, ?_⟩; replace BK155 := bb_ BK155 hb; replace BK156 := bb_ BK156 hb; replace HB := bs_ HB hb; (try clear hb); (try clear hb2); (try clear hk); (try clear hi); obtain ⟨hcz13_0, hcz13_1, hcz13_2, hfz13_0, hfz13_1, hfz13_2⟩ := c3_ BK156) | (go_at_call 25; (with_reducible refine (addr_Right.calls a1_0 a1_1 a1_2 true _ A5.out).mono ?_); rintro e w14 ⟨rfl, hb⟩; replace BK155 := bb_ BK155 hb; replace BK156 := bb_ BK156 hb; replace HB := bs_ HB hb; (try clear hb); (try clear hb2); (try clear hk); (try clear hi); obtain ⟨hcz15_0, hcz15_1, hcz15_2, hfz15_0, hfz15_1, hfz15_2⟩ := c3_ BK156; obtain ⟨hcz16_0, hcz16_1, hcz16_2, hcz16_3, hfz16_0, hfz16_1, hfz16_2, hfz16_3⟩ := c4_ BK155))
    go_ret
    exact ⟨by first | rfl | (simp [errW_none, errW_some] <;> rfl) | (simp [*, errW_none, errW_some] <;> rfl), pb_ HB⟩
   ·
    rw [if_neg c7] at H
    have c7b0 : (a1_0 != a0_0) = false := by simpa using c7
    (try (have c7b1 : decide (a1_0 = a0_0) = true := by simpa using c7))
    (try (have c7b2 : (a1_0 == a0_0) = true := by simpa using c7))
    clear c7
    replace H := Option.bind_eq_some_iff.mp H
    obtain ⟨⟨t159, t160, t161, t162, t163⟩, A170, H⟩ := H
    replace H : (some ((t159 == a0_0 && ((t160 == a0_1 && (t161 == a0_2)))) && (t162 == a0_3))) = some r := H
    have A17 := Aside0.mk A170
    clear A170
    obtain rfl := Option.some.inj H
    go_enter Tryd.func23, Tryd.ntmps23
    go_wp2_with (first | ((with_reducible refine gate_dst (N := 2) rfl ?_); refine bx_ 2 #[.bool a0_0, .int .u64 a0_1, .int .u64 a0_2, .int .i64 a0_3] 43 ?_; intro gb155 hg w18 hbox hb; have BK155 := Aside0.mk (hbox); have GW155 := gw_ HB hg; have GE155 := gw_ HB hg; replace HB := bs_ HB hb; clear hb hbox hg) | ((with_reducible refine gate_dst (N := 3) rfl ?_); refine bx_ 3 #[.bool a1_0, .int .u64 a1_1, .int .u64 a1_2] 26 ?_; intro gb156 hg w19 hbox hb; have BK156 := Aside0.mk (hbox); have GW156 := gw_ HB hg; have GE156 := gw_ HB hg; have NB155_156 := nl_ BK155 hg; have NB156_155 := ng_ BK155 hg; replace BK155 := bb_ BK155 hb; replace HB := bs_ HB hb; clear hb hbox hg; have hnb20 := NB155_156.out; have hnc20 := NB156_155.out; obtain ⟨hcz21_0, hcz21_1, hcz21_2, hcz21_3, hfz21_0, hfz21_1, hfz21_2, hfz21_3⟩ := c4_ BK155) | ((with_reducible refine gate_callee (f := 54) rfl ?_); refine gl_ (some 8) Tryd.func54 #[.agg #[.bool a0_0, .int .u64 a0_1, .int .u64 a0_2, .int .i64 a0_3]] ?_; (with_reducible refine (prefix_Right.calls a0_0 a0_1 a0_2 a0_3 true _ A3.out).mono ?_); rintro e w22 ⟨rfl, hb⟩; refine ⟨_, rfl, ?_⟩; replace BK155 := bb_ BK155 hb; replace BK156 := bb_ BK156 hb; replace HB := bs_ HB hb; (try clear hb); (try clear hb2); (try clear hk); (try clear hi); obtain ⟨hcz23_0, hcz23_1, hcz23_2, hfz23_0, hfz23_1, hfz23_2⟩ := c3_ BK156) | (go_at_call 25; (with_reducible refine (addr_Right.calls a1_0 a1_1 a1_2 true _ A5.out).mono ?_); rintro e w24 ⟨rfl, hb⟩; replace BK155 := bb_ BK155 hb; replace BK156 := bb_ BK156 hb; replace HB := bs_ HB hb; (try clear hb); (try clear hb2); (try clear hk); (try clear hi); obtain ⟨hcz25_0, hcz25_1, hcz25_2, hfz25_0, hfz25_1, hfz25_2⟩ := c3_ BK156; obtain ⟨hcz26_0, hcz26_1, hcz26_2, hcz26_3, hfz26_0, hfz26_1, hfz26_2, hfz26_3⟩ := c4_ BK155) | ((with_reducible refine gate_callee (f := 55) rfl ?_); refine gl_ (some 27) Tryd.func55 #[.agg #[.bool a1_0, .int .u64 a1_1, .int .u64 a1_2], .int .i64 a0_3] ?_; (with_reducible refine (prefix_Of.calls k a1_0 a1_1 a1_2 a0_3 t159 t160 t161 t162 t163 _ A17.out).mono ?_); rintro e w27 ⟨rfl, hb⟩; refine ⟨_, rfl, ?_⟩; replace BK155 := bb_ BK155 hb; replace BK156 := bb_ BK156 hb; replace HB := bs_ HB hb; (try clear hb); (try clear hb2); (try clear hk); (try clear hi)) | ((with_reducible refine gate_dst (N := 5) rfl ?_); refine bx_ 5 #[.bool false, .int .u64 0, .int .u64 0, .int .i64 0] 43 ?_; intro gb164 hg w28 hbox hb; have BK164 := Aside0.mk (hbox); have GW164 := gw_ HB hg; have GE164 := gw_ HB hg; have NB155_164 := nl_ BK155 hg; have NB164_155 := ng_ BK155 hg; have NB156_164 := nl_ BK156 hg; have NB164_156 := ng_ BK156 hg; replace BK155 := bb_ BK155 hb; replace BK156 := bb_ BK156 hb; replace HB := bs_ HB hb; clear hb hbox hg; have hnb29 := NB164_155.out; have hnc29 := NB155_164.out; have hnb30 := NB164_156.out; have hnc30 := NB156_164.out; obtain ⟨hcz31_0, hcz31_1, hcz31_2, hcz31_3, hfz31_0, hfz31_1, hfz31_2, hfz31_3⟩ := c4_ BK164; obtain ⟨hcz32_0, hcz32_1, hcz32_2, hcz32_3, hfz32_0, hfz32_1, hfz32_2, hfz32_3⟩ := c4_ BK155))
    go_ret
    exact ⟨by first | rfl | (simp [errW_none, errW_some] <;> rfl) | (simp [*, errW_none, errW_some] <;> rfl), pb_ HB⟩
  ·
   replace c6 := Bool.eq_false_iff.mpr c6
   subst c6
   have H1 : (some false) = some r := by rw [if_neg (show ¬ (false = true) by decide)] at H; exact H
   clear H
   have H := H1
   clear H1
   obtain rfl := Option.some.inj H
   go_enter Tryd.func23, Tryd.ntmps23
   go_wp2_with (first | ((with_reducible refine gate_dst (N := 2) rfl ?_); refine bx_ 2 #[.bool a0_0, .int .u64 a0_1, .int .u64 a0_2, .int .i64 a0_3] 43 ?_; intro gb155 hg w33 hbox hb; have BK155 := Aside0.mk (hbox); have GW155 := gw_ HB hg; have GE155 := gw_ HB hg; replace HB := bs_ HB hb; clear hb hbox hg) | ((with_reducible refine gate_dst (N := 3) rfl ?_); refine bx_ 3 #[.bool a1_0, .int .u64 a1_1, .int .u64 a1_2] 26 ?_; intro gb156 hg w34 hbox hb; have BK156 := Aside0.mk (hbox); have GW156 := gw_ HB hg; have GE156 := gw_ HB hg; have NB155_156 := nl_ BK155 hg; have NB156_155 := ng_ BK155 hg; replace BK155 := bb_ BK155 hb; replace HB := bs_ HB hb; clear hb hbox hg; have hnb35 := NB155_156.out; have hnc35 := NB156_155.out; obtain ⟨hcz36_0, hcz36_1, hcz36_2, hcz36_3, hfz36_0, hfz36_1, hfz36_2, hfz36_3⟩ := c4_ BK155) | ((with_reducible refine gate_callee (f := 54) rfl ?_); refine gl_ (some 8) Tryd.func54 #[.agg #[.bool a0_0, .int .u64 a0_1, .int .u64 a0_2, .int .i64 a0_3]] ?_; (with_reducible refine (prefix_Right.calls a0_0 a0_1 a0_2 a0_3 true _ A3.out).mono ?_); rintro e w37 ⟨rfl, hb⟩; refine ⟨_, rfl, ?_⟩; replace BK155 := bb_ BK155 hb; replace BK156 := bb_ BK156 hb; replace HB := bs_ HB hb; (try clear hb); (try clear hb2); (try clear hk); (try clear hi); obtain ⟨hcz38_0, hcz38_1, hcz38_2, hfz38_0, hfz38_1, hfz38_2⟩ := c3_ BK156) | (go_at_call 25; (with_reducible refine (addr_Right.calls a1_0 a1_1 a1_2 false _ A5.out).mono ?_); rintro e w39 ⟨rfl, hb⟩; replace BK155 := bb_ BK155 hb; replace BK156 := bb_ BK156 hb; replace HB := bs_ HB hb; (try clear hb); (try clear hb2); (try clear hk); (try clear hi)))
   go_ret
   exact ⟨by first | rfl | (simp [errW_none, errW_some] <;> rfl) | (simp [*, errW_none, errW_some] <;> rfl), pb_ HB⟩
 ·
  replace c4 := Bool.eq_false_iff.mpr c4
  subst c4
  have H1 : (some false) = some r := by rw [if_neg (show ¬ (false = true) by decide)] at H; exact H
  clear H
  have H := H1
  clear H1
  obtain rfl := Option.some.inj H
  go_enter Tryd.func23, Tryd.ntmps23
  go_wp2_with (first | ((with_reducible refine gate_dst (N := 2) rfl ?_); refine bx_ 2 #[.bool a0_0, .int .u64 a0_1, .int .u64 a0_2, .int .i64 a0_3] 43 ?_; intro gb155 hg w40 hbox hb; have BK155 := Aside0.mk (hbox); have GW155 := gw_ HB hg; have GE155 := gw_ HB hg; replace HB := bs_ HB hb; clear hb hbox hg) | ((with_reducible refine gate_dst (N := 3) rfl ?_); refine bx_ 3 #[.bool a1_0, .int .u64 a1_1, .int .u64 a1_2] 26 ?_; intro gb156 hg w41 hbox hb; have BK156 := Aside0.mk (hbox); have GW156 := gw_ HB hg; have GE156 := gw_ HB hg; have NB155_156 := nl_ BK155 hg; have NB156_155 := ng_ BK155 hg; replace BK155 := bb_ BK155 hb; replace HB := bs_ HB hb; clear hb hbox hg; have hnb42 := NB155_156.out; have hnc42 := NB156_155.out; obtain ⟨hcz43_0, hcz43_1, hcz43_2, hcz43_3, hfz43_0, hfz43_1, hfz43_2, hfz43_3⟩ := c4_ BK155) | ((with_reducible refine gate_callee (f := 54) rfl ?_); refine gl_ (some 8) Tryd.func54 #[.agg #[.bool a0_0, .int .u64 a0_1, .int .u64 a0_2, .int .i64 a0_3]] ?_; (with_reducible refine (prefix_Right.calls a0_0 a0_1 a0_2 a0_3 false _ A3.out).mono ?_); rintro e w44 ⟨rfl, hb⟩; refine ⟨_, rfl, ?_⟩; replace BK155 := bb_ BK155 hb; replace BK156 := bb_ BK156 hb; replace HB := bs_ HB hb; (try clear hb); (try clear hb2); (try clear hk); (try clear hi)))
  go_ret
  exact ⟨by first | rfl | (simp [errW_none, errW_some] <;> rfl) | (simp [*, errW_none, errW_some] <;> rfl), pb_ HB⟩

def prefix_Within.f (k : Nat) (a0_0 : Bool) (a0_1 : Int) (a0_2 : Int) (a0_3 : Int) (a1_0 : Bool) (a1_1 : Int) (a1_2 : Int) (a1_3 : Int) : Option (Bool) := (prefix_Right.f a0_0 a0_1 a0_2 a0_3).bind fun t167 => (if t167 = true then ((prefix_Right.f a1_0 a1_1 a1_2 a1_3).bind fun t168 => (if t168 = true then (if a0_3 ≥ a1_3 then ((prefix_Has.f k a1_0 a1_1 a1_2 a1_3 a0_0 a0_1 a0_2).bind fun t169 => (some t169)) else (some false)) else (some false))) else (some false))
set_option maxHeartbeats 8000000 in
set_option maxRecDepth 100000 in
theorem prefix_Within.calls (k : Nat) (a0_0 : Bool) (a0_1 : Int) (a0_2 : Int) (a0_3 : Int) (a1_0 : Bool) (a1_1 : Int) (a1_2 : Int) (a1_3 : Int) (r : Bool) (w : World) (h : prefix_Within.f k a0_0 a0_1 a0_2 a0_3 a1_0 a1_1 a1_2 a1_3 = some r) :
  Calls Tryd.prog 22 #[.agg #[.bool a0_0, .int .u64 a0_1, .int .u64 a0_2, .int .i64 a0_3], .agg #[.bool a1_0, .int .u64 a1_1, .int .u64 a1_2, .int .i64 a1_3]] w fun e w' => e = .returned (.bool r) ∧ Below w.heap.size w w' := by
 have hu43 := Tryd.underlying43
 have hu26 := Tryd.underlying26
 have HB := Aside0.mk (Below.refl w.heap.size w)
 have H : ((prefix_Right.f a0_0 a0_1 a0_2 a0_3).bind fun t167 => (if t167 = true then ((prefix_Right.f a1_0 a1_1 a1_2 a1_3).bind fun t168 => (if t168 = true then (if a0_3 ≥ a1_3 then ((prefix_Has.f k a1_0 a1_1 a1_2 a1_3 a0_0 a0_1 a0_2).bind fun t169 => (some t169)) else (some false)) else (some false))) else (some false))) = some r := h
 clear h
 replace H := Option.bind_eq_some_iff.mp H
 obtain ⟨t167, A30, H⟩ := H
 replace H : (if t167 = true then ((prefix_Right.f a1_0 a1_1 a1_2 a1_3).bind fun t168 => (if t168 = true then (if a0_3 ≥ a1_3 then ((prefix_Has.f k a1_0 a1_1 a1_2 a1_3 a0_0 a0_1 a0_2).bind fun t169 => (some t169)) else (some false)) else (some false))) else (some false)) = some r := H
 have A3 := Aside0.mk A30
 clear A30
 by_cases c4 : t167 = true
 ·
  subst c4
  rw [if_pos rfl] at H
  replace H := Option.bind_eq_some_iff.mp H
  obtain ⟨t168, A50, H⟩ := H
  replace H : (if t168 = true then (if a0_3 ≥ a1_3 then ((prefix_Has.f k a1_0 a1_1 a1_2 a1_3 a0_0 a0_1 a0_2).bind fun t169 => (some t169)) else (some false)) else (some false)) = some r := H
  have A5 := Aside0.mk A50
  clear A50
  by_cases c6 : t168 = true
  ·
   subst c6
   rw [if_pos rfl] at H
   by_cases c7 : a0_3 ≥ a1_3
   ·
    rw [if_pos c7] at H
    have c7b0 : decide (a1_3 ≤ a0_3) = true := decide_eq_true c7
    clear c7
    replace H := Option.bind_eq_some_iff.mp H
    obtain ⟨t169, A80, H⟩ := H
    replace H : (some t169) = some r := H
    have A8 := Aside0.mk A80
    clear A80
    obtain rfl := Option.some.inj H
    go_enter Tryd.func22, Tryd.ntmps22
    go_wp2_with (first | ((with_reducible refine gate_dst (N := 2) rfl ?_); refine bx_ 2 #[.bool a0_0, .int .u64 a0_1, .int .u64 a0_2, .int .i64 a0_3] 43 ?_; intro gb165 hg w9 hbox hb; have BK165 := Aside0.mk (hbox); have GW165 := gw_ HB hg; have GE165 := gw_ HB hg; replace HB := bs_ HB hb; clear hb hbox hg) | ((with_reducible refine gate_dst (N := 3) rfl ?_); refine bx_ 3 #[.bool a1_0, .int .u64 a1_1, .int .u64 a1_2, .int .i64 a1_3] 43 ?_; intro gb166 hg w10 hbox hb; have BK166 := Aside0.mk (hbox); have GW166 := gw_ HB hg; have GE166 := gw_ HB hg; have NB165_166 := nl_ BK165 hg; have NB166_165 := ng_ BK165 hg; replace BK165 := bb_ BK165 hb; replace HB := bs_ HB hb; clear hb hbox hg; have hnb11 := NB165_166.out; have hnc11 := NB166_165.out; obtain ⟨hcz12_0, hcz12_1, hcz12_2, hcz12_3, hfz12_0, hfz12_1, hfz12_2, hfz12_3⟩ := c4_ BK165) | ((with_reducible refine gate_callee (f := 54) rfl ?_); refine gl_ (some 6) Tryd.func54 #[.agg #[.bool a0_0, .int .u64 a0_1, .int .u64 a0_2, .int .i64 a0_3]] ?_; (with_reducible refine (prefix_Right.calls a0_0 a0_1 a0_2 a0_3 true _ A3.out).mono ?_); rintro e w13 ⟨rfl, hb⟩; refine ⟨_, rfl, ?_⟩; replace BK165 := bb_ BK165 hb; replace BK166 := bb_ BK166 hb; replace HB := bs_ HB hb; (try clear hb); (try clear hb2); (try clear hk); (try clear hi); obtain ⟨hcz14_0, hcz14_1, hcz14_2, hcz14_3, hfz14_0, hfz14_1, hfz14_2, hfz14_3⟩ := c4_ BK166) | (go_at_call 54; (with_reducible refine (prefix_Right.calls a1_0 a1_1 a1_2 a1_3 true _ A5.out).mono ?_); rintro e w15 ⟨rfl, hb⟩; replace BK165 := bb_ BK165 hb; replace BK166 := bb_ BK166 hb; replace HB := bs_ HB hb; (try clear hb); (try clear hb2); (try clear hk); (try clear hi); obtain ⟨hcz16_0, hcz16_1, hcz16_2, hcz16_3, hfz16_0, hfz16_1, hfz16_2, hfz16_3⟩ := c4_ BK165; obtain ⟨hcz17_0, hcz17_1, hcz17_2, hcz17_3, hfz17_0, hfz17_1, hfz17_2, hfz17_3⟩ := c4_ BK166) | (go_at_call 23; (with_reducible refine (prefix_Has.calls k a1_0 a1_1 a1_2 a1_3 a0_0 a0_1 a0_2 t169 _ A8.out).mono ?_); rintro e w18 ⟨rfl, hb⟩; replace BK165 := bb_ BK165 hb; replace BK166 := bb_ BK166 hb; replace HB := bs_ HB hb; (try clear hb); (try clear hb2); (try clear hk); (try clear hi)))
    go_ret
    exact ⟨by first | rfl | (simp [errW_none, errW_some] <;> rfl) | (simp [*, errW_none, errW_some] <;> rfl), pb_ HB⟩
   ·
    rw [if_neg c7] at H
    have c7b0 : decide (a1_3 ≤ a0_3) = false := decide_eq_false c7
    clear c7
    obtain rfl := Option.some.inj H
    go_enter Tryd.func22, Tryd.ntmps22
    go_wp2_with (first | ((with_reducible refine gate_dst (N := 2) rfl ?_); refine bx_ 2 #[.bool a0_0, .int .u64 a0_1, .int .u64 a0_2, .int .i64 a0_3] 43 ?_; intro gb165 hg w19 hbox hb; have BK165 := Aside0.mk (hbox); have GW165 := gw_ HB hg; have GE165 := gw_ HB hg; replace HB := bs_ HB hb; clear hb hbox hg) | ((with_reducible refine gate_dst (N := 3) rfl ?_); refine bx_ 3 #[.bool a1_0, .int .u64 a1_1, .int .u64 a1_2, .int .i64 a1_3] 43 ?_; intro gb166 hg w20 hbox hb; have BK166 := Aside0.mk (hbox); have GW166 := gw_ HB hg; have GE166 := gw_ HB hg; have NB165_166 := nl_ BK165 hg; have NB166_165 := ng_ BK165 hg; replace BK165 := bb_ BK165 hb; replace HB := bs_ HB hb; clear hb hbox hg; have hnb21 := NB165_166.out; have hnc21 := NB166_165.out; obtain ⟨hcz22_0, hcz22_1, hcz22_2, hcz22_3, hfz22_0, hfz22_1, hfz22_2, hfz22_3⟩ := c4_ BK165) | ((with_reducible refine gate_callee (f := 54) rfl ?_); refine gl_ (some 6) Tryd.func54 #[.agg #[.bool a0_0, .int .u64 a0_1, .int .u64 a0_2, .int .i64 a0_3]] ?_; (with_reducible refine (prefix_Right.calls a0_0 a0_1 a0_2 a0_3 true _ A3.out).mono ?_); rintro e w23 ⟨rfl, hb⟩; refine ⟨_, rfl, ?_⟩; replace BK165 := bb_ BK165 hb; replace BK166 := bb_ BK166 hb; replace HB := bs_ HB hb; (try clear hb); (try clear hb2); (try clear hk); (try clear hi); obtain ⟨hcz24_0, hcz24_1, hcz24_2, hcz24_3, hfz24_0, hfz24_1, hfz24_2, hfz24_3⟩ := c4_ BK166) | (go_at_call 54; (with_reducible refine (prefix_Right.calls a1_0 a1_1 a1_2 a1_3 true _ A5.out).mono ?_); rintro e w25 ⟨rfl, hb⟩; replace BK165 := bb_ BK165 hb; replace BK166 := bb_ BK166 hb; replace HB := bs_ HB hb; (try clear hb); (try clear hb2); (try clear hk); (try clear hi); obtain ⟨hcz26_0, hcz26_1, hcz26_2, hcz26_3, hfz26_0, hfz26_1, hfz26_2, hfz26_3⟩ := c4_ BK165; obtain ⟨hcz27_0, hcz27_1, hcz27_2, hcz27_3, hfz27_0, hfz27_1, hfz27_2, hfz27_3⟩ := c4_ BK166))
    go_ret
    exact ⟨by first | rfl | (simp [errW_none, errW_some] <;> rfl) | (simp [*, errW_none, errW_some] <;> rfl), pb_ HB⟩
  ·
   replace c6 := Bool.eq_false_iff.mpr c6
   subst c6
   have H1 : (some false) = some r := by rw [if_neg (show ¬ (false = true) by decide)] at H; exact H
   clear H
   have H := H1
   clear H1
   obtain rfl := Option.some.inj H
   go_enter Tryd.func22, Tryd.ntmps22
   go_wp2_with (first | ((with_reducible refine gate_dst (N := 2) rfl ?_); refine bx_ 2 #[.bool a0_0, .int .u64 a0_1, .int .u64 a0_2, .int .i64 a0_3] 43 ?_; intro gb165 hg w28 hbox hb; have BK165 := Aside0.mk (hbox); have GW165 := gw_ HB hg; have GE165 := gw_ HB hg; replace HB := bs_ HB hb; clear hb hbox hg) | ((with_reducible refine gate_dst (N := 3) rfl ?_); refine bx_ 3 #[.bool a1_0, .int .u64 a1_1, .int .u64 a1_2, .int .i64 a1_3] 43 ?_; intro gb166 hg w29 hbox hb; have BK166 := Aside0.mk (hbox); have GW166 := gw_ HB hg; have GE166 := gw_ HB hg; have NB165_166 := nl_ BK165 hg; have NB166_165 := ng_ BK165 hg; replace BK165 := bb_ BK165 hb; replace HB := bs_ HB hb; clear hb hbox hg; have hnb30 := NB165_166.out; have hnc30 := NB166_165.out; obtain ⟨hcz31_0, hcz31_1, hcz31_2, hcz31_3, hfz31_0, hfz31_1, hfz31_2, hfz31_3⟩ := c4_ BK165) | ((with_reducible refine gate_callee (f := 54) rfl ?_); refine gl_ (some 6) Tryd.func54 #[.agg #[.bool a0_0, .int .u64 a0_1, .int .u64 a0_2, .int .i64 a0_3]] ?_; (with_reducible refine (prefix_Right.calls a0_0 a0_1 a0_2 a0_3 true _ A3.out).mono ?_); rintro e w32 ⟨rfl, hb⟩; refine ⟨_, rfl, ?_⟩; replace BK165 := bb_ BK165 hb; replace BK166 := bb_ BK166 hb; replace HB := bs_ HB hb; (try clear hb); (try clear hb2); (try clear hk); (try clear hi); obtain ⟨hcz33_0, hcz33_1, hcz33_2, hcz33_3, hfz33_0, hfz33_1, hfz33_2, hfz33_3⟩ := c4_ BK166) | (go_at_call 54; (with_reducible refine (prefix_Right.calls a1_0 a1_1 a1_2 a1_3 false _ A5.out).mono ?_); rintro e w34 ⟨rfl, hb⟩; replace BK165 := bb_ BK165 hb; replace BK166 := bb_ BK166 hb; replace HB := bs_ HB hb; (try clear hb); (try clear hb2); (try clear hk); (try clear hi)))
   go_ret
   exact ⟨by first | rfl | (simp [errW_none, errW_some] <;> rfl) | (simp [*, errW_none, errW_some] <;> rfl), pb_ HB⟩
 ·
  replace c4 := Bool.eq_false_iff.mpr c4
  subst c4
  have H1 : (some false) = some r := by rw [if_neg (show ¬ (false = true) by decide)] at H; exact H
  clear H
  have H := H1
  clear H1
  obtain rfl := Option.some.inj H
  go_enter Tryd.func22, Tryd.ntmps22
  go_wp2_with (first | ((with_reducible refine gate_dst (N := 2) rfl ?_); refine bx_ 2 #[.bool a0_0, .int .u64 a0_1, .int .u64 a0_2, .int .i64 a0_3] 43 ?_; intro gb165 hg w35 hbox hb; have BK165 := Aside0.mk (hbox); have GW165 := gw_ HB hg; have GE165 := gw_ HB hg; replace HB := bs_ HB hb; clear hb hbox hg) | ((with_reducible refine gate_dst (N := 3) rfl ?_); refine bx_ 3 #[.bool a1_0, .int .u64 a1_1, .int .u64 a1_2, .int .i64 a1_3] 43 ?_; intro gb166 hg w36 hbox hb; have BK166 := Aside0.mk (hbox); have GW166 := gw_ HB hg; have GE166 := gw_ HB hg; have NB165_166 := nl_ BK165 hg; have NB166_165 := ng_ BK165 hg; replace BK165 := bb_ BK165 hb; replace HB := bs_ HB hb; clear hb hbox hg; have hnb37 := NB165_166.out; have hnc37 := NB166_165.out; obtain ⟨hcz38_0, hcz38_1, hcz38_2, hcz38_3, hfz38_0, hfz38_1, hfz38_2, hfz38_3⟩ := c4_ BK165) | ((with_reducible refine gate_callee (f := 54) rfl ?_); refine gl_ (some 6) Tryd.func54 #[.agg #[.bool a0_0, .int .u64 a0_1, .int .u64 a0_2, .int .i64 a0_3]] ?_; (with_reducible refine (prefix_Right.calls a0_0 a0_1 a0_2 a0_3 false _ A3.out).mono ?_); rintro e w39 ⟨rfl, hb⟩; refine ⟨_, rfl, ?_⟩; replace BK165 := bb_ BK165 hb; replace BK166 := bb_ BK166 hb; replace HB := bs_ HB hb; (try clear hb); (try clear hb2); (try clear hk); (try clear hi)))
  go_ret
  exact ⟨by first | rfl | (simp [errW_none, errW_some] <;> rfl) | (simp [*, errW_none, errW_some] <;> rfl), pb_ HB⟩

def prefix_Overlap.f (k : Nat) (a0_0 : Bool) (a0_1 : Int) (a0_2 : Int) (a0_3 : Int) (a1_0 : Bool) (a1_1 : Int) (a1_2 : Int) (a1_3 : Int) : Option (Bool) := (prefix_Within.f k a0_0 a0_1 a0_2 a0_3 a1_0 a1_1 a1_2 a1_3).bind fun t172 => (if t172 = true then (some true) else ((prefix_Within.f k a1_0 a1_1 a1_2 a1_3 a0_0 a0_1 a0_2 a0_3).bind fun t173 => (some t173)))
set_option maxHeartbeats 8000000 in
set_option maxRecDepth 100000 in
theorem prefix_Overlap.calls (k : Nat) (a0_0 : Bool) (a0_1 : Int) (a0_2 : Int) (a0_3 : Int) (a1_0 : Bool) (a1_1 : Int) (a1_2 : Int) (a1_3 : Int) (r : Bool) (w : World) (h : prefix_Overlap.f k a0_0 a0_1 a0_2 a0_3 a1_0 a1_1 a1_2 a1_3 = some r) :
  Calls Tryd.prog 21 #[.agg #[.bool a0_0, .int .u64 a0_1, .int .u64 a0_2, .int .i64 a0_3], .agg #[.bool a1_0, .int .u64 a1_1, .int .u64 a1_2, .int .i64 a1_3]] w fun e w' => e = .returned (.bool r) ∧ Below w.heap.size w w' := by
 have hu43 := Tryd.underlying43
 have HB := Aside0.mk (Below.refl w.heap.size w)
 have H : ((prefix_Within.f k a0_0 a0_1 a0_2 a0_3 a1_0 a1_1 a1_2 a1_3).bind fun t172 => (if t172 = true then (some true) else ((prefix_Within.f k a1_0 a1_1 a1_2 a1_3 a0_0 a0_1 a0_2 a0_3).bind fun t173 => (some t173)))) = some r := h
 clear h
 replace H := Option.bind_eq_some_iff.mp H
 obtain ⟨t172, A30, H⟩ := H
 replace H : (if t172 = true then (some true) else ((prefix_Within.f k a1_0 a1_1 a1_2 a1_3 a0_0 a0_1 a0_2 a0_3).bind fun t173 => (some t173))) = some r := H
 have A3 := Aside0.mk A30
 clear A30
 by_cases c4 : t172 = true
 ·
  subst c4
  rw [if_pos rfl] at H
  obtain rfl := Option.some.inj H
  go_enter Tryd.func21, Tryd.ntmps21
  go_wp2_with (first | ((with_reducible refine gate_dst (N := 2) rfl ?_); refine bx_ 2 #[.bool a0_0, .int .u64 a0_1, .int .u64 a0_2, .int .i64 a0_3] 43 ?_; intro gb170 hg w5 hbox hb; have BK170 := Aside0.mk (hbox); have GW170 := gw_ HB hg; have GE170 := gw_ HB hg; replace HB := bs_ HB hb; clear hb hbox hg) | ((with_reducible refine gate_dst (N := 3) rfl ?_); refine bx_ 3 #[.bool a1_0, .int .u64 a1_1, .int .u64 a1_2, .int .i64 a1_3] 43 ?_; intro gb171 hg w6 hbox hb; have BK171 := Aside0.mk (hbox); have GW171 := gw_ HB hg; have GE171 := gw_ HB hg; have NB170_171 := nl_ BK170 hg; have NB171_170 := ng_ BK170 hg; replace BK170 := bb_ BK170 hb; replace HB := bs_ HB hb; clear hb hbox hg; have hnb7 := NB170_171.out; have hnc7 := NB171_170.out; obtain ⟨hcz8_0, hcz8_1, hcz8_2, hcz8_3, hfz8_0, hfz8_1, hfz8_2, hfz8_3⟩ := c4_ BK170; obtain ⟨hcz9_0, hcz9_1, hcz9_2, hcz9_3, hfz9_0, hfz9_1, hfz9_2, hfz9_3⟩ := c4_ BK171) | ((with_reducible refine gate_callee (f := 22) rfl ?_); refine gl_ (some 7) Tryd.func22 #[.agg #[.bool a0_0, .int .u64 a0_1, .int .u64 a0_2, .int .i64 a0_3], .agg #[.bool a1_0, .int .u64 a1_1, .int .u64 a1_2, .int .i64 a1_3]] ?_; (with_reducible refine (prefix_Within.calls k a0_0 a0_1 a0_2 a0_3 a1_0 a1_1 a1_2 a1_3 true _ A3.out).mono ?_); rintro e w10 ⟨rfl, hb⟩; refine ⟨_, rfl, ?_⟩; replace BK170 := bb_ BK170 hb; replace BK171 := bb_ BK171 hb; replace HB := bs_ HB hb; (try clear hb); (try clear hb2); (try clear hk); (try clear hi)))
  go_ret
  exact ⟨by first | rfl | (simp [errW_none, errW_some] <;> rfl) | (simp [*, errW_none, errW_some] <;> rfl), pb_ HB⟩
 ·
  replace c4 := Bool.eq_false_iff.mpr c4
  subst c4
  have H1 : ((prefix_Within.f k a1_0 a1_1 a1_2 a1_3 a0_0 a0_1 a0_2 a0_3).bind fun t173 => (some t173)) = some r := by rw [if_neg (show ¬ (false = true) by decide)] at H; exact H
  clear H
  have H := H1
  clear H1
  replace H := Option.bind_eq_some_iff.mp H
  obtain ⟨t173, A110, H⟩ := H
  replace H : (some t173) = some r := H
  have A11 := Aside0.mk A110
  clear A110
  obtain rfl := Option.some.inj H
  go_enter Tryd.func21, Tryd.ntmps21
  go_wp2_with (first | ((with_reducible refine gate_dst (N := 2) rfl ?_); refine bx_ 2 #[.bool a0_0, .int .u64 a0_1, .int .u64 a0_2, .int .i64 a0_3] 43 ?_; intro gb170 hg w12 hbox hb; have BK170 := Aside0.mk (hbox); have GW170 := gw_ HB hg; have GE170 := gw_ HB hg; replace HB := bs_ HB hb; clear hb hbox hg) | ((with_reducible refine gate_dst (N := 3) rfl ?_); refine bx_ 3 #[.bool a1_0, .int .u64 a1_1, .int .u64 a1_2, .int .i64 a1_3] 43 ?_; intro gb171 hg w13 hbox hb; have BK171 := Aside0.mk (hbox); have GW171 := gw_ HB hg; have GE171 := gw_ HB hg; have NB170_171 := nl_ BK170 hg; have NB171_170 := ng_ BK170 hg; replace BK170 := bb_ BK170 hb; replace HB := bs_ HB hb; clear hb hbox hg; have hnb14 := NB170_171.out; have hnc14 := NB171_170.out; obtain ⟨hcz15_0, hcz15_1, hcz15_2, hcz15_3, hfz15_0, hfz15_1, hfz15_2, hfz15_3⟩ := c4_ BK170; obtain ⟨hcz16_0, hcz16_1, hcz16_2, hcz16_3, hfz16_0, hfz16_1, hfz16_2, hfz16_3⟩ := c4_ BK171) | ((with_reducible refine gate_callee (f := 22) rfl ?_); refine gl_ (some 7) Tryd.func22 #[.agg #[.bool a0_0, .int .u64 a0_1, .int .u64 a0_2, .int .i64 a0_3], .agg #[.bool a1_0, .int .u64 a1_1, .int .u64 a1_2, .int .i64 a1_3]] ?_; (with_reducible refine (prefix_Within.calls k a0_0 a0_1 a0_2 a0_3 a1_0 a1_1 a1_2 a1_3 false _ A3.out).mono ?_); rintro e w17 ⟨rfl, hb⟩; refine ⟨_, rfl, ?_⟩; replace BK170 := bb_ BK170 hb; replace BK171 := bb_ BK171 hb; replace HB := bs_ HB hb; (try clear hb); (try clear hb2); (try clear hk); (try clear hi); obtain ⟨hcz18_0, hcz18_1, hcz18_2, hcz18_3, hfz18_0, hfz18_1, hfz18_2, hfz18_3⟩ := c4_ BK171; obtain ⟨hcz19_0, hcz19_1, hcz19_2, hcz19_3, hfz19_0, hfz19_1, hfz19_2, hfz19_3⟩ := c4_ BK170) | (go_at_call 22; (with_reducible refine (prefix_Within.calls k a1_0 a1_1 a1_2 a1_3 a0_0 a0_1 a0_2 a0_3 t173 _ A11.out).mono ?_); rintro e w20 ⟨rfl, hb⟩; replace BK170 := bb_ BK170 hb; replace BK171 := bb_ BK171 hb; replace HB := bs_ HB hb; (try clear hb); (try clear hb2); (try clear hk); (try clear hi)))
  go_ret
  exact ⟨by first | rfl | (simp [errW_none, errW_some] <;> rfl) | (simp [*, errW_none, errW_some] <;> rfl), pb_ HB⟩

end Go.Proofs.YtgdgklibilddgaaDoor.PPr

namespace Go.Proofs.YtgdgklibilddgaaDoor.PPr
open Go.RowKit Go.Proofs.YtgdgklibilddgaaDoorW.PrintWords Go.Proofs.YtgdgklibilddgaaDoorW.PrintLast Go.Proofs.YtgdgklibilddgaaDoorW.PrintMore
attribute [local go_sem] max2_int min2_int max_two min_two max_three min_three max_four min_four   -- for this text's walks alone

mutual
def platbooklaw03_PrefixNests.j0 : Nat → Bool → Bool → Bool → Int → Int → Int → Bool → Int → Int → Int → Bool → Int → Int → Option (Bool)
 | 0, _, _, _, _, _, _, _, _, _, _, _, _, _ => none
 | k + 1, x7, x29, x175000, x175001, x175002, x175003, x176000, x176001, x176002, x176003, x177000, x177001, x177002 => if x29 = true then (some false) else ((prefix_Has.f k x175000 x175001 x175002 x175003 x177000 x177001 x177002).bind fun t182 => (if t182 = true then ((prefix_Has.f k x176000 x176001 x176002 x176003 x177000 x177001 x177002).bind fun t183 => (if t183 = true then (platbooklaw03_PrefixNests.j1 k x7 (!x7) x175000 x175001 x175002 x175003 x176000 x176001 x176002 x176003 x177000 x177001 x177002) else (platbooklaw03_PrefixNests.j1 k x7 false x175000 x175001 x175002 x175003 x176000 x176001 x176002 x176003 x177000 x177001 x177002))) else (platbooklaw03_PrefixNests.j1 k x7 false x175000 x175001 x175002 x175003 x176000 x176001 x176002 x176003 x177000 x177001 x177002)))
def platbooklaw03_PrefixNests.j1 : Nat → Bool → Bool → Bool → Int → Int → Int → Bool → Int → Int → Int → Bool → Int → Int → Option (Bool)
 | 0, _, _, _, _, _, _, _, _, _, _, _, _, _ => none
 | k + 1, x7, x41, x175000, x175001, x175002, x175003, x176000, x176001, x176002, x176003, x177000, x177001, x177002 => if x41 = true then (some false) else ((prefix_Within.f k x175000 x175001 x175002 x175003 x176000 x176001 x176002 x176003).bind fun t184 => (if t184 = true then ((prefix_Has.f k x175000 x175001 x175002 x175003 x177000 x177001 x177002).bind fun t185 => (if t185 = true then ((prefix_Has.f k x176000 x176001 x176002 x176003 x177000 x177001 x177002).bind fun t186 => (platbooklaw03_PrefixNests.j2 k x7 (!t186) x175000 x175001 x175002 x175003 x176000 x176001 x176002 x176003)) else (platbooklaw03_PrefixNests.j2 k x7 false x175000 x175001 x175002 x175003 x176000 x176001 x176002 x176003))) else (platbooklaw03_PrefixNests.j2 k x7 false x175000 x175001 x175002 x175003 x176000 x176001 x176002 x176003)))
def platbooklaw03_PrefixNests.j2 : Nat → Bool → Bool → Bool → Int → Int → Int → Bool → Int → Int → Int → Option (Bool)
 | 0, _, _, _, _, _, _, _, _, _, _ => none
 | k + 1, x7, x55, x175000, x175001, x175002, x175003, x176000, x176001, x176002, x176003 => if x55 = true then (some false) else (if x7 = true then ((prefix_Has.f k x175000 x175001 x175002 x175003 x176000 x176001 x176002).bind fun t187 => (if t187 = true then (some true) else ((prefix_Has.f k x176000 x176001 x176002 x176003 x175000 x175001 x175002).bind fun t188 => (some t188)))) else (some true))
end
def platbooklaw03_PrefixNests.f (k : Nat) (a0_0 : Bool) (a0_1 : Int) (a0_2 : Int) (a0_3 : Int) (a1_0 : Bool) (a1_1 : Int) (a1_2 : Int) (a1_3 : Int) (a2_0 : Bool) (a2_1 : Int) (a2_2 : Int) : Option (Bool) := (platbooklaw03_awake.f).bind fun t177 => (if t177 = true then ((prefix_Overlap.f k a0_0 a0_1 a0_2 a0_3 a1_0 a1_1 a1_2 a1_3).bind fun t178 => ((prefix_Overlap.f k a1_0 a1_1 a1_2 a1_3 a0_0 a0_1 a0_2 a0_3).bind fun t179 => (if (t178 != t179) = true then (platbooklaw03_PrefixNests.j0 k t178 true a0_0 a0_1 a0_2 a0_3 a1_0 a1_1 a1_2 a1_3 a2_0 a2_1 a2_2) else ((prefix_Within.f k a0_0 a0_1 a0_2 a0_3 a1_0 a1_1 a1_2 a1_3).bind fun t180 => (if t180 = true then (platbooklaw03_PrefixNests.j0 k t178 (t178 != true) a0_0 a0_1 a0_2 a0_3 a1_0 a1_1 a1_2 a1_3 a2_0 a2_1 a2_2) else ((prefix_Within.f k a1_0 a1_1 a1_2 a1_3 a0_0 a0_1 a0_2 a0_3).bind fun t181 => (platbooklaw03_PrefixNests.j0 k t178 (t178 != t181) a0_0 a0_1 a0_2 a0_3 a1_0 a1_1 a1_2 a1_3 a2_0 a2_1 a2_2))))))) else (some false))
set_option maxHeartbeats 8000000 in
set_option maxRecDepth 100000 in
theorem platbooklaw03_PrefixNests.calls (k : Nat) (a0_0 : Bool) (a0_1 : Int) (a0_2 : Int) (a0_3 : Int) (a1_0 : Bool) (a1_1 : Int) (a1_2 : Int) (a1_3 : Int) (a2_0 : Bool) (a2_1 : Int) (a2_2 : Int) (r : Bool) (w : World) (hG : Glob w) (hrt : r = true) (h : platbooklaw03_PrefixNests.f k a0_0 a0_1 a0_2 a0_3 a1_0 a1_1 a1_2 a1_3 a2_0 a2_1 a2_2 = some r) :
  Calls Tryd.prog 7 #[.agg #[.bool a0_0, .int .u64 a0_1, .int .u64 a0_2, .int .i64 a0_3], .agg #[.bool a1_0, .int .u64 a1_1, .int .u64 a1_2, .int .i64 a1_3], .agg #[.bool a2_0, .int .u64 a2_1, .int .u64 a2_2]] w fun e w' => e = .returned (.bool r) ∧ Below w.heap.size w w' := by
 have hu43 := Tryd.underlying43
 have hu26 := Tryd.underlying26
 have HGLB := Aside0.mk hG
 clear hG
 have HRT := Aside0.mk hrt
 clear hrt
 have HB := Aside0.mk (Below.refl w.heap.size w)
 have H : ((platbooklaw03_awake.f).bind fun t177 => (if t177 = true then ((prefix_Overlap.f k a0_0 a0_1 a0_2 a0_3 a1_0 a1_1 a1_2 a1_3).bind fun t178 => ((prefix_Overlap.f k a1_0 a1_1 a1_2 a1_3 a0_0 a0_1 a0_2 a0_3).bind fun t179 => (if (t178 != t179) = true then (platbooklaw03_PrefixNests.j0 k t178 true a0_0 a0_1 a0_2 a0_3 a1_0 a1_1 a1_2 a1_3 a2_0 a2_1 a2_2) else ((prefix_Within.f k a0_0 a0_1 a0_2 a0_3 a1_0 a1_1 a1_2 a1_3).bind fun t180 => (if t180 = true then (platbooklaw03_PrefixNests.j0 k t178 (t178 != true) a0_0 a0_1 a0_2 a0_3 a1_0 a1_1 a1_2 a1_3 a2_0 a2_1 a2_2) else ((prefix_Within.f k a1_0 a1_1 a1_2 a1_3 a0_0 a0_1 a0_2 a0_3).bind fun t181 => (platbooklaw03_PrefixNests.j0 k t178 (t178 != t181) a0_0 a0_1 a0_2 a0_3 a1_0 a1_1 a1_2 a1_3 a2_0 a2_1 a2_2))))))) else (some false))) = some r := h
 clear h
 replace H := Option.bind_eq_some_iff.mp H
 obtain ⟨t177, A40, H⟩ := H
 replace H : (if t177 = true then ((prefix_Overlap.f k a0_0 a0_1 a0_2 a0_3 a1_0 a1_1 a1_2 a1_3).bind fun t178 => ((prefix_Overlap.f k a1_0 a1_1 a1_2 a1_3 a0_0 a0_1 a0_2 a0_3).bind fun t179 => (if (t178 != t179) = true then (platbooklaw03_PrefixNests.j0 k t178 true a0_0 a0_1 a0_2 a0_3 a1_0 a1_1 a1_2 a1_3 a2_0 a2_1 a2_2) else ((prefix_Within.f k a0_0 a0_1 a0_2 a0_3 a1_0 a1_1 a1_2 a1_3).bind fun t180 => (if t180 = true then (platbooklaw03_PrefixNests.j0 k t178 (t178 != true) a0_0 a0_1 a0_2 a0_3 a1_0 a1_1 a1_2 a1_3 a2_0 a2_1 a2_2) else ((prefix_Within.f k a1_0 a1_1 a1_2 a1_3 a0_0 a0_1 a0_2 a0_3).bind fun t181 => (platbooklaw03_PrefixNests.j0 k t178 (t178 != t181) a0_0 a0_1 a0_2 a0_3 a1_0 a1_1 a1_2 a1_3 a2_0 a2_1 a2_2))))))) else (some false)) = some r := H
 have A4 := Aside0.mk A40
 clear A40
 by_cases c5 : t177 = true
 ·
  subst c5
  rw [if_pos rfl] at H
  replace H := Option.bind_eq_some_iff.mp H
  obtain ⟨t178, A60, H⟩ := H
  replace H : ((prefix_Overlap.f k a1_0 a1_1 a1_2 a1_3 a0_0 a0_1 a0_2 a0_3).bind fun t179 => (if (t178 != t179) = true then (platbooklaw03_PrefixNests.j0 k t178 true a0_0 a0_1 a0_2 a0_3 a1_0 a1_1 a1_2 a1_3 a2_0 a2_1 a2_2) else ((prefix_Within.f k a0_0 a0_1 a0_2 a0_3 a1_0 a1_1 a1_2 a1_3).bind fun t180 => (if t180 = true then (platbooklaw03_PrefixNests.j0 k t178 (t178 != true) a0_0 a0_1 a0_2 a0_3 a1_0 a1_1 a1_2 a1_3 a2_0 a2_1 a2_2) else ((prefix_Within.f k a1_0 a1_1 a1_2 a1_3 a0_0 a0_1 a0_2 a0_3).bind fun t181 => (platbooklaw03_PrefixNests.j0 k t178 (t178 != t181) a0_0 a0_1 a0_2 a0_3 a1_0 a1_1 a1_2 a1_3 a2_0 a2_1 a2_2)))))) = some r := H
  have A6 := Aside0.mk A60
  clear A60
  have HC7 := Aside0.mk H
  clear H
  go_enter Tryd.func7, Tryd.ntmps7
  go_upto_region 4 with (first | ((with_reducible refine gate_dst (N := 3) rfl ?_); refine bx_ 3 #[.bool a0_0, .int .u64 a0_1, .int .u64 a0_2, .int .i64 a0_3] 43 ?_; intro gb174 hg w8 hbox hb; have BK174 := Aside0.mk (hbox); have GW174 := gw_ HB hg; have GE174 := gw_ HB hg; replace HB := bs_ HB hb; clear hb hbox hg) | ((with_reducible refine gate_dst (N := 4) rfl ?_); refine bx_ 4 #[.bool a1_0, .int .u64 a1_1, .int .u64 a1_2, .int .i64 a1_3] 43 ?_; intro gb175 hg w9 hbox hb; have BK175 := Aside0.mk (hbox); have GW175 := gw_ HB hg; have GE175 := gw_ HB hg; have NB174_175 := nl_ BK174 hg; have NB175_174 := ng_ BK174 hg; replace BK174 := bb_ BK174 hb; replace HB := bs_ HB hb; clear hb hbox hg) | ((with_reducible refine gate_dst (N := 5) rfl ?_); refine bx_ 5 #[.bool a2_0, .int .u64 a2_1, .int .u64 a2_2] 26 ?_; intro gb176 hg w10 hbox hb; have BK176 := Aside0.mk (hbox); have GW176 := gw_ HB hg; have GE176 := gw_ HB hg; have NB174_176 := nl_ BK174 hg; have NB176_174 := ng_ BK174 hg; have NB175_176 := nl_ BK175 hg; have NB176_175 := ng_ BK175 hg; replace BK174 := bb_ BK174 hb; replace BK175 := bb_ BK175 hb; replace HB := bs_ HB hb; clear hb hbox hg) | ((with_reducible refine gate_callee (f := 20) rfl ?_); refine gl_ (some 8) Tryd.func20 #[] ?_; (with_reducible refine (platbooklaw03_awake.calls  true _ ?side1 rfl A4.out).mono ?_); (case side1 => exact glob_keep HGLB.out (pb_ HB)); rintro e w11 ⟨rfl, hb⟩; refine ⟨_, rfl, ?_⟩; replace BK174 := bb_ BK174 hb; replace BK175 := bb_ BK175 hb; replace BK176 := bb_ BK176 hb; replace HB := bs_ HB hb; (try clear hb); (try clear hb2); (try clear hk); (try clear hi); have hnb12 := NB174_175.out; have hnc12 := NB175_174.out; have hnb13 := NB174_176.out; have hnc13 := NB176_174.out; obtain ⟨hcz14_0, hcz14_1, hcz14_2, hcz14_3, hfz14_0, hfz14_1, hfz14_2, hfz14_3⟩ := c4_ BK174; have hnb15 := NB175_176.out; have hnc15 := NB176_175.out; obtain ⟨hcz16_0, hcz16_1, hcz16_2, hcz16_3, hfz16_0, hfz16_1, hfz16_2, hfz16_3⟩ := c4_ BK175) | ((with_reducible refine gate_callee (f := 21) rfl ?_); refine gl_ (some 12) Tryd.func21 #[.agg #[.bool a0_0, .int .u64 a0_1, .int .u64 a0_2, .int .i64 a0_3], .agg #[.bool a1_0, .int .u64 a1_1, .int .u64 a1_2, .int .i64 a1_3]] ?_; (with_reducible refine (prefix_Overlap.calls k a0_0 a0_1 a0_2 a0_3 a1_0 a1_1 a1_2 a1_3 t178 _ A6.out).mono ?_); rintro e w17 ⟨rfl, hb⟩; refine ⟨_, rfl, ?_⟩; replace BK174 := bb_ BK174 hb; replace BK175 := bb_ BK175 hb; replace BK176 := bb_ BK176 hb; replace HB := bs_ HB hb; (try clear hb); (try clear hb2); (try clear hk); (try clear hi)))
  (try simp only [Act.put, List.setIfInBounds_toArray, List.set_cons_zero, List.set_cons_succ])
  go_cut [29] (fun v29 wc => ∃ (kq : Nat) (x29_6 : Bool), v29 = .bool x29_6 ∧ Aside0 (platbooklaw03_PrefixNests.j0 kq t178 x29_6 a0_0 a0_1 a0_2 a0_3 a1_0 a1_1 a1_2 a1_3 a2_0 a2_1 a2_2 = some r) ∧ Aside0 (kq ≤ k) ∧ Aside0 (wc.heap[gb174]? = some (.cells #[.bool a0_0, .int .u64 a0_1, .int .u64 a0_2, .int .i64 a0_3] 43 (0, 0))) ∧ Aside0 (wc.heap[gb175]? = some (.cells #[.bool a1_0, .int .u64 a1_1, .int .u64 a1_2, .int .i64 a1_3] 43 (0, 0))) ∧ Aside0 (wc.heap[gb176]? = some (.cells #[.bool a2_0, .int .u64 a2_1, .int .u64 a2_2] 26 (0, 0))) ∧ Aside0 (Below w.heap.size w wc))
  case first =>
   have H := HC7.out
   clear HC7
   replace H := Option.bind_eq_some_iff.mp H
   obtain ⟨t179, A180, H⟩ := H
   replace H : (if (t178 != t179) = true then (platbooklaw03_PrefixNests.j0 k t178 true a0_0 a0_1 a0_2 a0_3 a1_0 a1_1 a1_2 a1_3 a2_0 a2_1 a2_2) else ((prefix_Within.f k a0_0 a0_1 a0_2 a0_3 a1_0 a1_1 a1_2 a1_3).bind fun t180 => (if t180 = true then (platbooklaw03_PrefixNests.j0 k t178 (t178 != true) a0_0 a0_1 a0_2 a0_3 a1_0 a1_1 a1_2 a1_3 a2_0 a2_1 a2_2) else ((prefix_Within.f k a1_0 a1_1 a1_2 a1_3 a0_0 a0_1 a0_2 a0_3).bind fun t181 => (platbooklaw03_PrefixNests.j0 k t178 (t178 != t181) a0_0 a0_1 a0_2 a0_3 a1_0 a1_1 a1_2 a1_3 a2_0 a2_1 a2_2))))) = some r := H
   have A18 := Aside0.mk A180
   clear A180
   by_cases c19 : (t178 != t179) = true
   ·
    rw [if_pos c19] at H
    have c19b0 : (t178 != t179) = true := c19
    (try (have c19b1 : decide (t178 = t179) = false := by simpa using c19))
    (try (have c19b2 : (t178 == t179) = false := by simpa using c19))
    (try (have c19b3 : ¬ (t178 = t179) := by simpa using c19))
    clear c19
    (first | rw [c19b0] | (simp only [i64_w, i32_w]; rw [c19b0]) | skip)
    have H' := Aside0.mk H
    clear H
    have hnb20 := NB175_174.out
    have hnc20 := NB174_175.out
    have hnb21 := NB175_176.out
    have hnc21 := NB176_175.out
    obtain ⟨hcz22_0, hcz22_1, hcz22_2, hcz22_3, hfz22_0, hfz22_1, hfz22_2, hfz22_3⟩ := c4_ BK175
    have hnb23 := NB174_176.out
    have hnc23 := NB176_174.out
    obtain ⟨hcz24_0, hcz24_1, hcz24_2, hcz24_3, hfz24_0, hfz24_1, hfz24_2, hfz24_3⟩ := c4_ BK174
    go_wp2_with (first | ((with_reducible refine gate_callee (f := 21) rfl ?_); refine gl_ (some 16) Tryd.func21 #[.agg #[.bool a1_0, .int .u64 a1_1, .int .u64 a1_2, .int .i64 a1_3], .agg #[.bool a0_0, .int .u64 a0_1, .int .u64 a0_2, .int .i64 a0_3]] ?_; (with_reducible refine (prefix_Overlap.calls k a1_0 a1_1 a1_2 a1_3 a0_0 a0_1 a0_2 a0_3 t179 _ A18.out).mono ?_); rintro e w25 ⟨rfl, hb⟩; refine ⟨_, rfl, ?_⟩; replace BK174 := bb_ BK174 hb; replace BK175 := bb_ BK175 hb; replace BK176 := bb_ BK176 hb; replace HB := bs_ HB hb; (try clear hb); (try clear hb2); (try clear hk); (try clear hi)))
    go_meet
    case rel => exact ⟨_, (true), (by first | rfl | (simp; done) | (simp [*]; done)), H', ⟨by first | omega | exact Nat.le_refl _⟩, ⟨by refine pw_ ?_; exact BK174.out⟩, ⟨by refine pw_ ?_; exact BK175.out⟩, ⟨by refine pw_ ?_; exact BK176.out⟩, ⟨pb_ HB⟩⟩
   ·
    rw [if_neg c19] at H
    have c19b0 : (t178 != t179) = false := by simpa using c19
    (try (have c19b1 : decide (t178 = t179) = true := by simpa using c19))
    (try (have c19b2 : (t178 == t179) = true := by simpa using c19))
    clear c19
    (first | rw [c19b0] | (simp only [i64_w, i32_w]; rw [c19b0]) | skip)
    replace H := Option.bind_eq_some_iff.mp H
    obtain ⟨t180, A260, H⟩ := H
    replace H : (if t180 = true then (platbooklaw03_PrefixNests.j0 k t178 (t178 != true) a0_0 a0_1 a0_2 a0_3 a1_0 a1_1 a1_2 a1_3 a2_0 a2_1 a2_2) else ((prefix_Within.f k a1_0 a1_1 a1_2 a1_3 a0_0 a0_1 a0_2 a0_3).bind fun t181 => (platbooklaw03_PrefixNests.j0 k t178 (t178 != t181) a0_0 a0_1 a0_2 a0_3 a1_0 a1_1 a1_2 a1_3 a2_0 a2_1 a2_2))) = some r := H
    have A26 := Aside0.mk A260
    clear A260
    by_cases c27 : t180 = true
    ·
     subst c27
     rw [if_pos rfl] at H
     have H' := Aside0.mk H
     clear H
     have hnb28 := NB175_174.out
     have hnc28 := NB174_175.out
     have hnb29 := NB175_176.out
     have hnc29 := NB176_175.out
     obtain ⟨hcz30_0, hcz30_1, hcz30_2, hcz30_3, hfz30_0, hfz30_1, hfz30_2, hfz30_3⟩ := c4_ BK175
     have hnb31 := NB174_176.out
     have hnc31 := NB176_174.out
     obtain ⟨hcz32_0, hcz32_1, hcz32_2, hcz32_3, hfz32_0, hfz32_1, hfz32_2, hfz32_3⟩ := c4_ BK174
     go_wp2_with (first | ((with_reducible refine gate_callee (f := 21) rfl ?_); refine gl_ (some 16) Tryd.func21 #[.agg #[.bool a1_0, .int .u64 a1_1, .int .u64 a1_2, .int .i64 a1_3], .agg #[.bool a0_0, .int .u64 a0_1, .int .u64 a0_2, .int .i64 a0_3]] ?_; (with_reducible refine (prefix_Overlap.calls k a1_0 a1_1 a1_2 a1_3 a0_0 a0_1 a0_2 a0_3 t179 _ A18.out).mono ?_); rintro e w33 ⟨rfl, hb⟩; refine ⟨_, rfl, ?_⟩; replace BK174 := bb_ BK174 hb; replace BK175 := bb_ BK175 hb; replace BK176 := bb_ BK176 hb; replace HB := bs_ HB hb; (try clear hb); (try clear hb2); (try clear hk); (try clear hi); obtain ⟨hcz34_0, hcz34_1, hcz34_2, hcz34_3, hfz34_0, hfz34_1, hfz34_2, hfz34_3⟩ := c4_ BK174; obtain ⟨hcz35_0, hcz35_1, hcz35_2, hcz35_3, hfz35_0, hfz35_1, hfz35_2, hfz35_3⟩ := c4_ BK175) | (go_at_call 22; (with_reducible refine (prefix_Within.calls k a0_0 a0_1 a0_2 a0_3 a1_0 a1_1 a1_2 a1_3 true _ A26.out).mono ?_); rintro e w36 ⟨rfl, hb⟩; replace BK174 := bb_ BK174 hb; replace BK175 := bb_ BK175 hb; replace BK176 := bb_ BK176 hb; replace HB := bs_ HB hb; (try clear hb); (try clear hb2); (try clear hk); (try clear hi)))
     go_meet
     case rel => exact ⟨_, ((t178 != true)), (by first | rfl | (simp; done) | (simp [*]; done)), H', ⟨by first | omega | exact Nat.le_refl _⟩, ⟨by refine pw_ ?_; exact BK174.out⟩, ⟨by refine pw_ ?_; exact BK175.out⟩, ⟨by refine pw_ ?_; exact BK176.out⟩, ⟨pb_ HB⟩⟩
    ·
     replace c27 := Bool.eq_false_iff.mpr c27
     subst c27
     have H1 : ((prefix_Within.f k a1_0 a1_1 a1_2 a1_3 a0_0 a0_1 a0_2 a0_3).bind fun t181 => (platbooklaw03_PrefixNests.j0 k t178 (t178 != t181) a0_0 a0_1 a0_2 a0_3 a1_0 a1_1 a1_2 a1_3 a2_0 a2_1 a2_2)) = some r := by rw [if_neg (show ¬ (false = true) by decide)] at H; exact H
     clear H
     have H := H1
     clear H1
     replace H := Option.bind_eq_some_iff.mp H
     obtain ⟨t181, A370, H⟩ := H
     replace H : (platbooklaw03_PrefixNests.j0 k t178 (t178 != t181) a0_0 a0_1 a0_2 a0_3 a1_0 a1_1 a1_2 a1_3 a2_0 a2_1 a2_2) = some r := H
     have A37 := Aside0.mk A370
     clear A370
     have H' := Aside0.mk H
     clear H
     have hnb38 := NB175_174.out
     have hnc38 := NB174_175.out
     have hnb39 := NB175_176.out
     have hnc39 := NB176_175.out
     obtain ⟨hcz40_0, hcz40_1, hcz40_2, hcz40_3, hfz40_0, hfz40_1, hfz40_2, hfz40_3⟩ := c4_ BK175
     have hnb41 := NB174_176.out
     have hnc41 := NB176_174.out
     obtain ⟨hcz42_0, hcz42_1, hcz42_2, hcz42_3, hfz42_0, hfz42_1, hfz42_2, hfz42_3⟩ := c4_ BK174
     go_wp2_with (first | ((with_reducible refine gate_callee (f := 21) rfl ?_); refine gl_ (some 16) Tryd.func21 #[.agg #[.bool a1_0, .int .u64 a1_1, .int .u64 a1_2, .int .i64 a1_3], .agg #[.bool a0_0, .int .u64 a0_1, .int .u64 a0_2, .int .i64 a0_3]] ?_; (with_reducible refine (prefix_Overlap.calls k a1_0 a1_1 a1_2 a1_3 a0_0 a0_1 a0_2 a0_3 t179 _ A18.out).mono ?_); rintro e w43 ⟨rfl, hb⟩; refine ⟨_, rfl, ?_⟩; replace BK174 := bb_ BK174 hb; replace BK175 := bb_ BK175 hb; replace BK176 := bb_ BK176 hb; replace HB := bs_ HB hb; (try clear hb); (try clear hb2); (try clear hk); (try clear hi); obtain ⟨hcz44_0, hcz44_1, hcz44_2, hcz44_3, hfz44_0, hfz44_1, hfz44_2, hfz44_3⟩ := c4_ BK174; obtain ⟨hcz45_0, hcz45_1, hcz45_2, hcz45_3, hfz45_0, hfz45_1, hfz45_2, hfz45_3⟩ := c4_ BK175) | (go_at_call 22; (with_reducible refine (prefix_Within.calls k a0_0 a0_1 a0_2 a0_3 a1_0 a1_1 a1_2 a1_3 false _ A26.out).mono ?_); rintro e w46 ⟨rfl, hb⟩; replace BK174 := bb_ BK174 hb; replace BK175 := bb_ BK175 hb; replace BK176 := bb_ BK176 hb; replace HB := bs_ HB hb; (try clear hb); (try clear hb2); (try clear hk); (try clear hi); obtain ⟨hcz47_0, hcz47_1, hcz47_2, hcz47_3, hfz47_0, hfz47_1, hfz47_2, hfz47_3⟩ := c4_ BK175; obtain ⟨hcz48_0, hcz48_1, hcz48_2, hcz48_3, hfz48_0, hfz48_1, hfz48_2, hfz48_3⟩ := c4_ BK174) | (go_at_call 22; (with_reducible refine (prefix_Within.calls k a1_0 a1_1 a1_2 a1_3 a0_0 a0_1 a0_2 a0_3 t181 _ A37.out).mono ?_); rintro e w49 ⟨rfl, hb⟩; replace BK174 := bb_ BK174 hb; replace BK175 := bb_ BK175 hb; replace BK176 := bb_ BK176 hb; replace HB := bs_ HB hb; (try clear hb); (try clear hb2); (try clear hk); (try clear hi)))
     go_meet
     case rel => exact ⟨_, ((t178 != t181)), (by first | rfl | (simp; done) | (simp [*]; done)), H', ⟨by first | omega | exact Nat.le_refl _⟩, ⟨by refine pw_ ?_; exact BK174.out⟩, ⟨by refine pw_ ?_; exact BK175.out⟩, ⟨by refine pw_ ?_; exact BK176.out⟩, ⟨pb_ HB⟩⟩
  case rest =>
   clear HC7
   try clear c1
   try clear c2
   try clear p2
   try clear c3
   try clear c4
   try clear c5
   try clear c7
   try clear c12
   try clear c13
   try clear c15
   try clear c19
   try clear c19b0
   try clear c19b1
   try clear c19b2
   try clear c20
   try clear c21
   try clear c23
   try clear c27
   try clear c28
   try clear c29
   try clear c31
   try clear c38
   try clear c39
   try clear c41
   try clear hcz14_0
   try clear hcz14_1
   try clear hcz14_2
   try clear hcz14_3
   try clear hcz16_0
   try clear hcz16_1
   try clear hcz16_2
   try clear hcz16_3
   try clear hcz22_0
   try clear hcz22_1
   try clear hcz22_2
   try clear hcz22_3
   try clear hcz24_0
   try clear hcz24_1
   try clear hcz24_2
   try clear hcz24_3
   try clear hcz30_0
   try clear hcz30_1
   try clear hcz30_2
   try clear hcz30_3
   try clear hcz32_0
   try clear hcz32_1
   try clear hcz32_2
   try clear hcz32_3
   try clear hcz34_0
   try clear hcz34_1
   try clear hcz34_2
   try clear hcz34_3
   try clear hcz35_0
   try clear hcz35_1
   try clear hcz35_2
   try clear hcz35_3
   try clear hcz40_0
   try clear hcz40_1
   try clear hcz40_2
   try clear hcz40_3
   try clear hcz42_0
   try clear hcz42_1
   try clear hcz42_2
   try clear hcz42_3
   try clear hcz44_0
   try clear hcz44_1
   try clear hcz44_2
   try clear hcz44_3
   try clear hcz45_0
   try clear hcz45_1
   try clear hcz45_2
   try clear hcz45_3
   try clear hcz47_0
   try clear hcz47_1
   try clear hcz47_2
   try clear hcz47_3
   try clear hcz48_0
   try clear hcz48_1
   try clear hcz48_2
   try clear hcz48_3
   try clear hfz14_0
   try clear hfz14_1
   try clear hfz14_2
   try clear hfz14_3
   try clear hfz16_0
   try clear hfz16_1
   try clear hfz16_2
   try clear hfz16_3
   try clear hfz22_0
   try clear hfz22_1
   try clear hfz22_2
   try clear hfz22_3
   try clear hfz24_0
   try clear hfz24_1
   try clear hfz24_2
   try clear hfz24_3
   try clear hfz30_0
   try clear hfz30_1
   try clear hfz30_2
   try clear hfz30_3
   try clear hfz32_0
   try clear hfz32_1
   try clear hfz32_2
   try clear hfz32_3
   try clear hfz34_0
   try clear hfz34_1
   try clear hfz34_2
   try clear hfz34_3
   try clear hfz35_0
   try clear hfz35_1
   try clear hfz35_2
   try clear hfz35_3
   try clear hfz40_0
   try clear hfz40_1
   try clear hfz40_2
   try clear hfz40_3
   try clear hfz42_0
   try clear hfz42_1
   try clear hfz42_2
   try clear hfz42_3
   try clear hfz44_0
   try clear hfz44_1
   try clear hfz44_2
   try clear hfz44_3
   try clear hfz45_0
   try clear hfz45_1
   try clear hfz45_2
   try clear hfz45_3
   try clear hfz47_0
   try clear hfz47_1
   try clear hfz47_2
   try clear hfz47_3
   try clear hfz48_0
   try clear hfz48_1
   try clear hfz48_2
   try clear hfz48_3
   obtain ⟨kq, x29_6, rfl, HA, HJ6, BK174, BK175, BK176, HB⟩ := hcut
   cases kq with
   | zero => exact absurd HA.out (by simp [platbooklaw03_PrefixNests.j0])
   | succ kj6 =>
    have H := HA.out
    clear HA
    simp only [platbooklaw03_PrefixNests.j0] at H
    by_cases c50 : x29_6 = true
    ·
     subst c50
     rw [if_pos rfl] at H
     obtain rfl := Option.some.inj H
     exact absurd HRT.out (by decide)
    ·
     replace c50 := Bool.eq_false_iff.mpr c50
     subst c50
     have H1 : ((prefix_Has.f kj6 a0_0 a0_1 a0_2 a0_3 a2_0 a2_1 a2_2).bind fun t182 => (if t182 = true then ((prefix_Has.f kj6 a1_0 a1_1 a1_2 a1_3 a2_0 a2_1 a2_2).bind fun t183 => (if t183 = true then (platbooklaw03_PrefixNests.j1 kj6 t178 (!t178) a0_0 a0_1 a0_2 a0_3 a1_0 a1_1 a1_2 a1_3 a2_0 a2_1 a2_2) else (platbooklaw03_PrefixNests.j1 kj6 t178 false a0_0 a0_1 a0_2 a0_3 a1_0 a1_1 a1_2 a1_3 a2_0 a2_1 a2_2))) else (platbooklaw03_PrefixNests.j1 kj6 t178 false a0_0 a0_1 a0_2 a0_3 a1_0 a1_1 a1_2 a1_3 a2_0 a2_1 a2_2))) = some r := by rw [if_neg (show ¬ (false = true) by decide)] at H; exact H
     clear H
     have H := H1
     clear H1
     have HC51 := Aside0.mk H
     clear H
     go_upto_region 6 with (fail)
     go_cut [41] (fun v41 wc => ∃ (kq : Nat) (x41_50 : Bool), v41 = .bool x41_50 ∧ Aside0 (platbooklaw03_PrefixNests.j1 kq t178 x41_50 a0_0 a0_1 a0_2 a0_3 a1_0 a1_1 a1_2 a1_3 a2_0 a2_1 a2_2 = some r) ∧ Aside0 (kq ≤ kj6) ∧ Aside0 (wc.heap[gb174]? = some (.cells #[.bool a0_0, .int .u64 a0_1, .int .u64 a0_2, .int .i64 a0_3] 43 (0, 0))) ∧ Aside0 (wc.heap[gb175]? = some (.cells #[.bool a1_0, .int .u64 a1_1, .int .u64 a1_2, .int .i64 a1_3] 43 (0, 0))) ∧ Aside0 (wc.heap[gb176]? = some (.cells #[.bool a2_0, .int .u64 a2_1, .int .u64 a2_2] 26 (0, 0))) ∧ Aside0 (Below w.heap.size w wc))
     case first =>
      have H := HC51.out
      clear HC51
      replace H := Option.bind_eq_some_iff.mp H
      obtain ⟨t182, A520, H⟩ := H
      replace H : (if t182 = true then ((prefix_Has.f kj6 a1_0 a1_1 a1_2 a1_3 a2_0 a2_1 a2_2).bind fun t183 => (if t183 = true then (platbooklaw03_PrefixNests.j1 kj6 t178 (!t178) a0_0 a0_1 a0_2 a0_3 a1_0 a1_1 a1_2 a1_3 a2_0 a2_1 a2_2) else (platbooklaw03_PrefixNests.j1 kj6 t178 false a0_0 a0_1 a0_2 a0_3 a1_0 a1_1 a1_2 a1_3 a2_0 a2_1 a2_2))) else (platbooklaw03_PrefixNests.j1 kj6 t178 false a0_0 a0_1 a0_2 a0_3 a1_0 a1_1 a1_2 a1_3 a2_0 a2_1 a2_2)) = some r := H
      have A52 := Aside0.mk A520
      clear A520
      by_cases c53 : t182 = true
      ·
       subst c53
       rw [if_pos rfl] at H
       replace H := Option.bind_eq_some_iff.mp H
       obtain ⟨t183, A540, H⟩ := H
       replace H : (if t183 = true then (platbooklaw03_PrefixNests.j1 kj6 t178 (!t178) a0_0 a0_1 a0_2 a0_3 a1_0 a1_1 a1_2 a1_3 a2_0 a2_1 a2_2) else (platbooklaw03_PrefixNests.j1 kj6 t178 false a0_0 a0_1 a0_2 a0_3 a1_0 a1_1 a1_2 a1_3 a2_0 a2_1 a2_2)) = some r := H
       have A54 := Aside0.mk A540
       clear A540
       by_cases c55 : t183 = true
       ·
        subst c55
        rw [if_pos rfl] at H
        have H' := Aside0.mk H
        clear H
        have hnb56 := NB174_175.out
        have hnc56 := NB175_174.out
        have hnb57 := NB174_176.out
        have hnc57 := NB176_174.out
        obtain ⟨hcz58_0, hcz58_1, hcz58_2, hcz58_3, hfz58_0, hfz58_1, hfz58_2, hfz58_3⟩ := c4_ BK174
        have hnb59 := NB176_175.out
        have hnc59 := NB175_176.out
        obtain ⟨hcz60_0, hcz60_1, hcz60_2, hfz60_0, hfz60_1, hfz60_2⟩ := c3_ BK176
        go_wp2_with (first | ((with_reducible refine gate_callee (f := 23) rfl ?_); refine gl_ (some 32) Tryd.func23 #[.agg #[.bool a0_0, .int .u64 a0_1, .int .u64 a0_2, .int .i64 a0_3], .agg #[.bool a2_0, .int .u64 a2_1, .int .u64 a2_2]] ?_; (with_reducible refine (prefix_Has.calls kj6 a0_0 a0_1 a0_2 a0_3 a2_0 a2_1 a2_2 true _ A52.out).mono ?_); rintro e w61 ⟨rfl, hb⟩; refine ⟨_, rfl, ?_⟩; replace BK174 := bb_ BK174 hb; replace BK175 := bb_ BK175 hb; replace BK176 := bb_ BK176 hb; replace HB := bs_ HB hb; (try clear hb); (try clear hb2); (try clear hk); (try clear hi); obtain ⟨hcz62_0, hcz62_1, hcz62_2, hcz62_3, hfz62_0, hfz62_1, hfz62_2, hfz62_3⟩ := c4_ BK175; obtain ⟨hcz63_0, hcz63_1, hcz63_2, hfz63_0, hfz63_1, hfz63_2⟩ := c3_ BK176) | (go_at_call 23; (with_reducible refine (prefix_Has.calls kj6 a1_0 a1_1 a1_2 a1_3 a2_0 a2_1 a2_2 true _ A54.out).mono ?_); rintro e w64 ⟨rfl, hb⟩; replace BK174 := bb_ BK174 hb; replace BK175 := bb_ BK175 hb; replace BK176 := bb_ BK176 hb; replace HB := bs_ HB hb; (try clear hb); (try clear hb2); (try clear hk); (try clear hi)))
        go_meet
        case rel => exact ⟨_, (!t178), (by first | rfl | (simp; done) | (simp [*]; done)), H', ⟨by have := HJ6.out; first | omega | exact Nat.le_refl _⟩, ⟨by refine pw_ ?_; exact BK174.out⟩, ⟨by refine pw_ ?_; exact BK175.out⟩, ⟨by refine pw_ ?_; exact BK176.out⟩, ⟨pb_ HB⟩⟩
       ·
        replace c55 := Bool.eq_false_iff.mpr c55
        subst c55
        have H1 : (platbooklaw03_PrefixNests.j1 kj6 t178 false a0_0 a0_1 a0_2 a0_3 a1_0 a1_1 a1_2 a1_3 a2_0 a2_1 a2_2) = some r := by rw [if_neg (show ¬ (false = true) by decide)] at H; exact H
        clear H
        have H := H1
        clear H1
        have H' := Aside0.mk H
        clear H
        have hnb65 := NB174_175.out
        have hnc65 := NB175_174.out
        have hnb66 := NB174_176.out
        have hnc66 := NB176_174.out
        obtain ⟨hcz67_0, hcz67_1, hcz67_2, hcz67_3, hfz67_0, hfz67_1, hfz67_2, hfz67_3⟩ := c4_ BK174
        have hnb68 := NB176_175.out
        have hnc68 := NB175_176.out
        obtain ⟨hcz69_0, hcz69_1, hcz69_2, hfz69_0, hfz69_1, hfz69_2⟩ := c3_ BK176
        go_wp2_with (first | ((with_reducible refine gate_callee (f := 23) rfl ?_); refine gl_ (some 32) Tryd.func23 #[.agg #[.bool a0_0, .int .u64 a0_1, .int .u64 a0_2, .int .i64 a0_3], .agg #[.bool a2_0, .int .u64 a2_1, .int .u64 a2_2]] ?_; (with_reducible refine (prefix_Has.calls kj6 a0_0 a0_1 a0_2 a0_3 a2_0 a2_1 a2_2 true _ A52.out).mono ?_); rintro e w70 ⟨rfl, hb⟩; refine ⟨_, rfl, ?_⟩; replace BK174 := bb_ BK174 hb; replace BK175 := bb_ BK175 hb; replace BK176 := bb_ BK176 hb; replace HB := bs_ HB hb; (try clear hb); (try clear hb2); (try clear hk); (try clear hi); obtain ⟨hcz71_0, hcz71_1, hcz71_2, hcz71_3, hfz71_0, hfz71_1, hfz71_2, hfz71_3⟩ := c4_ BK175; obtain ⟨hcz72_0, hcz72_1, hcz72_2, hfz72_0, hfz72_1, hfz72_2⟩ := c3_ BK176) | (go_at_call 23; (with_reducible refine (prefix_Has.calls kj6 a1_0 a1_1 a1_2 a1_3 a2_0 a2_1 a2_2 false _ A54.out).mono ?_); rintro e w73 ⟨rfl, hb⟩; replace BK174 := bb_ BK174 hb; replace BK175 := bb_ BK175 hb; replace BK176 := bb_ BK176 hb; replace HB := bs_ HB hb; (try clear hb); (try clear hb2); (try clear hk); (try clear hi)))
        go_meet
        case rel => exact ⟨_, (false), (by first | rfl | (simp; done) | (simp [*]; done)), H', ⟨by have := HJ6.out; first | omega | exact Nat.le_refl _⟩, ⟨by refine pw_ ?_; exact BK174.out⟩, ⟨by refine pw_ ?_; exact BK175.out⟩, ⟨by refine pw_ ?_; exact BK176.out⟩, ⟨pb_ HB⟩⟩
      ·
       replace c53 := Bool.eq_false_iff.mpr c53
       subst c53
       have H1 : (platbooklaw03_PrefixNests.j1 kj6 t178 false a0_0 a0_1 a0_2 a0_3 a1_0 a1_1 a1_2 a1_3 a2_0 a2_1 a2_2) = some r := by rw [if_neg (show ¬ (false = true) by decide)] at H; exact H
       clear H
       have H := H1
       clear H1
       have H' := Aside0.mk H
       clear H
       have hnb74 := NB174_175.out
       have hnc74 := NB175_174.out
       have hnb75 := NB174_176.out
       have hnc75 := NB176_174.out
       obtain ⟨hcz76_0, hcz76_1, hcz76_2, hcz76_3, hfz76_0, hfz76_1, hfz76_2, hfz76_3⟩ := c4_ BK174
       have hnb77 := NB176_175.out
       have hnc77 := NB175_176.out
       obtain ⟨hcz78_0, hcz78_1, hcz78_2, hfz78_0, hfz78_1, hfz78_2⟩ := c3_ BK176
       go_wp2_with (first | ((with_reducible refine gate_callee (f := 23) rfl ?_); refine gl_ (some 32) Tryd.func23 #[.agg #[.bool a0_0, .int .u64 a0_1, .int .u64 a0_2, .int .i64 a0_3], .agg #[.bool a2_0, .int .u64 a2_1, .int .u64 a2_2]] ?_; (with_reducible refine (prefix_Has.calls kj6 a0_0 a0_1 a0_2 a0_3 a2_0 a2_1 a2_2 false _ A52.out).mono ?_); rintro e w79 ⟨rfl, hb⟩; refine ⟨_, rfl, ?_⟩; replace BK174 := bb_ BK174 hb; replace BK175 := bb_ BK175 hb; replace BK176 := bb_ BK176 hb; replace HB := bs_ HB hb; (try clear hb); (try clear hb2); (try clear hk); (try clear hi)))
       go_meet
       case rel => exact ⟨_, (false), (by first | rfl | (simp; done) | (simp [*]; done)), H', ⟨by have := HJ6.out; first | omega | exact Nat.le_refl _⟩, ⟨by refine pw_ ?_; exact BK174.out⟩, ⟨by refine pw_ ?_; exact BK175.out⟩, ⟨by refine pw_ ?_; exact BK176.out⟩, ⟨pb_ HB⟩⟩
     case rest =>
      clear HC51
      try clear c1
      try clear c2
      try clear p2
      try clear c3
      try clear c4
      try clear c5
      try clear c6
      try clear c7
      try clear c12
      try clear c13
      try clear c15
      try clear c19
      try clear c19b0
      try clear c19b1
      try clear c19b2
      try clear c20
      try clear c21
      try clear c23
      try clear c27
      try clear c28
      try clear c29
      try clear c31
      try clear c38
      try clear c39
      try clear c41
      try clear c50
      try clear c53
      try clear c55
      try clear c56
      try clear c57
      try clear c59
      try clear c65
      try clear c66
      try clear c68
      try clear c74
      try clear c75
      try clear c77
      try clear hcz14_0
      try clear hcz14_1
      try clear hcz14_2
      try clear hcz14_3
      try clear hcz16_0
      try clear hcz16_1
      try clear hcz16_2
      try clear hcz16_3
      try clear hcz22_0
      try clear hcz22_1
      try clear hcz22_2
      try clear hcz22_3
      try clear hcz24_0
      try clear hcz24_1
      try clear hcz24_2
      try clear hcz24_3
      try clear hcz30_0
      try clear hcz30_1
      try clear hcz30_2
      try clear hcz30_3
      try clear hcz32_0
      try clear hcz32_1
      try clear hcz32_2
      try clear hcz32_3
      try clear hcz34_0
      try clear hcz34_1
      try clear hcz34_2
      try clear hcz34_3
      try clear hcz35_0
      try clear hcz35_1
      try clear hcz35_2
      try clear hcz35_3
      try clear hcz40_0
      try clear hcz40_1
      try clear hcz40_2
      try clear hcz40_3
      try clear hcz42_0
      try clear hcz42_1
      try clear hcz42_2
      try clear hcz42_3
      try clear hcz44_0
      try clear hcz44_1
      try clear hcz44_2
      try clear hcz44_3
      try clear hcz45_0
      try clear hcz45_1
      try clear hcz45_2
      try clear hcz45_3
      try clear hcz47_0
      try clear hcz47_1
      try clear hcz47_2
      try clear hcz47_3
      try clear hcz48_0
      try clear hcz48_1
      try clear hcz48_2
      try clear hcz48_3
      try clear hcz58_0
      try clear hcz58_1
      try clear hcz58_2
      try clear hcz58_3
      try clear hcz60_0
      try clear hcz60_1
      try clear hcz60_2
      try clear hcz62_0
      try clear hcz62_1
      try clear hcz62_2
      try clear hcz62_3
      try clear hcz63_0
      try clear hcz63_1
      try clear hcz63_2
      try clear hcz67_0
      try clear hcz67_1
      try clear hcz67_2
      try clear hcz67_3
      try clear hcz69_0
      try clear hcz69_1
      try clear hcz69_2
      try clear hcz71_0
      try clear hcz71_1
      try clear hcz71_2
      try clear hcz71_3
      try clear hcz72_0
      try clear hcz72_1
      try clear hcz72_2
      try clear hcz76_0
      try clear hcz76_1
      try clear hcz76_2
      try clear hcz76_3
      try clear hcz78_0
      try clear hcz78_1
      try clear hcz78_2
      try clear hfz14_0
      try clear hfz14_1
      try clear hfz14_2
      try clear hfz14_3
      try clear hfz16_0
      try clear hfz16_1
      try clear hfz16_2
      try clear hfz16_3
      try clear hfz22_0
      try clear hfz22_1
      try clear hfz22_2
      try clear hfz22_3
      try clear hfz24_0
      try clear hfz24_1
      try clear hfz24_2
      try clear hfz24_3
      try clear hfz30_0
      try clear hfz30_1
      try clear hfz30_2
      try clear hfz30_3
      try clear hfz32_0
      try clear hfz32_1
      try clear hfz32_2
      try clear hfz32_3
      try clear hfz34_0
      try clear hfz34_1
      try clear hfz34_2
      try clear hfz34_3
      try clear hfz35_0
      try clear hfz35_1
      try clear hfz35_2
      try clear hfz35_3
      try clear hfz40_0
      try clear hfz40_1
      try clear hfz40_2
      try clear hfz40_3
      try clear hfz42_0
      try clear hfz42_1
      try clear hfz42_2
      try clear hfz42_3
      try clear hfz44_0
      try clear hfz44_1
      try clear hfz44_2
      try clear hfz44_3
      try clear hfz45_0
      try clear hfz45_1
      try clear hfz45_2
      try clear hfz45_3
      try clear hfz47_0
      try clear hfz47_1
      try clear hfz47_2
      try clear hfz47_3
      try clear hfz48_0
      try clear hfz48_1
      try clear hfz48_2
      try clear hfz48_3
      try clear hfz58_0
      try clear hfz58_1
      try clear hfz58_2
      try clear hfz58_3
      try clear hfz60_0
      try clear hfz60_1
      try clear hfz60_2
      try clear hfz62_0
      try clear hfz62_1
      try clear hfz62_2
      try clear hfz62_3
      try clear hfz63_0
      try clear hfz63_1
      try clear hfz63_2
      try clear hfz67_0
      try clear hfz67_1
      try clear hfz67_2
      try clear hfz67_3
      try clear hfz69_0
      try clear hfz69_1
      try clear hfz69_2
      try clear hfz71_0
      try clear hfz71_1
      try clear hfz71_2
      try clear hfz71_3
      try clear hfz72_0
      try clear hfz72_1
      try clear hfz72_2
      try clear hfz76_0
      try clear hfz76_1
      try clear hfz76_2
      try clear hfz76_3
      try clear hfz78_0
      try clear hfz78_1
      try clear hfz78_2
      try clear p2
      obtain ⟨kq, x41_50, rfl, HA, HJ50, BK174, BK175, BK176, HB⟩ := hcut
      cases kq with
      | zero => exact absurd HA.out (by simp [platbooklaw03_PrefixNests.j1])
      | succ kj50 =>
       have H := HA.out
       clear HA
       simp only [platbooklaw03_PrefixNests.j1] at H
       by_cases c80 : x41_50 = true
       ·
        subst c80
        rw [if_pos rfl] at H
        obtain rfl := Option.some.inj H
        exact absurd HRT.out (by decide)
       ·
        replace c80 := Bool.eq_false_iff.mpr c80
        subst c80
        have H1 : ((prefix_Within.f kj50 a0_0 a0_1 a0_2 a0_3 a1_0 a1_1 a1_2 a1_3).bind fun t184 => (if t184 = true then ((prefix_Has.f kj50 a0_0 a0_1 a0_2 a0_3 a2_0 a2_1 a2_2).bind fun t185 => (if t185 = true then ((prefix_Has.f kj50 a1_0 a1_1 a1_2 a1_3 a2_0 a2_1 a2_2).bind fun t186 => (platbooklaw03_PrefixNests.j2 kj50 t178 (!t186) a0_0 a0_1 a0_2 a0_3 a1_0 a1_1 a1_2 a1_3)) else (platbooklaw03_PrefixNests.j2 kj50 t178 false a0_0 a0_1 a0_2 a0_3 a1_0 a1_1 a1_2 a1_3))) else (platbooklaw03_PrefixNests.j2 kj50 t178 false a0_0 a0_1 a0_2 a0_3 a1_0 a1_1 a1_2 a1_3))) = some r := by rw [if_neg (show ¬ (false = true) by decide)] at H; exact H
        clear H
        have H := H1
        clear H1
        have HC81 := Aside0.mk H
        clear H
        go_upto_region 8 with (fail)
        go_cut [55] (fun v55 wc => ∃ (kq : Nat) (x55_80 : Bool), v55 = .bool x55_80 ∧ Aside0 (platbooklaw03_PrefixNests.j2 kq t178 x55_80 a0_0 a0_1 a0_2 a0_3 a1_0 a1_1 a1_2 a1_3 = some r) ∧ Aside0 (kq ≤ kj50) ∧ Aside0 (wc.heap[gb174]? = some (.cells #[.bool a0_0, .int .u64 a0_1, .int .u64 a0_2, .int .i64 a0_3] 43 (0, 0))) ∧ Aside0 (wc.heap[gb175]? = some (.cells #[.bool a1_0, .int .u64 a1_1, .int .u64 a1_2, .int .i64 a1_3] 43 (0, 0))) ∧ Aside0 (wc.heap[gb176]? = some (.cells #[.bool a2_0, .int .u64 a2_1, .int .u64 a2_2] 26 (0, 0))) ∧ Aside0 (Below w.heap.size w wc))
        case first =>
         have H := HC81.out
         clear HC81
         replace H := Option.bind_eq_some_iff.mp H
         obtain ⟨t184, A820, H⟩ := H
         replace H : (if t184 = true then ((prefix_Has.f kj50 a0_0 a0_1 a0_2 a0_3 a2_0 a2_1 a2_2).bind fun t185 => (if t185 = true then ((prefix_Has.f kj50 a1_0 a1_1 a1_2 a1_3 a2_0 a2_1 a2_2).bind fun t186 => (platbooklaw03_PrefixNests.j2 kj50 t178 (!t186) a0_0 a0_1 a0_2 a0_3 a1_0 a1_1 a1_2 a1_3)) else (platbooklaw03_PrefixNests.j2 kj50 t178 false a0_0 a0_1 a0_2 a0_3 a1_0 a1_1 a1_2 a1_3))) else (platbooklaw03_PrefixNests.j2 kj50 t178 false a0_0 a0_1 a0_2 a0_3 a1_0 a1_1 a1_2 a1_3)) = some r := H
         have A82 := Aside0.mk A820
         clear A820
         by_cases c83 : t184 = true
         ·
          subst c83
          rw [if_pos rfl] at H
          replace H := Option.bind_eq_some_iff.mp H
          obtain ⟨t185, A840, H⟩ := H
          replace H : (if t185 = true then ((prefix_Has.f kj50 a1_0 a1_1 a1_2 a1_3 a2_0 a2_1 a2_2).bind fun t186 => (platbooklaw03_PrefixNests.j2 kj50 t178 (!t186) a0_0 a0_1 a0_2 a0_3 a1_0 a1_1 a1_2 a1_3)) else (platbooklaw03_PrefixNests.j2 kj50 t178 false a0_0 a0_1 a0_2 a0_3 a1_0 a1_1 a1_2 a1_3)) = some r := H
          have A84 := Aside0.mk A840
          clear A840
          by_cases c85 : t185 = true
          ·
           subst c85
           rw [if_pos rfl] at H
           replace H := Option.bind_eq_some_iff.mp H
           obtain ⟨t186, A860, H⟩ := H
           replace H : (platbooklaw03_PrefixNests.j2 kj50 t178 (!t186) a0_0 a0_1 a0_2 a0_3 a1_0 a1_1 a1_2 a1_3) = some r := H
           have A86 := Aside0.mk A860
           clear A860
           have H' := Aside0.mk H
           clear H
           have hnb87 := NB174_175.out
           have hnc87 := NB175_174.out
           have hnb88 := NB174_176.out
           have hnc88 := NB176_174.out
           obtain ⟨hcz89_0, hcz89_1, hcz89_2, hcz89_3, hfz89_0, hfz89_1, hfz89_2, hfz89_3⟩ := c4_ BK174
           have hnb90 := NB175_176.out
           have hnc90 := NB176_175.out
           obtain ⟨hcz91_0, hcz91_1, hcz91_2, hcz91_3, hfz91_0, hfz91_1, hfz91_2, hfz91_3⟩ := c4_ BK175
           go_wp2_with (first | ((with_reducible refine gate_callee (f := 22) rfl ?_); refine gl_ (some 44) Tryd.func22 #[.agg #[.bool a0_0, .int .u64 a0_1, .int .u64 a0_2, .int .i64 a0_3], .agg #[.bool a1_0, .int .u64 a1_1, .int .u64 a1_2, .int .i64 a1_3]] ?_; (with_reducible refine (prefix_Within.calls kj50 a0_0 a0_1 a0_2 a0_3 a1_0 a1_1 a1_2 a1_3 true _ A82.out).mono ?_); rintro e w92 ⟨rfl, hb⟩; refine ⟨_, rfl, ?_⟩; replace BK174 := bb_ BK174 hb; replace BK175 := bb_ BK175 hb; replace BK176 := bb_ BK176 hb; replace HB := bs_ HB hb; (try clear hb); (try clear hb2); (try clear hk); (try clear hi); obtain ⟨hcz93_0, hcz93_1, hcz93_2, hcz93_3, hfz93_0, hfz93_1, hfz93_2, hfz93_3⟩ := c4_ BK174; obtain ⟨hcz94_0, hcz94_1, hcz94_2, hfz94_0, hfz94_1, hfz94_2⟩ := c3_ BK176) | (go_at_call 23; (with_reducible refine (prefix_Has.calls kj50 a0_0 a0_1 a0_2 a0_3 a2_0 a2_1 a2_2 true _ A84.out).mono ?_); rintro e w95 ⟨rfl, hb⟩; replace BK174 := bb_ BK174 hb; replace BK175 := bb_ BK175 hb; replace BK176 := bb_ BK176 hb; replace HB := bs_ HB hb; (try clear hb); (try clear hb2); (try clear hk); (try clear hi); obtain ⟨hcz96_0, hcz96_1, hcz96_2, hcz96_3, hfz96_0, hfz96_1, hfz96_2, hfz96_3⟩ := c4_ BK175; obtain ⟨hcz97_0, hcz97_1, hcz97_2, hfz97_0, hfz97_1, hfz97_2⟩ := c3_ BK176) | (go_at_call 23; (with_reducible refine (prefix_Has.calls kj50 a1_0 a1_1 a1_2 a1_3 a2_0 a2_1 a2_2 t186 _ A86.out).mono ?_); rintro e w98 ⟨rfl, hb⟩; replace BK174 := bb_ BK174 hb; replace BK175 := bb_ BK175 hb; replace BK176 := bb_ BK176 hb; replace HB := bs_ HB hb; (try clear hb); (try clear hb2); (try clear hk); (try clear hi)))
           go_meet
           case rel => exact ⟨_, (!t186), (by first | rfl | (simp; done) | (simp [*]; done)), H', ⟨by have := HJ6.out; have := HJ50.out; first | omega | exact Nat.le_refl _⟩, ⟨by refine pw_ ?_; exact BK174.out⟩, ⟨by refine pw_ ?_; exact BK175.out⟩, ⟨by refine pw_ ?_; exact BK176.out⟩, ⟨pb_ HB⟩⟩
          ·
           replace c85 := Bool.eq_false_iff.mpr c85
           subst c85
           have H1 : (platbooklaw03_PrefixNests.j2 kj50 t178 false a0_0 a0_1 a0_2 a0_3 a1_0 a1_1 a1_2 a1_3) = some r := by rw [if_neg (show ¬ (false = true) by decide)] at H; exact H
           clear H
           have H := H1
           clear H1
           have H' := Aside0.mk H
           clear H
           have hnb99 := NB174_175.out
           have hnc99 := NB175_174.out
           have hnb100 := NB174_176.out
           have hnc100 := NB176_174.out
           obtain ⟨hcz101_0, hcz101_1, hcz101_2, hcz101_3, hfz101_0, hfz101_1, hfz101_2, hfz101_3⟩ := c4_ BK174
           have hnb102 := NB175_176.out
           have hnc102 := NB176_175.out
           obtain ⟨hcz103_0, hcz103_1, hcz103_2, hcz103_3, hfz103_0, hfz103_1, hfz103_2, hfz103_3⟩ := c4_ BK175
           go_wp2_with (first | ((with_reducible refine gate_callee (f := 22) rfl ?_); refine gl_ (some 44) Tryd.func22 #[.agg #[.bool a0_0, .int .u64 a0_1, .int .u64 a0_2, .int .i64 a0_3], .agg #[.bool a1_0, .int .u64 a1_1, .int .u64 a1_2, .int .i64 a1_3]] ?_; (with_reducible refine (prefix_Within.calls kj50 a0_0 a0_1 a0_2 a0_3 a1_0 a1_1 a1_2 a1_3 true _ A82.out).mono ?_); rintro e w104 ⟨rfl, hb⟩; refine ⟨_, rfl, ?_⟩; replace BK174 := bb_ BK174 hb; replace BK175 := bb_ BK175 hb; replace BK176 := bb_ BK176 hb; replace HB := bs_ HB hb; (try clear hb); (try clear hb2); (try clear hk); (try clear hi); obtain ⟨hcz105_0, hcz105_1, hcz105_2, hcz105_3, hfz105_0, hfz105_1, hfz105_2, hfz105_3⟩ := c4_ BK174; obtain ⟨hcz106_0, hcz106_1, hcz106_2, hfz106_0, hfz106_1, hfz106_2⟩ := c3_ BK176) | (go_at_call 23; (with_reducible refine (prefix_Has.calls kj50 a0_0 a0_1 a0_2 a0_3 a2_0 a2_1 a2_2 false _ A84.out).mono ?_); rintro e w107 ⟨rfl, hb⟩; replace BK174 := bb_ BK174 hb; replace BK175 := bb_ BK175 hb; replace BK176 := bb_ BK176 hb; replace HB := bs_ HB hb; (try clear hb); (try clear hb2); (try clear hk); (try clear hi)))
           go_meet
           case rel => exact ⟨_, (false), (by first | rfl | (simp; done) | (simp [*]; done)), H', ⟨by have := HJ6.out; have := HJ50.out; first | omega | exact Nat.le_refl _⟩, ⟨by refine pw_ ?_; exact BK174.out⟩, ⟨by refine pw_ ?_; exact BK175.out⟩, ⟨by refine pw_ ?_; exact BK176.out⟩, ⟨pb_ HB⟩⟩
         ·
          replace c83 := Bool.eq_false_iff.mpr c83
          subst c83
          have H1 : (platbooklaw03_PrefixNests.j2 kj50 t178 false a0_0 a0_1 a0_2 a0_3 a1_0 a1_1 a1_2 a1_3) = some r := by rw [if_neg (show ¬ (false = true) by decide)] at H; exact H
          clear H
          have H := H1
          clear H1
          have H' := Aside0.mk H
          clear H
          have hnb108 := NB174_175.out
          have hnc108 := NB175_174.out
          have hnb109 := NB174_176.out
          have hnc109 := NB176_174.out
          obtain ⟨hcz110_0, hcz110_1, hcz110_2, hcz110_3, hfz110_0, hfz110_1, hfz110_2, hfz110_3⟩ := c4_ BK174
          have hnb111 := NB175_176.out
          have hnc111 := NB176_175.out
          obtain ⟨hcz112_0, hcz112_1, hcz112_2, hcz112_3, hfz112_0, hfz112_1, hfz112_2, hfz112_3⟩ := c4_ BK175
          go_wp2_with (first | ((with_reducible refine gate_callee (f := 22) rfl ?_); refine gl_ (some 44) Tryd.func22 #[.agg #[.bool a0_0, .int .u64 a0_1, .int .u64 a0_2, .int .i64 a0_3], .agg #[.bool a1_0, .int .u64 a1_1, .int .u64 a1_2, .int .i64 a1_3]] ?_; (with_reducible refine (prefix_Within.calls kj50 a0_0 a0_1 a0_2 a0_3 a1_0 a1_1 a1_2 a1_3 false _ A82.out).mono ?_); rintro e w113 ⟨rfl, hb⟩; refine ⟨_, rfl, ?_⟩; replace BK174 := bb_ BK174 hb; replace BK175 := bb_ BK175 hb; replace BK176 := bb_ BK176 hb; replace HB := bs_ HB hb; (try clear hb); (try clear hb2); (try clear hk); (try clear hi)))
          go_meet
          case rel => exact ⟨_, (false), (by first | rfl | (simp; done) | (simp [*]; done)), H', ⟨by have := HJ6.out; have := HJ50.out; first | omega | exact Nat.le_refl _⟩, ⟨by refine pw_ ?_; exact BK174.out⟩, ⟨by refine pw_ ?_; exact BK175.out⟩, ⟨by refine pw_ ?_; exact BK176.out⟩, ⟨pb_ HB⟩⟩
        case rest =>
         clear HC81
         try clear c1
         try clear c2
         try clear p2
         try clear c3
         try clear c4
         try clear c5
         try clear c6
         try clear c7
         try clear c8
         try clear c9
         try clear c10
         try clear c11
         try clear c12
         try clear c13
         try clear c15
         try clear c19
         try clear c19b0
         try clear c19b1
         try clear c19b2
         try clear c20
         try clear c21
         try clear c22
         try clear c23
         try clear c27
         try clear c28
         try clear c29
         try clear c31
         try clear c38
         try clear c39
         try clear c41
         try clear c50
         try clear c53
         try clear c55
         try clear c56
         try clear c57
         try clear c59
         try clear c65
         try clear c66
         try clear c68
         try clear c74
         try clear c75
         try clear c77
         try clear c80
         try clear c83
         try clear c85
         try clear c87
         try clear c88
         try clear c90
         try clear c99
         try clear c100
         try clear c102
         try clear c108
         try clear c109
         try clear c111
         try clear hcz101_0
         try clear hcz101_1
         try clear hcz101_2
         try clear hcz101_3
         try clear hcz103_0
         try clear hcz103_1
         try clear hcz103_2
         try clear hcz103_3
         try clear hcz105_0
         try clear hcz105_1
         try clear hcz105_2
         try clear hcz105_3
         try clear hcz106_0
         try clear hcz106_1
         try clear hcz106_2
         try clear hcz110_0
         try clear hcz110_1
         try clear hcz110_2
         try clear hcz110_3
         try clear hcz112_0
         try clear hcz112_1
         try clear hcz112_2
         try clear hcz112_3
         try clear hcz14_0
         try clear hcz14_1
         try clear hcz14_2
         try clear hcz14_3
         try clear hcz16_0
         try clear hcz16_1
         try clear hcz16_2
         try clear hcz16_3
         try clear hcz22_0
         try clear hcz22_1
         try clear hcz22_2
         try clear hcz22_3
         try clear hcz24_0
         try clear hcz24_1
         try clear hcz24_2
         try clear hcz24_3
         try clear hcz30_0
         try clear hcz30_1
         try clear hcz30_2
         try clear hcz30_3
         try clear hcz32_0
         try clear hcz32_1
         try clear hcz32_2
         try clear hcz32_3
         try clear hcz34_0
         try clear hcz34_1
         try clear hcz34_2
         try clear hcz34_3
         try clear hcz35_0
         try clear hcz35_1
         try clear hcz35_2
         try clear hcz35_3
         try clear hcz40_0
         try clear hcz40_1
         try clear hcz40_2
         try clear hcz40_3
         try clear hcz42_0
         try clear hcz42_1
         try clear hcz42_2
         try clear hcz42_3
         try clear hcz44_0
         try clear hcz44_1
         try clear hcz44_2
         try clear hcz44_3
         try clear hcz45_0
         try clear hcz45_1
         try clear hcz45_2
         try clear hcz45_3
         try clear hcz47_0
         try clear hcz47_1
         try clear hcz47_2
         try clear hcz47_3
         try clear hcz48_0
         try clear hcz48_1
         try clear hcz48_2
         try clear hcz48_3
         try clear hcz58_0
         try clear hcz58_1
         try clear hcz58_2
         try clear hcz58_3
         try clear hcz60_0
         try clear hcz60_1
         try clear hcz60_2
         try clear hcz62_0
         try clear hcz62_1
         try clear hcz62_2
         try clear hcz62_3
         try clear hcz63_0
         try clear hcz63_1
         try clear hcz63_2
         try clear hcz67_0
         try clear hcz67_1
         try clear hcz67_2
         try clear hcz67_3
         try clear hcz69_0
         try clear hcz69_1
         try clear hcz69_2
         try clear hcz71_0
         try clear hcz71_1
         try clear hcz71_2
         try clear hcz71_3
         try clear hcz72_0
         try clear hcz72_1
         try clear hcz72_2
         try clear hcz76_0
         try clear hcz76_1
         try clear hcz76_2
         try clear hcz76_3
         try clear hcz78_0
         try clear hcz78_1
         try clear hcz78_2
         try clear hcz89_0
         try clear hcz89_1
         try clear hcz89_2
         try clear hcz89_3
         try clear hcz91_0
         try clear hcz91_1
         try clear hcz91_2
         try clear hcz91_3
         try clear hcz93_0
         try clear hcz93_1
         try clear hcz93_2
         try clear hcz93_3
         try clear hcz94_0
         try clear hcz94_1
         try clear hcz94_2
         try clear hcz96_0
         try clear hcz96_1
         try clear hcz96_2
         try clear hcz96_3
         try clear hcz97_0
         try clear hcz97_1
         try clear hcz97_2
         try clear hfz101_0
         try clear hfz101_1
         try clear hfz101_2
         try clear hfz101_3
         try clear hfz103_0
         try clear hfz103_1
         try clear hfz103_2
         try clear hfz103_3
         try clear hfz105_0
         try clear hfz105_1
         try clear hfz105_2
         try clear hfz105_3
         try clear hfz106_0
         try clear hfz106_1
         try clear hfz106_2
         try clear hfz110_0
         try clear hfz110_1
         try clear hfz110_2
         try clear hfz110_3
         try clear hfz112_0
         try clear hfz112_1
         try clear hfz112_2
         try clear hfz112_3
         try clear hfz14_0
         try clear hfz14_1
         try clear hfz14_2
         try clear hfz14_3
         try clear hfz16_0
         try clear hfz16_1
         try clear hfz16_2
         try clear hfz16_3
         try clear hfz22_0
         try clear hfz22_1
         try clear hfz22_2
         try clear hfz22_3
         try clear hfz24_0
         try clear hfz24_1
         try clear hfz24_2
         try clear hfz24_3
         try clear hfz30_0
         try clear hfz30_1
         try clear hfz30_2
         try clear hfz30_3
         try clear hfz32_0
         try clear hfz32_1
         try clear hfz32_2
         try clear hfz32_3
         try clear hfz34_0
         try clear hfz34_1
         try clear hfz34_2
         try clear hfz34_3
         try clear hfz35_0
         try clear hfz35_1
         try clear hfz35_2
         try clear hfz35_3
         try clear hfz40_0
         try clear hfz40_1
         try clear hfz40_2
         try clear hfz40_3
         try clear hfz42_0
         try clear hfz42_1
         try clear hfz42_2
         try clear hfz42_3
         try clear hfz44_0
         try clear hfz44_1
         try clear hfz44_2
         try clear hfz44_3
         try clear hfz45_0
         try clear hfz45_1
         try clear hfz45_2
         try clear hfz45_3
         try clear hfz47_0
         try clear hfz47_1
         try clear hfz47_2
         try clear hfz47_3
         try clear hfz48_0
         try clear hfz48_1
         try clear hfz48_2
         try clear hfz48_3
         try clear hfz58_0
         try clear hfz58_1
         try clear hfz58_2
         try clear hfz58_3
         try clear hfz60_0
         try clear hfz60_1
         try clear hfz60_2
         try clear hfz62_0
         try clear hfz62_1
         try clear hfz62_2
         try clear hfz62_3
         try clear hfz63_0
         try clear hfz63_1
         try clear hfz63_2
         try clear hfz67_0
         try clear hfz67_1
         try clear hfz67_2
         try clear hfz67_3
         try clear hfz69_0
         try clear hfz69_1
         try clear hfz69_2
         try clear hfz71_0
         try clear hfz71_1
         try clear hfz71_2
         try clear hfz71_3
         try clear hfz72_0
         try clear hfz72_1
         try clear hfz72_2
         try clear hfz76_0
         try clear hfz76_1
         try clear hfz76_2
         try clear hfz76_3
         try clear hfz78_0
         try clear hfz78_1
         try clear hfz78_2
         try clear hfz89_0
         try clear hfz89_1
         try clear hfz89_2
         try clear hfz89_3
         try clear hfz91_0
         try clear hfz91_1
         try clear hfz91_2
         try clear hfz91_3
         try clear hfz93_0
         try clear hfz93_1
         try clear hfz93_2
         try clear hfz93_3
         try clear hfz94_0
         try clear hfz94_1
         try clear hfz94_2
         try clear hfz96_0
         try clear hfz96_1
         try clear hfz96_2
         try clear hfz96_3
         try clear hfz97_0
         try clear hfz97_1
         try clear hfz97_2
         try clear p2
         obtain ⟨kq, x55_80, rfl, HA, HJ80, BK174, BK175, BK176, HB⟩ := hcut
         cases kq with
         | zero => exact absurd HA.out (by simp [platbooklaw03_PrefixNests.j2])
         | succ kj80 =>
          have H := HA.out
          clear HA
          simp only [platbooklaw03_PrefixNests.j2] at H
          by_cases c114 : x55_80 = true
          ·
           subst c114
           rw [if_pos rfl] at H
           obtain rfl := Option.some.inj H
           exact absurd HRT.out (by decide)
          ·
           replace c114 := Bool.eq_false_iff.mpr c114
           subst c114
           have H1 : (if t178 = true then ((prefix_Has.f kj80 a0_0 a0_1 a0_2 a0_3 a1_0 a1_1 a1_2).bind fun t187 => (if t187 = true then (some true) else ((prefix_Has.f kj80 a1_0 a1_1 a1_2 a1_3 a0_0 a0_1 a0_2).bind fun t188 => (some t188)))) else (some true)) = some r := by rw [if_neg (show ¬ (false = true) by decide)] at H; exact H
           clear H
           have H := H1
           clear H1
           by_cases c115 : t178 = true
           ·
            subst c115
            rw [if_pos rfl] at H
            replace H := Option.bind_eq_some_iff.mp H
            obtain ⟨t187, A1160, H⟩ := H
            replace H : (if t187 = true then (some true) else ((prefix_Has.f kj80 a1_0 a1_1 a1_2 a1_3 a0_0 a0_1 a0_2).bind fun t188 => (some t188))) = some r := H
            have A116 := Aside0.mk A1160
            clear A1160
            by_cases c117 : t187 = true
            ·
             subst c117
             rw [if_pos rfl] at H
             obtain rfl := Option.some.inj H
             have hnb118 := NB174_175.out
             have hnc118 := NB175_174.out
             have hnb119 := NB174_176.out
             have hnc119 := NB176_174.out
             obtain ⟨hcz120_0, hcz120_1, hcz120_2, hcz120_3, hfz120_0, hfz120_1, hfz120_2, hfz120_3⟩ := c4_ BK174
             have hnb121 := NB175_176.out
             have hnc121 := NB176_175.out
             obtain ⟨hcz122_0, hcz122_1, hcz122_2, hcz122_3, hfz122_0, hfz122_1, hfz122_2, hfz122_3⟩ := c4_ BK175
             go_wp2_with (first | (go_at_call 23; (with_reducible refine (prefix_Has.calls kj80 a0_0 a0_1 a0_2 a0_3 a1_0 a1_1 a1_2 true _ A116.out).mono ?_); rintro e w123 ⟨rfl, hb⟩; replace BK174 := bb_ BK174 hb; replace BK175 := bb_ BK175 hb; replace BK176 := bb_ BK176 hb; replace HB := bs_ HB hb; (try clear hb); (try clear hb2); (try clear hk); (try clear hi)))
             go_ret
             exact ⟨by first | rfl | (simp [errW_none, errW_some] <;> rfl) | (simp [*, errW_none, errW_some] <;> rfl), pb_ HB⟩
            ·
             replace c117 := Bool.eq_false_iff.mpr c117
             subst c117
             have H1 : ((prefix_Has.f kj80 a1_0 a1_1 a1_2 a1_3 a0_0 a0_1 a0_2).bind fun t188 => (some t188)) = some r := by rw [if_neg (show ¬ (false = true) by decide)] at H; exact H
             clear H
             have H := H1
             clear H1
             replace H := Option.bind_eq_some_iff.mp H
             obtain ⟨t188, A1240, H⟩ := H
             replace H : (some t188) = some r := H
             have A124 := Aside0.mk A1240
             clear A1240
             obtain rfl := Option.some.inj H
             have hnb125 := NB174_175.out
             have hnc125 := NB175_174.out
             have hnb126 := NB174_176.out
             have hnc126 := NB176_174.out
             obtain ⟨hcz127_0, hcz127_1, hcz127_2, hcz127_3, hfz127_0, hfz127_1, hfz127_2, hfz127_3⟩ := c4_ BK174
             have hnb128 := NB175_176.out
             have hnc128 := NB176_175.out
             obtain ⟨hcz129_0, hcz129_1, hcz129_2, hcz129_3, hfz129_0, hfz129_1, hfz129_2, hfz129_3⟩ := c4_ BK175
             go_wp2_with (first | (go_at_call 23; (with_reducible refine (prefix_Has.calls kj80 a0_0 a0_1 a0_2 a0_3 a1_0 a1_1 a1_2 false _ A116.out).mono ?_); rintro e w130 ⟨rfl, hb⟩; replace BK174 := bb_ BK174 hb; replace BK175 := bb_ BK175 hb; replace BK176 := bb_ BK176 hb; replace HB := bs_ HB hb; (try clear hb); (try clear hb2); (try clear hk); (try clear hi); obtain ⟨hcz131_0, hcz131_1, hcz131_2, hcz131_3, hfz131_0, hfz131_1, hfz131_2, hfz131_3⟩ := c4_ BK175; obtain ⟨hcz132_0, hcz132_1, hcz132_2, hcz132_3, hfz132_0, hfz132_1, hfz132_2, hfz132_3⟩ := c4_ BK174) | (go_at_call 23; (with_reducible refine (prefix_Has.calls kj80 a1_0 a1_1 a1_2 a1_3 a0_0 a0_1 a0_2 t188 _ A124.out).mono ?_); rintro e w133 ⟨rfl, hb⟩; replace BK174 := bb_ BK174 hb; replace BK175 := bb_ BK175 hb; replace BK176 := bb_ BK176 hb; replace HB := bs_ HB hb; (try clear hb); (try clear hb2); (try clear hk); (try clear hi)))
             go_ret
             exact ⟨by first | rfl | (simp [errW_none, errW_some] <;> rfl) | (simp [*, errW_none, errW_some] <;> rfl), pb_ HB⟩
           ·
            replace c115 := Bool.eq_false_iff.mpr c115
            subst c115
            have H1 : (some true) = some r := by rw [if_neg (show ¬ (false = true) by decide)] at H; exact H
            clear H
            have H := H1
            clear H1
            obtain rfl := Option.some.inj H
            go_wp2
            go_ret
            exact ⟨by first | rfl | (simp [errW_none, errW_some] <;> rfl) | (simp [*, errW_none, errW_some] <;> rfl), pb_ HB⟩
 ·
  replace c5 := Bool.eq_false_iff.mpr c5
  subst c5
  have H1 : (some false) = some r := by rw [if_neg (show ¬ (false = true) by decide)] at H; exact H
  clear H
  have H := H1
  clear H1
  obtain rfl := Option.some.inj H
  exact absurd HRT.out (by decide)

end Go.Proofs.YtgdgklibilddgaaDoor.PPr

namespace Go.Proofs.YtgdgklibilddgaaDoor
open Go.RowKit Go.Proofs.YtgdgklibilddgaaDoorW.PrintWords Go.Proofs.YtgdgklibilddgaaDoor.PPr

/-- as a rewriting step, not by computation -/
theorem bsome {α β : Type} (x : α) (f : α → Option β) : (some x).bind f = f x := by
  have h : ∀ y : Option α, y = some x → y.bind f = f x := by intro y hy; subst hy; rfl
  exact h _ rfl
theorem aright_hl (v : Bool) {n : Nat} (hn : n < 340282366920938463463374607431768211456) : addr_Right.f v (hi n) (lo n) = some (rightB v n) := by
  unfold addr_Right.f; rw [if_pos (okW_hl n), num_hi_lo hn]
theorem awidth_hl (v : Bool) (n : Nat) : addr_Width.f v (hi n) (lo n) = some ((widthN v : Nat) : Int) := by
  unfold addr_Width.f; rw [if_pos (okW_hl n)]
theorem pright_hl (v : Bool) {n : Nat} (b : Int) (hn : n < 340282366920938463463374607431768211456) : prefix_Right.f v (hi n) (lo n) b = some (rightP v n b) := by
  unfold prefix_Right.f; rw [if_pos (okW_hl n), num_hi_lo hn]
theorem free_hl (v : Bool) (n : Nat) {b : Int} (h0 : 0 ≤ b) (h1 : b ≤ (widthN v : Int)) : prefix_free.f v (hi n) (lo n) b = some (hi (2 ^ fr v b - 1), lo (2 ^ fr v b - 1)) := by
  unfold prefix_free.f; rw [okW_hl, decide_eq_true h0, decide_eq_true h1]; rfl
theorem not_hl {n : Nat} (hn : n < 340282366920938463463374607431768211456) : num_Not.f (hi n) (lo n) = some (hi (notN n), lo (notN n)) := by
  unfold num_Not.f; rw [if_pos (okW_hl n), num_hi_lo hn]
theorem and_hl {n m : Nat} (hn : n < 340282366920938463463374607431768211456) (hm : m < 340282366920938463463374607431768211456) : num_And.f (hi n) (lo n) (hi m) (lo m) = some (hi (n &&& m), lo (n &&& m)) := by
  unfold num_And.f; rw [okW_hl, okW_hl, num_hi_lo hn, num_hi_lo hm]; rfl
theorem hl_eq {a b : Nat} (ha : a < 340282366920938463463374607431768211456) (hb : b < 340282366920938463463374607431768211456) : (hi a == hi b && lo a == lo b) = (a == b) := by
  rw [Bool.eq_iff_iff]; simp only [Bool.and_eq_true, beq_iff_eq]; exact hi_lo_eq ha hb
theorem rightP_iff {v : Bool} {n : Nat} {b : Int} : rightP v n b = true ↔ n < 2 ^ widthN v ∧ 0 ≤ b ∧ b ≤ (widthN v : Int) ∧ n % 2 ^ fr v b = 0 := by
  unfold rightP rightB; simp
theorem rightB_iff {v : Bool} {n : Nat} : rightB v n = true ↔ n < 2 ^ widthN v := by unfold rightB; simp
theorem top_lt {f n : Nat} (hn : n < 340282366920938463463374607431768211456) : topN f n < 340282366920938463463374607431768211456 := Nat.lt_of_le_of_lt (topN_le f n) hn
def ofS (v : Bool) (n : Nat) (b : Int) : Bool × Nat × Int × Int := if rightB v n = true ∧ 0 ≤ b ∧ b ≤ (widthN v : Int) then (v, topN (fr v b) n, b, 0) else (false, 0, 0, 1)
def tup5 (x : Bool × Nat × Int × Int) : Bool × Int × Int × Int × Int := (x.1, hi x.2.1, lo x.2.1, x.2.2.1, x.2.2.2)
theorem fr_lt (v : Bool) (b : Int) : 2 ^ fr v b - 1 < 340282366920938463463374607431768211456 := pow_fr v b
theorem of_f (K : Nat) (hK : 1 ≤ K) (v : Bool) (n : Nat) (b : Int) (hn : n < 340282366920938463463374607431768211456) : prefix_Of.f K v (hi n) (lo n) b = some (tup5 (ofS v n b)) := by
  obtain ⟨k, rfl⟩ : ∃ k, K = k + 1 := ⟨K - 1, by omega⟩
  unfold prefix_Of.f ofS
  rw [aright_hl v hn]
  simp only [bsome]
  cases hr : rightB v n
  · rw [if_neg (by simp), if_neg (by simp), prefix_Of.j0, if_pos rfl]; rfl
  · rw [if_pos rfl]
    by_cases h0 : b < 0
    · rw [if_pos h0, if_neg (by omega), prefix_Of.j0, if_pos rfl]; rfl
    · rw [if_neg h0, awidth_hl]
      simp only [bsome]
      by_cases h1 : b ≤ (widthN v : Int)
      · rw [if_pos ⟨trivial, by omega, h1⟩, prefix_Of.j0, if_neg (by simp; omega), free_hl v n (by omega) h1]
        simp only [bsome]
        have hf := fr_lt v b
        have hnn : notN (2 ^ fr v b - 1) < 340282366920938463463374607431768211456 := by unfold notN; omega
        rw [not_hl hf]
        simp only [bsome]
        rw [and_hl hn hnn]
        have e : n &&& notN (2 ^ fr v b - 1) = topN (fr v b) n := by
          have := and_not (n := n) (f := fr v b) (k := 128) (fr_le v b) (by rw [show (2 : Nat) ^ 128 = 340282366920938463463374607431768211456 by decide]; exact hn)
          rw [← this]; unfold notN
          rw [show (340282366920938463463374607431768211455 : Nat) = 2 ^ 128 - 1 by decide]
        rw [e]
        simp only [tup5, bsome]
      · rw [if_neg (by simp only [true_and]; omega), prefix_Of.j0, if_pos (by simp; omega)]; rfl
def hasS (v : Bool) (n : Nat) (b : Int) (u : Bool) (m : Nat) : Bool := rightP v n b && (rightB u m && (u == v && topN (fr v b) m == n))
theorem has_f (K : Nat) (hK : 1 ≤ K) (v : Bool) (n : Nat) (b : Int) (u : Bool) (m : Nat) (hn : n < 340282366920938463463374607431768211456) (hm : m < 340282366920938463463374607431768211456) : prefix_Has.f K v (hi n) (lo n) b u (hi m) (lo m) = some (hasS v n b u m) := by
  unfold prefix_Has.f hasS
  rw [pright_hl v b hn, aright_hl u hm, of_f K hK u m b hm]
  simp only [bsome]
  cases h : rightP v n b
  · rfl
  · cases hu : rightB u m
    · rfl
    · rw [if_pos rfl, if_pos rfl]
      by_cases huv : u = v
      · subst huv
        obtain ⟨h1, h2, h3, h4⟩ := rightP_iff.1 h
        rw [if_neg (by simp)]
        unfold ofS
        rw [if_pos ⟨hu, h2, h3⟩]
        simp only [tup5]
        rw [hl_eq (top_lt hm) hn]
        simp
      · rw [if_pos (by simpa using huv)]
        simp [huv]
def withinS (v : Bool) (n : Nat) (b : Int) (u : Bool) (m : Nat) (c : Int) : Bool := rightP v n b && (rightP u m c && (decide (c ≤ b) && hasS u m c v n))
def overlapS (v : Bool) (n : Nat) (b : Int) (u : Bool) (m : Nat) (c : Int) : Bool := withinS v n b u m c || withinS u m c v n b
theorem within_f (K : Nat) (hK : 1 ≤ K) (v : Bool) (n : Nat) (b : Int) (u : Bool) (m : Nat) (c : Int) (hn : n < 340282366920938463463374607431768211456) (hm : m < 340282366920938463463374607431768211456) : prefix_Within.f K v (hi n) (lo n) b u (hi m) (lo m) c = some (withinS v n b u m c) := by
  unfold prefix_Within.f withinS
  rw [pright_hl v b hn, pright_hl u c hm, has_f K hK u m c v n hm hn]
  simp only [bsome]
  cases rightP v n b
  · rfl
  · cases rightP u m c
    · rfl
    · rw [if_pos rfl, if_pos rfl]
      by_cases h : c ≤ b
      · rw [if_pos h, decide_eq_true h]; rfl
      · rw [if_neg h, decide_eq_false h]; rfl
theorem overlap_f (K : Nat) (hK : 1 ≤ K) (v : Bool) (n : Nat) (b : Int) (u : Bool) (m : Nat) (c : Int) (hn : n < 340282366920938463463374607431768211456) (hm : m < 340282366920938463463374607431768211456) : prefix_Overlap.f K v (hi n) (lo n) b u (hi m) (lo m) c = some (overlapS v n b u m c) := by
  unfold prefix_Overlap.f overlapS
  rw [within_f K hK v n b u m c hn hm, within_f K hK u m c v n b hm hn]
  simp only [bsome]
  cases withinS v n b u m c <;> rfl
theorem div_mono {a x y f g : Nat} (h : x / 2 ^ f = y / 2 ^ f) (hfg : f ≤ g) : x / 2 ^ g = y / 2 ^ g := by
  have e : 2 ^ g = 2 ^ f * 2 ^ (g - f) := by rw [← Nat.pow_add]; congr 1; omega
  rw [e, ← Nat.div_div_eq_div_mul, ← Nat.div_div_eq_div_mul, h]
theorem hasS_right {v : Bool} {n : Nat} {b : Int} {u : Bool} {m : Nat} (h : hasS v n b u m = true) : rightP v n b = true ∧ rightB u m = true ∧ u = v ∧ m / 2 ^ fr v b = n / 2 ^ fr v b := by
  unfold hasS at h
  simp only [Bool.and_eq_true, beq_iff_eq] at h
  obtain ⟨h1, h2, h3, h4⟩ := h
  exact ⟨h1, h2, h3, (topN_iff (rightP_iff.1 h1).2.2.2).1 h4⟩
theorem hasS_mk {v : Bool} {n : Nat} {b : Int} {m : Nat} (h1 : rightP v n b = true) (h2 : rightB v m = true) (h : m / 2 ^ fr v b = n / 2 ^ fr v b) : hasS v n b v m = true := by
  unfold hasS
  rw [h1, h2]
  simp only [Bool.true_and, beq_self_eq_true, beq_iff_eq]
  exact (topN_iff (rightP_iff.1 h1).2.2.2).2 h
theorem rightP_B {v : Bool} {n : Nat} {b : Int} (h : rightP v n b = true) : rightB v n = true := rightB_iff.2 (rightP_iff.1 h).1
end Go.Proofs.YtgdgklibilddgaaDoor

namespace Go.Proofs.YtgdgklibilddgaaDoor
open Go.RowKit Go.Proofs.YtgdgklibilddgaaDoorW.PrintWords Go.Proofs.YtgdgklibilddgaaDoor.PPr

theorem awake03_f : platbooklaw03_awake.f = some true := by decide +kernel
theorem overlapS_comm (v : Bool) (n : Nat) (b : Int) (u : Bool) (m : Nat) (c : Int) : overlapS v n b u m c = overlapS u m c v n b := by
  unfold overlapS; exact Bool.or_comm _ _
theorem within_iff {v : Bool} {n : Nat} {b : Int} {u : Bool} {m : Nat} {c : Int} : withinS v n b u m c = true ↔ rightP v n b = true ∧ rightP u m c = true ∧ c ≤ b ∧ hasS u m c v n = true := by
  unfold withinS; simp [Bool.and_eq_true]
/-- an address that lies in a narrower one lies in the wider one -/
theorem within_has {v : Bool} {n : Nat} {b : Int} {u : Bool} {m : Nat} {c : Int} {t : Bool} {x : Nat} (h : withinS v n b u m c = true) (hx : hasS v n b t x = true) : hasS u m c t x = true := by
  obtain ⟨h1, h2, h3, h4⟩ := within_iff.1 h
  obtain ⟨_, hb, rfl, h5⟩ := hasS_right hx
  obtain ⟨_, _, rfl, h6⟩ := hasS_right h4
  refine hasS_mk h2 hb ?_
  have hfr : fr t b ≤ fr t c := by unfold fr; omega
  rw [← h6]
  exact div_mono (a := 0) h5 hfr
/-- two that have an address in common overlap -/
theorem both_overlap {v : Bool} {n : Nat} {b : Int} {u : Bool} {m : Nat} {c : Int} {t : Bool} {x : Nat} (hp : hasS v n b t x = true) (hq : hasS u m c t x = true) : overlapS v n b u m c = true := by
  obtain ⟨p1, pb, rfl, p2⟩ := hasS_right hp
  obtain ⟨q1, qb, rfl, q2⟩ := hasS_right hq
  unfold overlapS
  rw [Bool.or_eq_true]
  by_cases h : c ≤ b
  · refine .inl (within_iff.2 ⟨p1, q1, h, hasS_mk q1 (rightP_B p1) ?_⟩)
    have hfr : fr t b ≤ fr t c := by unfold fr; omega
    rw [← q2]
    exact (div_mono (a := 0) p2 hfr).symm
  · refine .inr (within_iff.2 ⟨q1, p1, by omega, hasS_mk p1 (rightP_B q1) ?_⟩)
    have hfr : fr t c ≤ fr t b := by unfold fr; omega
    rw [← p2]
    exact (div_mono (a := 0) q2 hfr).symm
theorem overlap_heads {v : Bool} {n : Nat} {b : Int} {u : Bool} {m : Nat} {c : Int} (h : overlapS v n b u m c = true) (h1 : hasS v n b u m = false) : hasS u m c v n = true := by
  unfold overlapS at h
  rw [Bool.or_eq_true] at h
  rcases h with h | h
  · exact (within_iff.1 h).2.2.2
  · rw [(within_iff.1 h).2.2.2] at h1; cases h1
theorem prefixNests_f (v : Bool) (n : Nat) (b : Int) (u : Bool) (m : Nat) (c : Int) (t : Bool) (x : Nat) (hn : n < 340282366920938463463374607431768211456) (hm : m < 340282366920938463463374607431768211456) (hx : x < 340282366920938463463374607431768211456) :
    platbooklaw03_PrefixNests.f 1000 v (hi n) (lo n) b u (hi m) (lo m) c t (hi x) (lo x) = some true := by
  have key2 : platbooklaw03_PrefixNests.j2 998 (overlapS v n b u m c) false v (hi n) (lo n) b u (hi m) (lo m) c = some true := by
    rw [show 998 = 997 + 1 from rfl, platbooklaw03_PrefixNests.j2, has_f 997 (by omega) v n b u m hn hm, has_f 997 (by omega) u m c v n hm hn]
    simp only [bsome, Bool.false_eq_true, if_false]
    cases h : overlapS v n b u m c
    · rfl
    · rw [if_pos rfl]
      cases h1 : hasS v n b u m
      · rw [overlap_heads h h1]; rfl
      · rfl
  have key1 : platbooklaw03_PrefixNests.j1 999 (overlapS v n b u m c) false v (hi n) (lo n) b u (hi m) (lo m) c t (hi x) (lo x) = some true := by
    rw [show 999 = 998 + 1 from rfl, platbooklaw03_PrefixNests.j1, within_f 998 (by omega) v n b u m c hn hm, has_f 998 (by omega) v n b t x hn hx, has_f 998 (by omega) u m c t x hm hx]
    simp only [bsome, Bool.false_eq_true, if_false]
    cases h : withinS v n b u m c
    · rw [if_neg (by decide)]; exact key2
    · rw [if_pos rfl]
      cases h1 : hasS v n b t x
      · rw [if_neg (by decide)]; exact key2
      · rw [if_pos rfl, within_has h h1]; exact key2
  have key0 : platbooklaw03_PrefixNests.j0 1000 (overlapS v n b u m c) false v (hi n) (lo n) b u (hi m) (lo m) c t (hi x) (lo x) = some true := by
    rw [show 1000 = 999 + 1 from rfl, platbooklaw03_PrefixNests.j0, has_f 999 (by omega) v n b t x hn hx, has_f 999 (by omega) u m c t x hm hx]
    simp only [bsome, Bool.false_eq_true, if_false]
    cases h : hasS v n b t x
    · rw [if_neg (by decide)]; exact key1
    · rw [if_pos rfl]
      cases h1 : hasS u m c t x
      · rw [if_neg (by decide)]; exact key1
      · rw [if_pos rfl]
        rw [both_overlap h h1] at key1 ⊢
        exact key1
  unfold platbooklaw03_PrefixNests.f
  rw [awake03_f, overlap_f 1000 (by omega) v n b u m c hn hm, overlap_f 1000 (by omega) u m c v n b hm hn, within_f 1000 (by omega) v n b u m c hn hm, within_f 1000 (by omega) u m c v n b hm hn]
  simp only [bsome, if_true]
  rw [overlapS_comm u m c v n b, if_neg (by cases overlapS v n b u m c <;> decide)]
  cases h : withinS v n b u m c
  · rw [if_neg (by decide)]
    have e : overlapS v n b u m c = withinS u m c v n b := by unfold overlapS; rw [h, Bool.false_or]
    rw [← e, show (overlapS v n b u m c != overlapS v n b u m c) = false by cases overlapS v n b u m c <;> rfl]
    exact key0
  · rw [if_pos rfl]
    have e : overlapS v n b u m c = true := by unfold overlapS; rw [h, Bool.true_or]
    rw [e] at key0 ⊢
    exact key0
theorem prefixNests_walk (v : Bool) (n : Nat) (b : Int) (u : Bool) (m : Nat) (c : Int) (t : Bool) (x : Nat) (w : World) (hn : n < 340282366920938463463374607431768211456) (_ : (Lit.int .i64 b).wf = true) (hm : m < 340282366920938463463374607431768211456) (_ : (Lit.int .i64 c).wf = true) (hx : x < 340282366920938463463374607431768211456) (hG : Glob w) :
    Calls Tryd.prog 7 #[PfxV v n b, PfxV u m c, AddrV t x] w fun e w' => e = .returned (.bool true) ∧ Below w.heap.size w w' :=
  platbooklaw03_PrefixNests.calls 1000 v (hi n) (lo n) b u (hi m) (lo m) c t (hi x) (lo x) true w hG rfl (prefixNests_f v n b u m c t x hn hm hx)
end Go.Proofs.YtgdgklibilddgaaDoor

namespace Go.Proofs.YtgdgklibilddgaaDoor
open Go.ChangeShapes Go.WideShapes Go.ChangeAt Go.RowKit

section
variable {H : Type} {enc : TypeId × Value → H} {P : Program}
theorem post_below {f : Func} {s : ChangeSpec} {apart fresh handsOn again : Bool} {W W' : World} {args : Array Value} {v : Value} {ds gs : List (DataW H)} {before pa pv : List MemPlace}
    (hW : DataW.Whole enc P f.params.toList s.vars apart W args.toList ds gs before)
    (hres : ∀ (b : Nat) (sp : Nat → Bool) (hd : Bool), DataW.TrodAll enc P W' b sp hd f.resultTypes.toList (v.resultList f.resultTypes.size) (s.fn H (ds ++ gs)).results [])
    (hargs : ∀ sp : Nat → Bool, (∀ p ∈ before, sp p.block = true) → DataW.TrodAll enc P W' 0 sp true f.params.toList args.toList (s.fn H (ds ++ gs)).args pa)
    (hvars : ∀ sp : Nat → Bool, (∀ p ∈ before, sp p.block = true) → DataW.TrodVars enc P W' sp s.vars (s.fn H (ds ++ gs)).vars pv)
    (hps : before = pa ++ pv) (hb : Below W.heap.size W W')
    (hok : ∀ (j : Nat) (t : TypeId) (r : Value), f.resultTypes[j]? = some t → (v.resultList f.resultTypes.size)[j]? = some r → Value.okWide P W' .any 0 t r) :
    s.post enc P f apart fresh handsOn again W args v W' := by
  have hlt : ∀ p ∈ before, p.block < W.heap.size := fun p hp => hW.lt p hp
  have hold : ∀ p ∈ before, (fun b => decide (b < W.heap.size)) p.block = true := fun p hp => by simpa using hlt p hp
  refine ⟨ds, gs, before, [], pa, pv, hW, hres _ _ _, hargs _ hold, hvars _ hold, World.keptBut_mono (fun p hp => ⟨hp, ?_⟩) (hb.frame (· ∈ before)), fun _ => ?_⟩
  · rw [hps, List.mem_append] at hp
    exact Or.inr hp
  · obtain ⟨_, _, _, _, _, hz, hn⟩ := hW
    refine ⟨hok, _, _, ([] ++ pa) ++ pv, ⟨[] ++ pa, pv, trodAll_append (hargs _ (fun _ _ => rfl)) (hres _ _ _), hvars _ (fun _ _ => rfl), rfl, ?_, ?_⟩, ?_⟩
    · intro b off hp
      have hin : MemPlace.cell b off ∈ before := by rw [hps]; simpa using hp
      rw [hb.frozen (hlt _ hin)]
      exact hz b off hin
    · intro ha
      have := hn ha
      rw [hps] at this
      simpa using this
    · intro p hp _
      rw [hps]
      simpa using hp
end

theorem Tryd.own : ownKnob Tryd.prog.godebug = none := by kernel_rfl
theorem u64_bd {n : Int} (h : (Lit.int .u64 n).wf = true) : 0 ≤ n ∧ n < 18446744073709551616 := by
  simp [Lit.wf, IntKind.min, IntKind.max, IntKind.bits, IntKind.signed] at h
  omega
end Go.Proofs.YtgdgklibilddgaaDoor

namespace Go.Proofs.YtgdgklibilddgaaDoor
open Go.RowKit

def listA : List (String × DataW Unit) := [("math/bits.deBruijn32tab", Rows.laid_math_bits_deBruijn32tab), ("math/bits.deBruijn64tab", Rows.laid_math_bits_deBruijn64tab), ("internal/strconv.uint64pow10", Rows.laid_internal_strconv_uint64pow10), ("unicode/utf8.acceptRanges", Rows.laid_unicode_utf8_acceptRanges), ("strconv.ErrRange", Rows.laid_strconv_ErrRange), ("strconv.ErrSyntax", Rows.laid_strconv_ErrSyntax), ("unicode/utf8.first", Rows.laid_unicode_utf8_first)]
theorem doorA_met (os : Os) (args : Array Value) : laidMetH Tryd.prog listA ((World.laidAll Tryd.prog os listA).forCall (fun _ _ => 0) ⟨#[], args, []⟩).memory := by
  rw [MakeChecks.laidMetH_plain _ _ _ (by kernel_rfl)]; exact laidMet_laidAll _ (by kernel_rfl) (by kernel_rfl)
def tabZ : List Int := Lib.deBruijn64tab.map Int.ofNat
theorem listA_tab : (Rows.laid_math_bits_deBruijn64tab : DataW Unit) = Lib.tabData .u8 tabZ := by kernel_rfl
theorem listA_pow : (Rows.laid_internal_strconv_uint64pow10 : DataW Unit) = Lib.tabData .u64 Lib.pow10Tab := by kernel_rfl
theorem err_star : "*" ++ "errors.errorString" = "*errors.errorString" := by decide
theorem err_name (u : TypeId) (h : Tryd.prog.typeName? 3 u = some "*errors.errorString") : u = 152 :=
  typeName_ptr_named (nm := "errors.errorString") (by rw [err_star]; kernel_rfl) (by kernel_rfl) (by decide) u (by rw [err_star]; exact h)
theorem glob_of {W : World} (h : laidMetH Tryd.prog listA W) (hs : W.ShapedOpen Tryd.prog) : Glob W := by
  rw [MakeChecks.laidMetH_plain _ _ _ (by kernel_rfl)] at h
  unfold listA at h
  have h2 := h.tail
  have h3 := h2.tail
  have h5 := h3.tail.tail
  have h6 := h5.tail
  rw [listA_tab] at h2
  rw [listA_pow] at h3
  refine ⟨?_, ?_, ?_, ?_, ?_⟩
  · exact cell_of_shapedOpen_int (g := 0) (t := 3) (zero := #[.int .i64 0]) hs (of_decide_eq_true (by kernel_rfl)) (by kernel_rfl) rfl (by kernel_rfl) (by kernel_rfl) Tryd.underlying3
  · obtain ⟨a, s, hv, _⟩ := laid_sentinel h6 (g := 2) (by kernel_rfl) (by kernel_rfl) Tryd.underlying93 err_name Tryd.underlying152 Tryd.underlying154 rfl rfl Tryd.underlying9 (by kernel_rfl) (by kernel_rfl)
    exact ⟨_, _, hv⟩
  · obtain ⟨a, s, hv, _⟩ := laid_sentinel h5 (g := 3) (by kernel_rfl) (by kernel_rfl) Tryd.underlying93 err_name Tryd.underlying152 Tryd.underlying154 rfl rfl Tryd.underlying9 (by kernel_rfl) (by kernel_rfl)
    exact ⟨_, _, hv⟩
  · exact Lib.tabIs_of_head (P := Tryd.prog) (g := 1) (t := 138) (e := 22) (n := 20) (by kernel_rfl) (by kernel_rfl) Tryd.underlying138 Tryd.underlying22 (by kernel_rfl) (by kernel_rfl) h3
  · have hT := Lib.tabIs_of_head (P := Tryd.prog) (g := 5) (t := 156) (e := 5) (n := 64) (by kernel_rfl) (by kernel_rfl) Tryd.underlying156 Tryd.underlying5 (by kernel_rfl) (by kernel_rfl) h2
    intro j hj
    have hc := hT.cell (g := 5) (by kernel_rfl) j (by unfold tabZ; rw [List.length_map, show Lib.deBruijn64tab.length = 64 by decide]; exact hj)
    rw [hc]
    have e : tabZ.getD j 0 = ((Lib.deBruijn64tab.getD j 0 : Nat) : Int) := by
      unfold tabZ
      simp only [List.getD_eq_getElem?_getD, List.getElem?_map]
      cases Lib.deBruijn64tab[j]? <;> rfl
    rw [e]
/-- the plain wrap with the row's condition and the start's shape -/
theorem lift_shaped {H : Type} {enc : TypeId × Value → H} {C : Checked} {os : Os} {f : FuncId} {fn : Func} {s : ChangeSpec} {X : World → Array Value → Prop}
    (hX : ∀ (w w' : World) (args : Array Value), w.heap = w'.heap → X w args → X w' args)
    (own : ownKnob C.prog.godebug = none) (started : os.Started) (noInit : C.prog.inits.idxOf? f = none) (hfn : C.prog.funcs[f]? = some fn)
    (witness : ∃ (w : World) (tape : Tape) (i : Input), w.os = os ∧ (w.forCall tape i).Shaped C.prog ∧ i.vars = [] ∧ Input.okWide C.prog (w.forCall tape i) .any w.heap.size f i ∧
      ((s.pre enc C.prog fn [] false (w.forCall tape i).memory i.args ∧ X (w.forCall tape i).memory i.args) ∧ sizedMet enc C.prog fn (OpenSpec.ofChange s) false (w.forCall tape i).memory i.args) ∧ ({} : Assume).holds C.prog (lone (Frame.enter C.prog f i.args .normal) [] (w.forCall tape i)))
    (contract : ∀ (W : World) (base : Nat) (args : Array Value) (ds gs : List (DataW H)) (before : List MemPlace),
      (∀ (j : Nat) t v, fn.params[j]? = some t → args[j]? = some v → Value.okWide C.prog W .any base t v) →
      DataW.Whole enc C.prog fn.params.toList s.vars false W args.toList ds gs before → X W args → W.ShapedOpen C.prog →
      Calls C.prog f args W fun e W' => ∃ v, e = .returned v ∧ s.post enc C.prog fn false true false false W args v W') :
    ReturnsInHanded {} C os f .any (fun w args => (s.pre enc C.prog fn [] false w args ∧ X w args) ∧ sizedMet enc C.prog fn (OpenSpec.ofChange s) false w args) (s.post enc C.prog fn false true false false) := by
  refine returnsInHanded_of_calls own started noInit witness ?_
  intro w tape i _ hshape _ hok hpre _
  obtain ⟨_, _, _, fn2, hfn2, _, _, _, _, hval⟩ := hok
  obtain rfl : fn2 = fn := Option.some.inj (hfn2.symm.trans hfn)
  obtain ⟨⟨⟨ds, gs, before, hw, _⟩, hx⟩, _⟩ := hpre
  refine (contract (w.forCall tape i) w.heap.size i.args ds gs before hval (DataW.Whole.of_heap (w' := w.forCall tape i) (by rfl) hw) (hX _ _ _ (by rfl) hx) hshape).mono fun e W' ⟨v, he, hp⟩ => ?_
  subst he
  exact ChangeSpec.post_blind hp
end Go.Proofs.YtgdgklibilddgaaDoor

namespace Go.Proofs.YtgdgklibilddgaaDoor
open Go.ChangeShapes Go.WideShapes Go.ChangeAt Go.RowKit Go.Joins

theorem Tryd.cellsNum : Tryd.prog.cellsOf 24 = 2 := by kernel_rfl

end Go.Proofs.YtgdgklibilddgaaDoor

namespace Go.Proofs.YtgdgklibilddgaaDoor
open Go.ChangeShapes Go.WideShapes Go.ChangeAt Go.RowKit Go.Joins

set_option maxRecDepth 100000 in
theorem Tryd.cellsAddr : Tryd.prog.cellsOf 26 = 3 := by kernel_rfl
def numD {H : Type} (n : Nat) : DataW H := .agg [.lit (.int .u64 (hi n)), .lit (.int .u64 (lo n))]
def addrD {H : Type} (v : Bool) (n : Nat) : DataW H := .agg [.lit (.bool v), numD n]
/-- the number's words are in their bounds -/
def numOk (n : Nat) : Prop := (Lit.int .u64 (hi n)).wf = true ∧ (Lit.int .u64 (lo n)).wf = true

set_option maxRecDepth 100000 in
theorem trod_bool_form {H : Type} {enc : TypeId × Value → H} {P : Program} {w : World} {base : Nat} {sp : Nat → Bool} {held : Bool} {fuel : Nat} {t : TypeId} {c : Value} {x : DataW H × List MemPlace} (ht : P.underlying t = some .bool)
    (h : DataW.trod enc P w base sp held fuel t [c] = some x) : ∃ b, c = .bool b ∧ x = (.lit (.bool b), []) := by
  cases fuel with
  | zero => simp [DataW.trod] at h
  | succ fuel =>
    simp only [DataW.trod, ht] at h
    split at h
    · rename_i e1 e2
      simp at e2
      subst e2
      exact ⟨_, rfl, (Option.some.inj h).symm⟩
    all_goals first | (rename_i e1 _; cases e1; done) | (cases h; done) | skip
    all_goals simp_all
set_option maxRecDepth 100000 in
theorem trod_num_form {H : Type} {enc : TypeId × Value → H} {W : World} {base : Nat} {sp : Nat → Bool} {held : Bool} {fuel : Nat} {c0 c1 : Value} {x : DataW H × List MemPlace}
    (h : DataW.trod enc Tryd.prog W base sp held fuel 24 [c0, c1] = some x) : ∃ n : Nat, n < 340282366920938463463374607431768211456 ∧ c0 = .int .u64 (hi n) ∧ c1 = .int .u64 (lo n) ∧ x = (numD n, []) ∧ numOk n := by
  obtain ⟨y0, y1, m, rfl, _, h0, h1⟩ := trod_struct2 Tryd.underlying24 h
  have h0' : DataW.trod enc Tryd.prog W base sp held m 22 [c0] = some y0 := h0
  have h1' : DataW.trod enc Tryd.prog W base sp held m 22 [c1] = some y1 := h1
  obtain ⟨a, e0, rfl, wa⟩ := DataW.trod_int Tryd.underlying22 h0'
  obtain ⟨b, e1, rfl, wb⟩ := DataW.trod_int Tryd.underlying22 h1'
  simp at e0 e1
  subst e0 e1
  obtain ⟨a0, a1⟩ := u64_bd wa
  obtain ⟨b0', b1⟩ := u64_bd wb
  refine ⟨num a b, num_lt a1 b1, ?_, ?_, ?_, ?_, ?_⟩
  · rw [hi_num a0 a1 b0' b1]
  · rw [lo_num b0' b1]
  · unfold numD; rw [hi_num a0 a1 b0' b1, lo_num b0' b1]; rfl
  · rw [hi_num a0 a1 b0' b1]; exact wa
  · rw [lo_num b0' b1]; exact wb
set_option maxRecDepth 100000 in
theorem trod_num_mk {H : Type} {enc : TypeId × Value → H} {W : World} {base : Nat} {sp : Nat → Bool} {held : Bool} {n : Nat} (h : numOk n) : DataW.trod enc Tryd.prog W base sp held 2 24 [.int .u64 (hi n), .int .u64 (lo n)] = some (numD n, []) := by
  obtain ⟨wa, wb⟩ := h
  have := trod_struct2_mk (enc := enc) (w := W) (base := base) (spare := sp) (held := held) (n := 1) (cs := [.int .u64 (hi n), .int .u64 (lo n)]) (y0 := (.lit (.int .u64 (hi n)), [])) (y1 := (.lit (.int .u64 (lo n)), [])) Tryd.underlying24 Tryd.cellsNum.symm
    (by show DataW.trod enc Tryd.prog W base sp held 1 22 [.int .u64 (hi n)] = _; simp [DataW.trod, Tryd.underlying22, wa])
    (by show DataW.trod enc Tryd.prog W base sp held 1 22 [.int .u64 (lo n)] = _; simp [DataW.trod, Tryd.underlying22, wb])
  exact this
set_option maxRecDepth 100000 in
theorem trod_addr_form {H : Type} {enc : TypeId × Value → H} {W : World} {base : Nat} {sp : Nat → Bool} {held : Bool} {fuel : Nat} {c0 c1 c2 : Value} {x : DataW H × List MemPlace}
    (h : DataW.trod enc Tryd.prog W base sp held fuel 26 [c0, c1, c2] = some x) : ∃ (v : Bool) (n : Nat), n < 340282366920938463463374607431768211456 ∧ c0 = .bool v ∧ c1 = .int .u64 (hi n) ∧ c2 = .int .u64 (lo n) ∧ x = (addrD v n, []) ∧ numOk n := by
  obtain ⟨y0, y1, m, rfl, _, h0, h1⟩ := trod_struct2 Tryd.underlying26 h
  have h0' : DataW.trod enc Tryd.prog W base sp held m 4 [c0] = some y0 := h0
  have h1' : DataW.trod enc Tryd.prog W base sp held m 24 [c1, c2] = some y1 := h1
  obtain ⟨v, rfl, rfl⟩ := trod_bool_form Tryd.underlying4 h0'
  obtain ⟨n, hn, rfl, rfl, rfl, ho⟩ := trod_num_form h1'
  exact ⟨v, n, hn, rfl, rfl, rfl, rfl, ho⟩
set_option maxRecDepth 100000 in
theorem trod_addr_mk {H : Type} {enc : TypeId × Value → H} {W : World} {base : Nat} {sp : Nat → Bool} {held : Bool} {v : Bool} {n : Nat} (h : numOk n) : DataW.trod enc Tryd.prog W base sp held 3 26 [.bool v, .int .u64 (hi n), .int .u64 (lo n)] = some (addrD v n, []) := by
  have := trod_struct2_mk (enc := enc) (w := W) (base := base) (spare := sp) (held := held) (n := 2) (cs := [.bool v, .int .u64 (hi n), .int .u64 (lo n)]) (y0 := (.lit (.bool v), [])) (y1 := (numD n, [])) Tryd.underlying26 Tryd.cellsAddr.symm
    (by show DataW.trod enc Tryd.prog W base sp held 2 4 [.bool v] = _; simp [DataW.trod, Tryd.underlying4])
    (trod_num_mk h)
  exact this
set_option maxRecDepth 100000 in
/-- an address as an argument -/
theorem open_addr {H : Type} {enc : TypeId × Value → H} {W : World} {base b0 : Nat} {sp : Nat → Bool} {v : Value} {d : DataW H} {p : List MemPlace} {r : Reach}
    (hv : Value.okWide Tryd.prog W r b0 26 v) (h : DataW.Trod enc Tryd.prog W base sp true 26 v d p) :
    ∃ (u : Bool) (n : Nat), n < 340282366920938463463374607431768211456 ∧ v = AddrV u n ∧ d = addrD u n ∧ p = [] ∧ numOk n := by
  obtain ⟨cs, rfl, hsz⟩ := okWide_struct Tryd.underlying26 hv
  obtain ⟨c0, c1, c2, rfl⟩ := array3 (hsz.trans Tryd.cellsAddr)
  obtain ⟨fuel, hf⟩ := h
  obtain ⟨u, n, hn, rfl, rfl, rfl, e, ho⟩ := trod_addr_form hf
  simp only [Prod.mk.injEq] at e
  exact ⟨u, n, hn, rfl, e.1, e.2, ho⟩
set_option maxRecDepth 100000 in
theorem shut_addr {H : Type} {enc : TypeId × Value → H} {W : World} {base : Nat} {sp : Nat → Bool} {u : Bool} {n : Nat} (h : numOk n) :
    DataW.Trod enc Tryd.prog W base sp true 26 (AddrV u n) (addrD u n) [] := ⟨3, trod_addr_mk h⟩
end Go.Proofs.YtgdgklibilddgaaDoor

namespace Go.Proofs.YtgdgklibilddgaaDoor
open Go.ChangeShapes Go.WideShapes Go.ChangeAt Go.RowKit Go.Joins

set_option maxRecDepth 100000 in
theorem Tryd.cellsPfx : Tryd.prog.cellsOf 43 = 4 := by kernel_rfl
def pfxD {H : Type} (v : Bool) (n : Nat) (b : Int) : DataW H := .agg [addrD v n, .lit (.int .i64 b)]
def pfxOk (n : Nat) (b : Int) : Prop := numOk n ∧ (Lit.int .i64 b).wf = true
set_option maxRecDepth 100000 in
theorem trod_pfx_form {H : Type} {enc : TypeId × Value → H} {W : World} {base : Nat} {sp : Nat → Bool} {held : Bool} {fuel : Nat} {c0 c1 c2 c3 : Value} {x : DataW H × List MemPlace}
    (h : DataW.trod enc Tryd.prog W base sp held fuel 43 [c0, c1, c2, c3] = some x) : ∃ (v : Bool) (n : Nat) (b : Int), n < 340282366920938463463374607431768211456 ∧ c0 = .bool v ∧ c1 = .int .u64 (hi n) ∧ c2 = .int .u64 (lo n) ∧ c3 = .int .i64 b ∧ x = (pfxD v n b, []) ∧ pfxOk n b := by
  obtain ⟨y0, y1, m, rfl, _, h0, h1⟩ := trod_struct2 Tryd.underlying43 h
  have h0' : DataW.trod enc Tryd.prog W base sp held m 26 [c0, c1, c2] = some y0 := h0
  have h1' : DataW.trod enc Tryd.prog W base sp held m 3 [c3] = some y1 := h1
  obtain ⟨v, n, hn, rfl, rfl, rfl, rfl, ho⟩ := trod_addr_form h0'
  obtain ⟨b, e1, rfl, wb⟩ := DataW.trod_int Tryd.underlying3 h1'
  simp at e1
  subst e1
  exact ⟨v, n, b, hn, rfl, rfl, rfl, rfl, rfl, ho, wb⟩
set_option maxRecDepth 100000 in
theorem trod_pfx_mk {H : Type} {enc : TypeId × Value → H} {W : World} {base : Nat} {sp : Nat → Bool} {held : Bool} {v : Bool} {n : Nat} {b : Int} (h : pfxOk n b) : DataW.trod enc Tryd.prog W base sp held 4 43 [.bool v, .int .u64 (hi n), .int .u64 (lo n), .int .i64 b] = some (pfxD v n b, []) := by
  have wb := h.2
  have := trod_struct2_mk (enc := enc) (w := W) (base := base) (spare := sp) (held := held) (n := 3) (cs := [.bool v, .int .u64 (hi n), .int .u64 (lo n), .int .i64 b]) (y0 := (addrD v n, [])) (y1 := (.lit (.int .i64 b), [])) Tryd.underlying43 Tryd.cellsPfx.symm
    (trod_addr_mk h.1)
    (by show DataW.trod enc Tryd.prog W base sp held 3 3 [.int .i64 b] = _; simp [DataW.trod, Tryd.underlying3, wb])
  exact this
theorem arr4 {α : Type} {cs : Array α} (h : cs.size = 4) : ∃ c0 c1 c2 c3, cs = #[c0, c1, c2, c3] := by
  rcases cs with ⟨l⟩
  match l, h with
  | [a, b, c, d], _ => exact ⟨a, b, c, d, rfl⟩
set_option maxRecDepth 100000 in
/-- a prefix as an argument -/
theorem open_pfx {H : Type} {enc : TypeId × Value → H} {W : World} {base b0 : Nat} {sp : Nat → Bool} {v : Value} {d : DataW H} {p : List MemPlace} {r : Reach}
    (hv : Value.okWide Tryd.prog W r b0 43 v) (h : DataW.Trod enc Tryd.prog W base sp true 43 v d p) :
    ∃ (u : Bool) (n : Nat) (b : Int), n < 340282366920938463463374607431768211456 ∧ (Lit.int .i64 b).wf = true ∧ v = PfxV u n b ∧ d = pfxD u n b ∧ p = [] ∧ pfxOk n b := by
  obtain ⟨cs, rfl, hsz⟩ := okWide_struct Tryd.underlying43 hv
  obtain ⟨c0, c1, c2, c3, rfl⟩ := arr4 (hsz.trans Tryd.cellsPfx)
  obtain ⟨fuel, hf⟩ := h
  obtain ⟨u, n, b, hn, rfl, rfl, rfl, rfl, e, ho⟩ := trod_pfx_form hf
  simp only [Prod.mk.injEq] at e
  exact ⟨u, n, b, hn, ho.2, rfl, e.1, e.2, ho⟩
set_option maxRecDepth 100000 in
theorem shut_pfx {H : Type} {enc : TypeId × Value → H} {W : World} {base : Nat} {sp : Nat → Bool} {u : Bool} {n : Nat} {b : Int} (h : pfxOk n b) :
    DataW.Trod enc Tryd.prog W base sp true 43 (PfxV u n b) (pfxD u n b) [] := ⟨4, trod_pfx_mk h⟩
end Go.Proofs.YtgdgklibilddgaaDoor

namespace Go.Proofs.YtgdgklibilddgaaDoor
open Go.ChangeShapes Go.WideShapes Go.ChangeAt Go.RowKit
open Go.ChangeMaps (open_string shut_string)

set_option maxRecDepth 100000 in
theorem prefixNests_lifted (os : Os) (started : os.Started) (H : Type) (enc : TypeId × Value → H) :
    ReturnsInHanded {} Tryd.checked os 7 .any (fun w args => (Rows.prefixNestsSpec.pre enc Tryd.prog Tryd.f7 [] false w args ∧ laidMetH Tryd.prog listA w) ∧ sizedMet enc Tryd.prog Tryd.f7 (OpenSpec.ofChange Rows.prefixNestsSpec) false w args)
      (Rows.prefixNestsSpec.post enc Tryd.prog Tryd.f7 false true false false) := by
  refine lift_shaped (C := Tryd.checked) (X := fun w _ => laidMetH Tryd.prog listA w) (fun _ _ _ hh h => h.of_heap hh) Tryd.own started (by kernel_rfl) Tryd.func7
    (ChangeSpec.witness_shaped (enc := enc) (C := Tryd.checked) (os := os) (X := fun w _ => laidMetH Tryd.prog listA w) false (World.laidAll Tryd.prog os listA) #[.agg #[.bool false, .int .u64 0, .int .u64 0, .int .i64 0], .agg #[.bool false, .int .u64 0, .int .u64 0, .int .i64 0], .agg #[.bool false, .int .u64 0, .int .u64 0]] 8 (World.laidAll_os _ _ _) (World.shaped_of_ZipB (by kernel_rfl) (by kernel_rfl)) (by kernel_rfl) (by kernel_rfl) (by kernel_rfl) (doorA_met os _)) ?_
  intro W base args ds gs before hval0 hW hL hSh
  have hval : ∀ (j : Nat) t v, Tryd.f7.params[j]? = some t → args[j]? = some v → Value.okWide Tryd.prog W .any base t v := hval0
  have hW' := hW
  obtain ⟨p, q, hA0, hV, rfl, _, _⟩ := hW
  have hA : DataW.TrodAll enc Tryd.prog W 0 (fun _ => true) true Tryd.f7.params.toList args.toList ds p := hA0
  rw [Tryd.params7] at hA hval
  obtain ⟨v0, v1, v2, d0, d1, d2, p0, p1, p2, rfl, rfl, rfl, h0, h1, h2⟩ := trodAll_three hA
  obtain ⟨rfl, rfl⟩ := trodVars_none hV
  obtain ⟨u0, x0, b0, hx0, hb0, rfl, rfl, rfl, ho0⟩ := open_pfx (hval 0 43 v0 rfl rfl) h0
  obtain ⟨u1, x1, b1, hx1, hb1, rfl, rfl, rfl, ho1⟩ := open_pfx (hval 1 43 v1 rfl rfl) h1
  obtain ⟨u2, x2, hx2, rfl, rfl, rfl, ho2⟩ := open_addr (hval 2 26 v2 rfl rfl) h2
  clear hA0 hval0
  simp only [List.append_nil] at hW'
  refine (prefixNests_walk u0 x0 b0 u1 x1 b1 u2 x2 W hx0 hb0 hx1 hb1 hx2 (glob_of hL hSh)).mono fun e W' ⟨he, hw⟩ => ?_
  subst he
  exact ⟨_, rfl, post_below (pa := []) (pv := []) hW' (fun _ _ _ => trodAll_mk1 (shut_bool Tryd.underlying4 _)) (fun sp _ => trodAll_mk3 (shut_pfx ho0) (shut_pfx ho1) (shut_addr ho2)) (fun _ _ => rfl) rfl
    hw (ok_one (by kernel_rfl) rfl (okWide_bool_mk Tryd.underlying4 _))⟩

theorem prefixNests_row : Rows.PrefixNestsSaid :=
  OpenClaim.holds_of_wide 7 Tryd.f7 rfl rfl rfl rfl rfl rfl rfl ⟨rfl, rfl, rfl, rfl, rfl⟩ rfl rfl rfl rfl rfl (by kernel_rfl) Tryd.func7 (by kernel_rfl)
    (of_decide_eq_true (by kernel_rfl)) (by unfold Func.isWrapper; first | (rw [if_pos (by decide +kernel)]; kernel_rfl) | (rw [if_neg (by decide +kernel)]; exact ⟨rfl, rfl⟩))
    (fun os started H enc _ => prefixNests_lifted os started H enc)

theorem prefixNests_card : Rows.PrefixNestsCardSaid :=
  Claim7.holds_tied_plain_at .later [] [.data, .data, .data, .data, .sentinel, .sentinel, .pinned] true Rows.prefixNestsCard.stood.harness true
    prefixNests_row (fun _ h => by cases h) (by kernel_rfl) (fun _ h => by cases h) prefixNests_row_tie rfl ⟨rfl, rfl⟩ (by kernel_rfl) rfl
    (fun f fn hf hfn => by
      obtain rfl : f = 7 := Option.some.inj ((show Tryd.prog.funcNamed "platbook/platbooklaw03.PrefixNests" = some 7 by kernel_rfl).symm.trans hf) |>.symm
      obtain rfl : fn = Tryd.f7 := (Option.some.inj (Tryd.func7.symm.trans hfn)).symm
      exact ⟨by kernel_rfl, fun j t ht => by
        rw [Tryd.params7] at ht
        have hm : t ∈ [43, 43, 26] := by simpa using Array.mem_of_getElem? ht
        have hall : ([43, 43, 26].all fun u => !Tryd.prog.wantsStandIn u) = true := by kernel_rfl
        exact (show Tryd.prog.wantsStandIn t = false by simpa using List.all_eq_true.1 hall t hm)⟩)
    (by kernel_rfl)
end Go.Proofs.YtgdgklibilddgaaDoor

#print axioms Go.Proofs.YtgdgklibilddgaaDoor.prefixNests_card
