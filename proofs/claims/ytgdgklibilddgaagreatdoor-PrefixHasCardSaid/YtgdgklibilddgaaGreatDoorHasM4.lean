/-
PrefixHas: whether a prefix may be, its ends, which addresses it has, what lies within it and what overlaps it are what the reference tells: for every two prefixes, every address and every number of bits the call returns true. No condition; the listed variables are tied to the program's text.
-/
import Derived.ProofKit
import Derived.ChangeSame
import Derived.LaidMore
import Derived.Lay
import Derived.MakeChecks
import Derived.LaidByTextLater
import Derived.OpenShut
import Derived.Stop.Joined
import Derived.Stop.LaidErr
import Derived.Handed
import Derived.Shelf.Vars
import Derived.Lib.SmallJoins
import Derived.Carry
import Derived.SevenTiedAt
import Derived.ShutString
import Derived.Test.YtgdgklibilddgaaGreatDoorHasM3
import Derived.Test.YtgdgklibilddgaaGreatDoorRows
import Derived.Test.YtgdgklibilddgaaGreatDoorCards
import Derived.Test.YtgdgklibilddgaaGreatDoorTie
set_option linter.unusedVariables false
set_option linter.unusedSimpArgs false
namespace Go.Proofs.YtgdgklibilddgaaGreatDoor.PPr
open Go.RowKit Go.Proofs.YtgdgklibilddgaaGreatDoorW.PrintWords Go.Proofs.YtgdgklibilddgaaGreatDoorW.PrintLast Go.Proofs.YtgdgklibilddgaaGreatDoorW.PrintMore
attribute [local go_sem] max2_int min2_int max_two min_two max_three min_three max_four min_four   -- for this text's walks alone

attribute [local go_sem high] eqA26 eqA38
def platbookref03_Overlap.f (k : Nat) (a0_0 : Bool) (a0_1 : Int) (a0_2 : Int) (a0_3 : Int) (a1_0 : Bool) (a1_1 : Int) (a1_2 : Int) (a1_3 : Int) : Option (Bool) := (platbookref03_Right.f k a0_0 a0_1 a0_2 a0_3).bind fun t272 => (if t272 = true then ((platbookref03_Right.f k a1_0 a1_1 a1_2 a1_3).bind fun t273 => (if t273 = true then ((platbookref03_Has.f k a1_0 a1_1 a1_2 a1_3 a0_0 a0_1 a0_2).bind fun t274 => (if t274 = true then (some true) else ((platbookref03_Has.f k a0_0 a0_1 a0_2 a0_3 a1_0 a1_1 a1_2).bind fun t275 => (some t275)))) else (some false))) else (some false))
set_option maxHeartbeats 8000000 in
set_option maxRecDepth 100000 in
theorem platbookref03_Overlap.calls (k : Nat) (a0_0 : Bool) (a0_1 : Int) (a0_2 : Int) (a0_3 : Int) (a1_0 : Bool) (a1_1 : Int) (a1_2 : Int) (a1_3 : Int) (r : Bool) (w : World) (h : platbookref03_Overlap.f k a0_0 a0_1 a0_2 a0_3 a1_0 a1_1 a1_2 a1_3 = some r) :
  Calls Tryz.prog 44 #[.agg #[.bool a0_0, .int .u64 a0_1, .int .u64 a0_2, .int .i64 a0_3], .agg #[.bool a1_0, .int .u64 a1_1, .int .u64 a1_2, .int .i64 a1_3]] w fun e w' => e = .returned (.bool r) ∧ Below w.heap.size w w' := by
 have hu38 := Tryz.underlying38
 have hu26 := Tryz.underlying26
 have HB := Aside0.mk (Below.refl w.heap.size w)
 have H : ((platbookref03_Right.f k a0_0 a0_1 a0_2 a0_3).bind fun t272 => (if t272 = true then ((platbookref03_Right.f k a1_0 a1_1 a1_2 a1_3).bind fun t273 => (if t273 = true then ((platbookref03_Has.f k a1_0 a1_1 a1_2 a1_3 a0_0 a0_1 a0_2).bind fun t274 => (if t274 = true then (some true) else ((platbookref03_Has.f k a0_0 a0_1 a0_2 a0_3 a1_0 a1_1 a1_2).bind fun t275 => (some t275)))) else (some false))) else (some false))) = some r := h
 clear h
 replace H := Option.bind_eq_some_iff.mp H
 obtain ⟨t272, A30, H⟩ := H
 replace H : (if t272 = true then ((platbookref03_Right.f k a1_0 a1_1 a1_2 a1_3).bind fun t273 => (if t273 = true then ((platbookref03_Has.f k a1_0 a1_1 a1_2 a1_3 a0_0 a0_1 a0_2).bind fun t274 => (if t274 = true then (some true) else ((platbookref03_Has.f k a0_0 a0_1 a0_2 a0_3 a1_0 a1_1 a1_2).bind fun t275 => (some t275)))) else (some false))) else (some false)) = some r := H
 have A3 := Aside0.mk A30
 clear A30
 by_cases c4 : t272 = true
 ·
  subst c4
  rw [if_pos rfl] at H
  replace H := Option.bind_eq_some_iff.mp H
  obtain ⟨t273, A50, H⟩ := H
  replace H : (if t273 = true then ((platbookref03_Has.f k a1_0 a1_1 a1_2 a1_3 a0_0 a0_1 a0_2).bind fun t274 => (if t274 = true then (some true) else ((platbookref03_Has.f k a0_0 a0_1 a0_2 a0_3 a1_0 a1_1 a1_2).bind fun t275 => (some t275)))) else (some false)) = some r := H
  have A5 := Aside0.mk A50
  clear A50
  by_cases c6 : t273 = true
  ·
   subst c6
   rw [if_pos rfl] at H
   replace H := Option.bind_eq_some_iff.mp H
   obtain ⟨t274, A70, H⟩ := H
   replace H : (if t274 = true then (some true) else ((platbookref03_Has.f k a0_0 a0_1 a0_2 a0_3 a1_0 a1_1 a1_2).bind fun t275 => (some t275))) = some r := H
   have A7 := Aside0.mk A70
   clear A70
   by_cases c8 : t274 = true
   ·
    subst c8
    rw [if_pos rfl] at H
    obtain rfl := Option.some.inj H
    go_enter Tryz.func44, Tryz.ntmps44
    go_wp2_with (first | ((with_reducible refine gate_dst (N := 2) rfl ?_); refine bx_ 2 #[.bool a0_0, .int .u64 a0_1, .int .u64 a0_2, .int .i64 a0_3] 38 ?_; intro gb270 hg w9 hbox hb; have BK270 := Aside0.mk (hbox); have GW270 := gw_ HB hg; have GE270 := gw_ HB hg; replace HB := bs_ HB hb; clear hb hbox hg) | ((with_reducible refine gate_dst (N := 3) rfl ?_); refine bx_ 3 #[.bool a1_0, .int .u64 a1_1, .int .u64 a1_2, .int .i64 a1_3] 38 ?_; intro gb271 hg w10 hbox hb; have BK271 := Aside0.mk (hbox); have GW271 := gw_ HB hg; have GE271 := gw_ HB hg; have NB270_271 := nl_ BK270 hg; have NB271_270 := ng_ BK270 hg; replace BK270 := bb_ BK270 hb; replace HB := bs_ HB hb; clear hb hbox hg; have hnb11 := NB270_271.out; have hnc11 := NB271_270.out; obtain ⟨hcz12_0, hcz12_1, hcz12_2, hcz12_3, hfz12_0, hfz12_1, hfz12_2, hfz12_3⟩ := c4_ BK270) | ((with_reducible refine gate_callee (f := 29) rfl ?_); refine gl_ (some 6) Tryz.func29 #[.agg #[.bool a0_0, .int .u64 a0_1, .int .u64 a0_2, .int .i64 a0_3]] ?_; (with_reducible refine (platbookref03_Right.calls k a0_0 a0_1 a0_2 a0_3 true _ A3.out).mono ?_); rintro e w13 ⟨rfl, hb⟩; refine ⟨_, rfl, ?_⟩; replace BK270 := bb_ BK270 hb; replace BK271 := bb_ BK271 hb; replace HB := bs_ HB hb; (try clear hb); (try clear hb2); (try clear hk); (try clear hi); obtain ⟨hcz14_0, hcz14_1, hcz14_2, hcz14_3, hfz14_0, hfz14_1, hfz14_2, hfz14_3⟩ := c4_ BK271) | (go_at_call 29; (with_reducible refine (platbookref03_Right.calls k a1_0 a1_1 a1_2 a1_3 true _ A5.out).mono ?_); rintro e w15 ⟨rfl, hb⟩; replace BK270 := bb_ BK270 hb; replace BK271 := bb_ BK271 hb; replace HB := bs_ HB hb; (try clear hb); (try clear hb2); (try clear hk); (try clear hi); obtain ⟨hcz16_0, hcz16_1, hcz16_2, hcz16_3, hfz16_0, hfz16_1, hfz16_2, hfz16_3⟩ := c4_ BK271; obtain ⟨hcz17_0, hcz17_1, hcz17_2, hcz17_3, hfz17_0, hfz17_1, hfz17_2, hfz17_3⟩ := c4_ BK270) | (go_at_call 41; (with_reducible refine (platbookref03_Has.calls k a1_0 a1_1 a1_2 a1_3 a0_0 a0_1 a0_2 true _ A7.out).mono ?_); rintro e w18 ⟨rfl, hb⟩; replace BK270 := bb_ BK270 hb; replace BK271 := bb_ BK271 hb; replace HB := bs_ HB hb; (try clear hb); (try clear hb2); (try clear hk); (try clear hi)))
    go_ret
    exact ⟨by first | rfl | (simp [errW_none, errW_some] <;> rfl) | (simp [*, errW_none, errW_some] <;> rfl), pb_ HB⟩
   ·
    replace c8 := Bool.eq_false_iff.mpr c8
    subst c8
    have H1 : ((platbookref03_Has.f k a0_0 a0_1 a0_2 a0_3 a1_0 a1_1 a1_2).bind fun t275 => (some t275)) = some r := by rw [if_neg (show ¬ (false = true) by decide)] at H; exact H
    clear H
    have H := H1
    clear H1
    replace H := Option.bind_eq_some_iff.mp H
    obtain ⟨t275, A190, H⟩ := H
    replace H : (some t275) = some r := H
    have A19 := Aside0.mk A190
    clear A190
    obtain rfl := Option.some.inj H
    go_enter Tryz.func44, Tryz.ntmps44
    go_wp2_with (first | ((with_reducible refine gate_dst (N := 2) rfl ?_); refine bx_ 2 #[.bool a0_0, .int .u64 a0_1, .int .u64 a0_2, .int .i64 a0_3] 38 ?_; intro gb270 hg w20 hbox hb; have BK270 := Aside0.mk (hbox); have GW270 := gw_ HB hg; have GE270 := gw_ HB hg; replace HB := bs_ HB hb; clear hb hbox hg) | ((with_reducible refine gate_dst (N := 3) rfl ?_); refine bx_ 3 #[.bool a1_0, .int .u64 a1_1, .int .u64 a1_2, .int .i64 a1_3] 38 ?_; intro gb271 hg w21 hbox hb; have BK271 := Aside0.mk (hbox); have GW271 := gw_ HB hg; have GE271 := gw_ HB hg; have NB270_271 := nl_ BK270 hg; have NB271_270 := ng_ BK270 hg; replace BK270 := bb_ BK270 hb; replace HB := bs_ HB hb; clear hb hbox hg; have hnb22 := NB270_271.out; have hnc22 := NB271_270.out; obtain ⟨hcz23_0, hcz23_1, hcz23_2, hcz23_3, hfz23_0, hfz23_1, hfz23_2, hfz23_3⟩ := c4_ BK270) | ((with_reducible refine gate_callee (f := 29) rfl ?_); refine gl_ (some 6) Tryz.func29 #[.agg #[.bool a0_0, .int .u64 a0_1, .int .u64 a0_2, .int .i64 a0_3]] ?_; (with_reducible refine (platbookref03_Right.calls k a0_0 a0_1 a0_2 a0_3 true _ A3.out).mono ?_); rintro e w24 ⟨rfl, hb⟩; refine ⟨_, rfl, ?_⟩; replace BK270 := bb_ BK270 hb; replace BK271 := bb_ BK271 hb; replace HB := bs_ HB hb; (try clear hb); (try clear hb2); (try clear hk); (try clear hi); obtain ⟨hcz25_0, hcz25_1, hcz25_2, hcz25_3, hfz25_0, hfz25_1, hfz25_2, hfz25_3⟩ := c4_ BK271) | (go_at_call 29; (with_reducible refine (platbookref03_Right.calls k a1_0 a1_1 a1_2 a1_3 true _ A5.out).mono ?_); rintro e w26 ⟨rfl, hb⟩; replace BK270 := bb_ BK270 hb; replace BK271 := bb_ BK271 hb; replace HB := bs_ HB hb; (try clear hb); (try clear hb2); (try clear hk); (try clear hi); obtain ⟨hcz27_0, hcz27_1, hcz27_2, hcz27_3, hfz27_0, hfz27_1, hfz27_2, hfz27_3⟩ := c4_ BK271; obtain ⟨hcz28_0, hcz28_1, hcz28_2, hcz28_3, hfz28_0, hfz28_1, hfz28_2, hfz28_3⟩ := c4_ BK270) | (go_at_call 41; (with_reducible refine (platbookref03_Has.calls k a1_0 a1_1 a1_2 a1_3 a0_0 a0_1 a0_2 false _ A7.out).mono ?_); rintro e w29 ⟨rfl, hb⟩; replace BK270 := bb_ BK270 hb; replace BK271 := bb_ BK271 hb; replace HB := bs_ HB hb; (try clear hb); (try clear hb2); (try clear hk); (try clear hi); obtain ⟨hcz30_0, hcz30_1, hcz30_2, hcz30_3, hfz30_0, hfz30_1, hfz30_2, hfz30_3⟩ := c4_ BK270; obtain ⟨hcz31_0, hcz31_1, hcz31_2, hcz31_3, hfz31_0, hfz31_1, hfz31_2, hfz31_3⟩ := c4_ BK271) | (go_at_call 41; (with_reducible refine (platbookref03_Has.calls k a0_0 a0_1 a0_2 a0_3 a1_0 a1_1 a1_2 t275 _ A19.out).mono ?_); rintro e w32 ⟨rfl, hb⟩; replace BK270 := bb_ BK270 hb; replace BK271 := bb_ BK271 hb; replace HB := bs_ HB hb; (try clear hb); (try clear hb2); (try clear hk); (try clear hi)))
    go_ret
    exact ⟨by first | rfl | (simp [errW_none, errW_some] <;> rfl) | (simp [*, errW_none, errW_some] <;> rfl), pb_ HB⟩
  ·
   replace c6 := Bool.eq_false_iff.mpr c6
   subst c6
   have H1 : (some false) = some r := by rw [if_neg (show ¬ (false = true) by decide)] at H; exact H
   clear H
   have H := H1
   clear H1
   obtain rfl := Option.some.inj H
   go_enter Tryz.func44, Tryz.ntmps44
   go_wp2_with (first | ((with_reducible refine gate_dst (N := 2) rfl ?_); refine bx_ 2 #[.bool a0_0, .int .u64 a0_1, .int .u64 a0_2, .int .i64 a0_3] 38 ?_; intro gb270 hg w33 hbox hb; have BK270 := Aside0.mk (hbox); have GW270 := gw_ HB hg; have GE270 := gw_ HB hg; replace HB := bs_ HB hb; clear hb hbox hg) | ((with_reducible refine gate_dst (N := 3) rfl ?_); refine bx_ 3 #[.bool a1_0, .int .u64 a1_1, .int .u64 a1_2, .int .i64 a1_3] 38 ?_; intro gb271 hg w34 hbox hb; have BK271 := Aside0.mk (hbox); have GW271 := gw_ HB hg; have GE271 := gw_ HB hg; have NB270_271 := nl_ BK270 hg; have NB271_270 := ng_ BK270 hg; replace BK270 := bb_ BK270 hb; replace HB := bs_ HB hb; clear hb hbox hg; have hnb35 := NB270_271.out; have hnc35 := NB271_270.out; obtain ⟨hcz36_0, hcz36_1, hcz36_2, hcz36_3, hfz36_0, hfz36_1, hfz36_2, hfz36_3⟩ := c4_ BK270) | ((with_reducible refine gate_callee (f := 29) rfl ?_); refine gl_ (some 6) Tryz.func29 #[.agg #[.bool a0_0, .int .u64 a0_1, .int .u64 a0_2, .int .i64 a0_3]] ?_; (with_reducible refine (platbookref03_Right.calls k a0_0 a0_1 a0_2 a0_3 true _ A3.out).mono ?_); rintro e w37 ⟨rfl, hb⟩; refine ⟨_, rfl, ?_⟩; replace BK270 := bb_ BK270 hb; replace BK271 := bb_ BK271 hb; replace HB := bs_ HB hb; (try clear hb); (try clear hb2); (try clear hk); (try clear hi); obtain ⟨hcz38_0, hcz38_1, hcz38_2, hcz38_3, hfz38_0, hfz38_1, hfz38_2, hfz38_3⟩ := c4_ BK271) | (go_at_call 29; (with_reducible refine (platbookref03_Right.calls k a1_0 a1_1 a1_2 a1_3 false _ A5.out).mono ?_); rintro e w39 ⟨rfl, hb⟩; replace BK270 := bb_ BK270 hb; replace BK271 := bb_ BK271 hb; replace HB := bs_ HB hb; (try clear hb); (try clear hb2); (try clear hk); (try clear hi)))
   go_ret
   exact ⟨by first | rfl | (simp [errW_none, errW_some] <;> rfl) | (simp [*, errW_none, errW_some] <;> rfl), pb_ HB⟩
 ·
  replace c4 := Bool.eq_false_iff.mpr c4
  subst c4
  have H1 : (some false) = some r := by rw [if_neg (show ¬ (false = true) by decide)] at H; exact H
  clear H
  have H := H1
  clear H1
  obtain rfl := Option.some.inj H
  go_enter Tryz.func44, Tryz.ntmps44
  go_wp2_with (first | ((with_reducible refine gate_dst (N := 2) rfl ?_); refine bx_ 2 #[.bool a0_0, .int .u64 a0_1, .int .u64 a0_2, .int .i64 a0_3] 38 ?_; intro gb270 hg w40 hbox hb; have BK270 := Aside0.mk (hbox); have GW270 := gw_ HB hg; have GE270 := gw_ HB hg; replace HB := bs_ HB hb; clear hb hbox hg) | ((with_reducible refine gate_dst (N := 3) rfl ?_); refine bx_ 3 #[.bool a1_0, .int .u64 a1_1, .int .u64 a1_2, .int .i64 a1_3] 38 ?_; intro gb271 hg w41 hbox hb; have BK271 := Aside0.mk (hbox); have GW271 := gw_ HB hg; have GE271 := gw_ HB hg; have NB270_271 := nl_ BK270 hg; have NB271_270 := ng_ BK270 hg; replace BK270 := bb_ BK270 hb; replace HB := bs_ HB hb; clear hb hbox hg; have hnb42 := NB270_271.out; have hnc42 := NB271_270.out; obtain ⟨hcz43_0, hcz43_1, hcz43_2, hcz43_3, hfz43_0, hfz43_1, hfz43_2, hfz43_3⟩ := c4_ BK270) | ((with_reducible refine gate_callee (f := 29) rfl ?_); refine gl_ (some 6) Tryz.func29 #[.agg #[.bool a0_0, .int .u64 a0_1, .int .u64 a0_2, .int .i64 a0_3]] ?_; (with_reducible refine (platbookref03_Right.calls k a0_0 a0_1 a0_2 a0_3 false _ A3.out).mono ?_); rintro e w44 ⟨rfl, hb⟩; refine ⟨_, rfl, ?_⟩; replace BK270 := bb_ BK270 hb; replace BK271 := bb_ BK271 hb; replace HB := bs_ HB hb; (try clear hb); (try clear hb2); (try clear hk); (try clear hi)))
  go_ret
  exact ⟨by first | rfl | (simp [errW_none, errW_some] <;> rfl) | (simp [*, errW_none, errW_some] <;> rfl), pb_ HB⟩

def platbooklaw03_PrefixHas.j0 : Nat → Int → Int → Bool → Int → Int → Int → Bool → Int → Int → Int → Bool → Int → Int → Bool → Int → Int → Int → Bool → Int → Int → Int → Bool → Int → Int → Option (Bool)
 | 0, _, _, _, _, _, _, _, _, _, _, _, _, _, _, _, _, _, _, _, _, _, _, _, _ => none
 | k + 1, x10, x12, x277000, x277001, x277002, x277003, x278000, x278001, x278002, x278003, x279000, x279001, x279002, x286000, x286001, x286002, x286003, x292000, x292001, x292002, x292003, x293000, x293001, x293002 => if ((x286000 == x292000 && ((x286001 == x292001 && (x286002 == x292002)))) && (x286003 == x292003)) = true then (if x10 = x12 then ((prefix_Right.f x277000 x277001 x277002 x277003).bind fun t294 => ((platbookref03_Right.f k x277000 x277001 x277002 x277003).bind fun t295 => (if (t294 == t295) = true then ((prefix_First.f x277000 x277001 x277002 x277003).bind fun bt296 => (if (bt296.1 == x293000 && ((bt296.2.1 == x293001 && (bt296.2.2 == x293002)))) = true then ((prefix_Last.f x277000 x277001 x277002 x277003).bind fun bt299 => ((platbookref03_Last.f k x277000 x277001 x277002 x277003).bind fun bt302 => (if (bt299.1 == bt302.1 && ((bt299.2.1 == bt302.2.1 && (bt299.2.2 == bt302.2.2)))) = true then ((prefix_Has.f k x277000 x277001 x277002 x277003 x279000 x279001 x279002).bind fun t305 => ((platbookref03_Has.f k x277000 x277001 x277002 x277003 x279000 x279001 x279002).bind fun t306 => (if (t305 == t306) = true then ((prefix_Within.f k x277000 x277001 x277002 x277003 x278000 x278001 x278002 x278003).bind fun t307 => ((platbookref03_Within.f k x277000 x277001 x277002 x277003 x278000 x278001 x278002 x278003).bind fun t308 => (if (t307 == t308) = true then ((prefix_Overlap.f k x277000 x277001 x277002 x277003 x278000 x278001 x278002 x278003).bind fun t309 => ((platbookref03_Overlap.f k x277000 x277001 x277002 x277003 x278000 x278001 x278002 x278003).bind fun t310 => (some (t309 == t310)))) else (some false)))) else (some false)))) else (some false)))) else (some false))) else (some false)))) else (some false)) else (some false)
def platbooklaw03_PrefixHas.f (k : Nat) (a0_0 : Bool) (a0_1 : Int) (a0_2 : Int) (a0_3 : Int) (a1_0 : Bool) (a1_1 : Int) (a1_2 : Int) (a1_3 : Int) (a2_0 : Bool) (a2_1 : Int) (a2_2 : Int) (a3 : Int) : Option (Bool) := (platbooklaw03_awake.f).bind fun t279 => (if t279 = true then ((prefix_Of.f k a2_0 a2_1 a2_2 a3).bind fun bt280 => ((platbookref03_Of.f k a2_0 a2_1 a2_2 a3).bind fun bt286 => ((platbookref03_Right.f k a0_0 a0_1 a0_2 a0_3).bind fun t293 => (if t293 = true then (platbooklaw03_PrefixHas.j0 k bt280.2.2.2.2 bt286.2.2.2.2 a0_0 a0_1 a0_2 a0_3 a1_0 a1_1 a1_2 a1_3 a2_0 a2_1 a2_2 bt280.1 bt280.2.1 bt280.2.2.1 bt280.2.2.2.1 bt286.1 bt286.2.1 bt286.2.2.1 bt286.2.2.2.1 a0_0 a0_1 a0_2) else (platbooklaw03_PrefixHas.j0 k bt280.2.2.2.2 bt286.2.2.2.2 a0_0 a0_1 a0_2 a0_3 a1_0 a1_1 a1_2 a1_3 a2_0 a2_1 a2_2 bt280.1 bt280.2.1 bt280.2.2.1 bt280.2.2.2.1 bt286.1 bt286.2.1 bt286.2.2.1 bt286.2.2.2.1 false 0 0))))) else (some false))
def platbooklaw03_PrefixHas.T8 : Bool × List (List Nat × List Nat) := (true, [([], []), ([], []), ([0, 1], [0, 1]), ([2], [2]), ([3], [3]), ([3], [3]), ([4, 5, 3], [3, 4, 5]), ([3, 6], [3, 6]), ([7, 3], [7]), ([8], [8]), ([9, 8, 8], [8, 9]), ([8], [8]), ([11, 10, 8], [8, 11]), ([10, 12, 8], [8, 10, 12]), ([8, 13], [8, 13]), ([14, 12], [14]), ([15], [15]), ([16, 15, 15], [15, 16]), ([15], [15]), ([17, 18, 15], [15, 17, 18]), ([15, 19], [15, 19]), ([20, 17], [20]), ([21], [21]), ([22, 21, 21], [21, 22]), ([21], [21]), ([24, 23, 21], [21, 24]), ([23, 25, 21], [21, 23, 25]), ([21, 26], [21, 26]), ([27, 25], [27]), ([28], [28]), ([28], [28]), ([29, 30, 28, 28], [28, 29, 30]), ([28], [28]), ([28], [28]), ([32, 33, 31, 28], [28, 32, 33]), ([31, 34, 28], [28, 31, 34]), ([28, 35], [28, 35]), ([36, 34], [36]), ([37], [37]), ([37], [37]), ([38, 39, 37, 37], [37, 38, 39]), ([37], [37]), ([37], [37]), ([41, 42, 40, 37], [37, 41, 42]), ([40, 43, 37], [37, 40, 43]), ([37, 44], [37, 44]), ([45, 43], [45]), ([46], [46]), ([46], [46]), ([47, 48, 46, 46], [46, 47, 48]), ([46], [46]), ([46], [46]), ([50, 51, 49, 46], [46, 50, 51]), ([49, 52, 46], [46, 49, 52]), ([46, 53], [46, 53]), ([54, 52, 0, 1, 2, 3, 4, 5, 6, 7, 8, 9, 10, 11, 12, 13, 14, 15, 16, 17, 18, 19, 20, 21, 22, 23, 24, 25, 26, 27, 28, 29, 30, 31, 32, 33, 34, 35, 36, 37, 38, 39, 40, 41, 42, 43, 44, 45, 46, 47, 48, 49, 50, 51, 52, 53, 54], [54])])
def platbooklaw03_PrefixHas.B8 : List Nat := [0, 0, 3, 7, 15, 15, 63, 127, 255, 511, 1023, 511, 4095, 8191, 16383, 32767, 65535, 131071, 65535, 524287, 1048575, 2097151, 4194303, 8388607, 4194303, 33554431, 67108863, 134217727, 268435455, 536870911, 536870911, 2147483647, 536870911, 536870911, 17179869183, 34359738367, 68719476735, 137438953471, 274877906943, 274877906943, 1099511627775, 274877906943, 274877906943, 8796093022207, 17592186044415, 35184372088831, 70368744177663, 140737488355327, 140737488355327, 562949953421311, 140737488355327, 140737488355327, 4503599627370495, 9007199254740991, 18014398509481983, 36028797018963967]
theorem platbooklaw03_PrefixHas.tab8 : rtab .any (opsOf Tryz.f6 8) = platbooklaw03_PrefixHas.T8 := by kernel_rfl
theorem platbooklaw03_PrefixHas.bits8 : waitsOk platbooklaw03_PrefixHas.T8.2 platbooklaw03_PrefixHas.B8 = true := by kernel_rfl
set_option maxHeartbeats 8000000 in
set_option maxRecDepth 100000 in
theorem platbooklaw03_PrefixHas.calls (k : Nat) (a0_0 : Bool) (a0_1 : Int) (a0_2 : Int) (a0_3 : Int) (a1_0 : Bool) (a1_1 : Int) (a1_2 : Int) (a1_3 : Int) (a2_0 : Bool) (a2_1 : Int) (a2_2 : Int) (a3 : Int) (r : Bool) (w : World) (hG : Glob w) (hrt : r = true) (h : platbooklaw03_PrefixHas.f k a0_0 a0_1 a0_2 a0_3 a1_0 a1_1 a1_2 a1_3 a2_0 a2_1 a2_2 a3 = some r) :
  Calls Tryz.prog 6 #[.agg #[.bool a0_0, .int .u64 a0_1, .int .u64 a0_2, .int .i64 a0_3], .agg #[.bool a1_0, .int .u64 a1_1, .int .u64 a1_2, .int .i64 a1_3], .agg #[.bool a2_0, .int .u64 a2_1, .int .u64 a2_2], .int .i64 a3] w fun e w' => e = .returned (.bool r) ∧ Below w.heap.size w w' := by
 have hu38 := Tryz.underlying38
 have hu26 := Tryz.underlying26
 have HGLB := Aside0.mk hG
 clear hG
 have HRT := Aside0.mk hrt
 clear hrt
 have HB := Aside0.mk (Below.refl w.heap.size w)
 have H : ((platbooklaw03_awake.f).bind fun t279 => (if t279 = true then ((prefix_Of.f k a2_0 a2_1 a2_2 a3).bind fun bt280 => ((platbookref03_Of.f k a2_0 a2_1 a2_2 a3).bind fun bt286 => ((platbookref03_Right.f k a0_0 a0_1 a0_2 a0_3).bind fun t293 => (if t293 = true then (platbooklaw03_PrefixHas.j0 k bt280.2.2.2.2 bt286.2.2.2.2 a0_0 a0_1 a0_2 a0_3 a1_0 a1_1 a1_2 a1_3 a2_0 a2_1 a2_2 bt280.1 bt280.2.1 bt280.2.2.1 bt280.2.2.2.1 bt286.1 bt286.2.1 bt286.2.2.1 bt286.2.2.2.1 a0_0 a0_1 a0_2) else (platbooklaw03_PrefixHas.j0 k bt280.2.2.2.2 bt286.2.2.2.2 a0_0 a0_1 a0_2 a0_3 a1_0 a1_1 a1_2 a1_3 a2_0 a2_1 a2_2 bt280.1 bt280.2.1 bt280.2.2.1 bt280.2.2.2.1 bt286.1 bt286.2.1 bt286.2.2.1 bt286.2.2.2.1 false 0 0))))) else (some false))) = some r := h
 clear h
 replace H := Option.bind_eq_some_iff.mp H
 obtain ⟨t279, A50, H⟩ := H
 replace H : (if t279 = true then ((prefix_Of.f k a2_0 a2_1 a2_2 a3).bind fun bt280 => ((platbookref03_Of.f k a2_0 a2_1 a2_2 a3).bind fun bt286 => ((platbookref03_Right.f k a0_0 a0_1 a0_2 a0_3).bind fun t293 => (if t293 = true then (platbooklaw03_PrefixHas.j0 k bt280.2.2.2.2 bt286.2.2.2.2 a0_0 a0_1 a0_2 a0_3 a1_0 a1_1 a1_2 a1_3 a2_0 a2_1 a2_2 bt280.1 bt280.2.1 bt280.2.2.1 bt280.2.2.2.1 bt286.1 bt286.2.1 bt286.2.2.1 bt286.2.2.2.1 a0_0 a0_1 a0_2) else (platbooklaw03_PrefixHas.j0 k bt280.2.2.2.2 bt286.2.2.2.2 a0_0 a0_1 a0_2 a0_3 a1_0 a1_1 a1_2 a1_3 a2_0 a2_1 a2_2 bt280.1 bt280.2.1 bt280.2.2.1 bt280.2.2.2.1 bt286.1 bt286.2.1 bt286.2.2.1 bt286.2.2.2.1 false 0 0))))) else (some false)) = some r := H
 have A5 := Aside0.mk A50
 clear A50
 by_cases c6 : t279 = true
 ·
  subst c6
  rw [if_pos rfl] at H
  replace H := Option.bind_eq_some_iff.mp H
  obtain ⟨⟨t280, t281, t282, t283, t284⟩, A70, H⟩ := H
  replace H : ((platbookref03_Of.f k a2_0 a2_1 a2_2 a3).bind fun bt286 => ((platbookref03_Right.f k a0_0 a0_1 a0_2 a0_3).bind fun t293 => (if t293 = true then (platbooklaw03_PrefixHas.j0 k t284 bt286.2.2.2.2 a0_0 a0_1 a0_2 a0_3 a1_0 a1_1 a1_2 a1_3 a2_0 a2_1 a2_2 t280 t281 t282 t283 bt286.1 bt286.2.1 bt286.2.2.1 bt286.2.2.2.1 a0_0 a0_1 a0_2) else (platbooklaw03_PrefixHas.j0 k t284 bt286.2.2.2.2 a0_0 a0_1 a0_2 a0_3 a1_0 a1_1 a1_2 a1_3 a2_0 a2_1 a2_2 t280 t281 t282 t283 bt286.1 bt286.2.1 bt286.2.2.1 bt286.2.2.2.1 false 0 0)))) = some r := H
  have A7 := Aside0.mk A70
  clear A70
  replace H := Option.bind_eq_some_iff.mp H
  obtain ⟨⟨t286, t287, t288, t289, t290⟩, A80, H⟩ := H
  replace H : ((platbookref03_Right.f k a0_0 a0_1 a0_2 a0_3).bind fun t293 => (if t293 = true then (platbooklaw03_PrefixHas.j0 k t284 t290 a0_0 a0_1 a0_2 a0_3 a1_0 a1_1 a1_2 a1_3 a2_0 a2_1 a2_2 t280 t281 t282 t283 t286 t287 t288 t289 a0_0 a0_1 a0_2) else (platbooklaw03_PrefixHas.j0 k t284 t290 a0_0 a0_1 a0_2 a0_3 a1_0 a1_1 a1_2 a1_3 a2_0 a2_1 a2_2 t280 t281 t282 t283 t286 t287 t288 t289 false 0 0))) = some r := H
  have A8 := Aside0.mk A80
  clear A80
  replace H := Option.bind_eq_some_iff.mp H
  obtain ⟨t293, A90, H⟩ := H
  replace H : (if t293 = true then (platbooklaw03_PrefixHas.j0 k t284 t290 a0_0 a0_1 a0_2 a0_3 a1_0 a1_1 a1_2 a1_3 a2_0 a2_1 a2_2 t280 t281 t282 t283 t286 t287 t288 t289 a0_0 a0_1 a0_2) else (platbooklaw03_PrefixHas.j0 k t284 t290 a0_0 a0_1 a0_2 a0_3 a1_0 a1_1 a1_2 a1_3 a2_0 a2_1 a2_2 t280 t281 t282 t283 t286 t287 t288 t289 false 0 0)) = some r := H
  have A9 := Aside0.mk A90
  clear A90
  have HC10 := Aside0.mk H
  clear H
  go_enter Tryz.func6, Tryz.ntmps6
  go_upto_if 30 with (first | ((with_reducible refine gate_dst (N := 4) rfl ?_); refine bx_ 4 #[.bool a0_0, .int .u64 a0_1, .int .u64 a0_2, .int .i64 a0_3] 38 ?_; intro gb276 hg w11 hbox hb; have BK276 := Aside0.mk (hbox); have GW276 := gw_ HB hg; have GE276 := gw_ HB hg; replace HB := bs_ HB hb; clear hb hbox hg) | ((with_reducible refine gate_dst (N := 5) rfl ?_); refine bx_ 5 #[.bool a1_0, .int .u64 a1_1, .int .u64 a1_2, .int .i64 a1_3] 38 ?_; intro gb277 hg w12 hbox hb; have BK277 := Aside0.mk (hbox); have GW277 := gw_ HB hg; have GE277 := gw_ HB hg; have NB276_277 := nl_ BK276 hg; have NB277_276 := ng_ BK276 hg; replace BK276 := bb_ BK276 hb; replace HB := bs_ HB hb; clear hb hbox hg) | ((with_reducible refine gate_dst (N := 6) rfl ?_); refine bx_ 6 #[.bool a2_0, .int .u64 a2_1, .int .u64 a2_2] 26 ?_; intro gb278 hg w13 hbox hb; have BK278 := Aside0.mk (hbox); have GW278 := gw_ HB hg; have GE278 := gw_ HB hg; have NB276_278 := nl_ BK276 hg; have NB278_276 := ng_ BK276 hg; have NB277_278 := nl_ BK277 hg; have NB278_277 := ng_ BK277 hg; replace BK276 := bb_ BK276 hb; replace BK277 := bb_ BK277 hb; replace HB := bs_ HB hb; clear hb hbox hg) | ((with_reducible refine gate_callee (f := 24) rfl ?_); refine gl_ (some 14) Tryz.func24 #[] ?_; (with_reducible refine (platbooklaw03_awake.calls  true _ ?side1 rfl A5.out).mono ?_); (case side1 => exact glob_keep HGLB.out (pb_ HB)); rintro e w14 ⟨rfl, hb⟩; refine ⟨_, rfl, ?_⟩; replace BK276 := bb_ BK276 hb; replace BK277 := bb_ BK277 hb; replace BK278 := bb_ BK278 hb; replace HB := bs_ HB hb; (try clear hb); (try clear hb2); (try clear hk); (try clear hi); have hnb15 := NB278_276.out; have hnc15 := NB276_278.out; have hnb16 := NB278_277.out; have hnc16 := NB277_278.out; obtain ⟨hcz17_0, hcz17_1, hcz17_2, hfz17_0, hfz17_1, hfz17_2⟩ := c3_ BK278) | ((with_reducible refine gate_callee (f := 34) rfl ?_); refine gl_ (some 19) Tryz.func34 #[.agg #[.bool a2_0, .int .u64 a2_1, .int .u64 a2_2], .int .i64 a3] ?_; (with_reducible refine (prefix_Of.calls k a2_0 a2_1 a2_2 a3 t280 t281 t282 t283 t284 _ A7.out).mono ?_); rintro e w18 ⟨rfl, hb⟩; refine ⟨_, rfl, ?_⟩; replace BK276 := bb_ BK276 hb; replace BK277 := bb_ BK277 hb; replace BK278 := bb_ BK278 hb; replace HB := bs_ HB hb; (try clear hb); (try clear hb2); (try clear hk); (try clear hi)) | ((with_reducible refine gate_dst (N := 9) rfl ?_); refine bx_ 9 #[.bool false, .int .u64 0, .int .u64 0, .int .i64 0] 38 ?_; intro gb285 hg w19 hbox hb; have BK285 := Aside0.mk (hbox); have GW285 := gw_ HB hg; have GE285 := gw_ HB hg; have NB276_285 := nl_ BK276 hg; have NB285_276 := ng_ BK276 hg; have NB277_285 := nl_ BK277 hg; have NB285_277 := ng_ BK277 hg; have NB278_285 := nl_ BK278 hg; have NB285_278 := ng_ BK278 hg; replace BK276 := bb_ BK276 hb; replace BK277 := bb_ BK277 hb; replace BK278 := bb_ BK278 hb; replace HB := bs_ HB hb; clear hb hbox hg; have hnb20 := NB285_276.out; have hnc20 := NB276_285.out; have hnb21 := NB285_277.out; have hnc21 := NB277_285.out; have hnb22 := NB285_278.out; have hnc22 := NB278_285.out; obtain ⟨hcz23_0, hcz23_1, hcz23_2, hcz23_3, hfz23_0, hfz23_1, hfz23_2, hfz23_3⟩ := c4_ BK285; obtain ⟨hcz24_0, hcz24_1, hcz24_2, hfz24_0, hfz24_1, hfz24_2⟩ := c3_ BK278) | ((with_reducible refine gate_callee (f := 35) rfl ?_); refine gl_ (some 25) Tryz.func35 #[.agg #[.bool a2_0, .int .u64 a2_1, .int .u64 a2_2], .int .i64 a3] ?_; (with_reducible refine (platbookref03_Of.calls k a2_0 a2_1 a2_2 a3 t286 t287 t288 t289 t290 _ A8.out).mono ?_); rintro e w25 ⟨rfl, hb⟩; refine ⟨_, rfl, ?_⟩; replace BK276 := Aside0.mk (blk_below (g := gb276) (o := .cells #[.bool a0_0, .int .u64 a0_1, .int .u64 a0_2, .int .i64 a0_3] 38 (0, 0)) (by refine pw_ ?_; refine blk_far ?_ NB276_285.out _; refine pw_ ?_; refine blk_far ?_ NB276_285.out _; refine pw_ ?_; refine blk_far ?_ NB276_285.out _; refine pw_ ?_; refine blk_far ?_ NB276_285.out _; refine pw_ ?_; exact BK276.out) hb); replace BK277 := Aside0.mk (blk_below (g := gb277) (o := .cells #[.bool a1_0, .int .u64 a1_1, .int .u64 a1_2, .int .i64 a1_3] 38 (0, 0)) (by refine pw_ ?_; refine blk_far ?_ NB277_285.out _; refine pw_ ?_; refine blk_far ?_ NB277_285.out _; refine pw_ ?_; refine blk_far ?_ NB277_285.out _; refine pw_ ?_; refine blk_far ?_ NB277_285.out _; refine pw_ ?_; exact BK277.out) hb); replace BK278 := Aside0.mk (blk_below (g := gb278) (o := .cells #[.bool a2_0, .int .u64 a2_1, .int .u64 a2_2] 26 (0, 0)) (by refine pw_ ?_; refine blk_far ?_ NB278_285.out _; refine pw_ ?_; refine blk_far ?_ NB278_285.out _; refine pw_ ?_; refine blk_far ?_ NB278_285.out _; refine pw_ ?_; refine blk_far ?_ NB278_285.out _; refine pw_ ?_; exact BK278.out) hb); replace BK285 := Aside0.mk (blk_below (g := gb285) (o := .cells #[.bool t280, .int .u64 t281, .int .u64 t282, .int .i64 t283] 38 (0, 0)) (by refine pw_ ?_; refine blk_put (cs := #[.bool t280, .int .u64 t281, .int .u64 t282, .int .i64 0]) ?_ 3 _ rfl; refine pw_ ?_; refine blk_put (cs := #[.bool t280, .int .u64 t281, .int .u64 0, .int .i64 0]) ?_ 2 _ rfl; refine pw_ ?_; refine blk_put (cs := #[.bool t280, .int .u64 0, .int .u64 0, .int .i64 0]) ?_ 1 _ rfl; refine pw_ ?_; refine blk_put (cs := #[.bool false, .int .u64 0, .int .u64 0, .int .i64 0]) ?_ 0 _ rfl; refine pw_ ?_; exact BK285.out) hb); replace HB := bs_ HB hb; (try clear hb); (try clear hb2); (try clear hk); (try clear hi)) | ((with_reducible refine gate_dst (N := 11) rfl ?_); refine bx_ 11 #[.bool false, .int .u64 0, .int .u64 0, .int .i64 0] 38 ?_; intro gb291 hg w26 hbox hb; have BK291 := Aside0.mk (hbox); have GW291 := gw_ HB hg; have GE291 := gw_ HB hg; have NB276_291 := nl_ BK276 hg; have NB291_276 := ng_ BK276 hg; have NB277_291 := nl_ BK277 hg; have NB291_277 := ng_ BK277 hg; have NB278_291 := nl_ BK278 hg; have NB291_278 := ng_ BK278 hg; have NB285_291 := nl_ BK285 hg; have NB291_285 := ng_ BK285 hg; replace BK276 := bb_ BK276 hb; replace BK277 := bb_ BK277 hb; replace BK278 := bb_ BK278 hb; replace BK285 := bb_ BK285 hb; replace HB := bs_ HB hb; clear hb hbox hg; have hnb27 := NB291_276.out; have hnc27 := NB276_291.out; have hnb28 := NB291_277.out; have hnc28 := NB277_291.out; have hnb29 := NB291_278.out; have hnc29 := NB278_291.out; have hnb30 := NB291_285.out; have hnc30 := NB285_291.out; obtain ⟨hcz31_0, hcz31_1, hcz31_2, hcz31_3, hfz31_0, hfz31_1, hfz31_2, hfz31_3⟩ := c4_ BK291) | ((with_reducible refine gate_dst (N := 13) rfl ?_); refine bx_ 13 #[.bool false, .int .u64 0, .int .u64 0] 26 ?_; intro gb292 hg w32 hbox hb; have BK292 := Aside0.mk (hbox); have GW292 := gw_ HB hg; have GE292 := gw_ HB hg; have NB276_292 := Aside0.mk ((by rw [hg]; exact Nat.ne_of_lt (blk_lt (g := gb276) (o := .cells #[.bool a0_0, .int .u64 a0_1, .int .u64 a0_2, .int .i64 a0_3] 38 (0, 0)) (by refine pw_ ?_; refine blk_far ?_ NB276_291.out _; refine pw_ ?_; refine blk_far ?_ NB276_291.out _; refine pw_ ?_; refine blk_far ?_ NB276_291.out _; refine pw_ ?_; refine blk_far ?_ NB276_291.out _; refine pw_ ?_; exact BK276.out)) : gb276 ≠ gb292)); have NB292_276 := Aside0.mk ((by rw [hg]; exact Nat.ne_of_gt (blk_lt (g := gb276) (o := .cells #[.bool a0_0, .int .u64 a0_1, .int .u64 a0_2, .int .i64 a0_3] 38 (0, 0)) (by refine pw_ ?_; refine blk_far ?_ NB276_291.out _; refine pw_ ?_; refine blk_far ?_ NB276_291.out _; refine pw_ ?_; refine blk_far ?_ NB276_291.out _; refine pw_ ?_; refine blk_far ?_ NB276_291.out _; refine pw_ ?_; exact BK276.out)) : gb292 ≠ gb276)); have NB277_292 := Aside0.mk ((by rw [hg]; exact Nat.ne_of_lt (blk_lt (g := gb277) (o := .cells #[.bool a1_0, .int .u64 a1_1, .int .u64 a1_2, .int .i64 a1_3] 38 (0, 0)) (by refine pw_ ?_; refine blk_far ?_ NB277_291.out _; refine pw_ ?_; refine blk_far ?_ NB277_291.out _; refine pw_ ?_; refine blk_far ?_ NB277_291.out _; refine pw_ ?_; refine blk_far ?_ NB277_291.out _; refine pw_ ?_; exact BK277.out)) : gb277 ≠ gb292)); have NB292_277 := Aside0.mk ((by rw [hg]; exact Nat.ne_of_gt (blk_lt (g := gb277) (o := .cells #[.bool a1_0, .int .u64 a1_1, .int .u64 a1_2, .int .i64 a1_3] 38 (0, 0)) (by refine pw_ ?_; refine blk_far ?_ NB277_291.out _; refine pw_ ?_; refine blk_far ?_ NB277_291.out _; refine pw_ ?_; refine blk_far ?_ NB277_291.out _; refine pw_ ?_; refine blk_far ?_ NB277_291.out _; refine pw_ ?_; exact BK277.out)) : gb292 ≠ gb277)); have NB278_292 := Aside0.mk ((by rw [hg]; exact Nat.ne_of_lt (blk_lt (g := gb278) (o := .cells #[.bool a2_0, .int .u64 a2_1, .int .u64 a2_2] 26 (0, 0)) (by refine pw_ ?_; refine blk_far ?_ NB278_291.out _; refine pw_ ?_; refine blk_far ?_ NB278_291.out _; refine pw_ ?_; refine blk_far ?_ NB278_291.out _; refine pw_ ?_; refine blk_far ?_ NB278_291.out _; refine pw_ ?_; exact BK278.out)) : gb278 ≠ gb292)); have NB292_278 := Aside0.mk ((by rw [hg]; exact Nat.ne_of_gt (blk_lt (g := gb278) (o := .cells #[.bool a2_0, .int .u64 a2_1, .int .u64 a2_2] 26 (0, 0)) (by refine pw_ ?_; refine blk_far ?_ NB278_291.out _; refine pw_ ?_; refine blk_far ?_ NB278_291.out _; refine pw_ ?_; refine blk_far ?_ NB278_291.out _; refine pw_ ?_; refine blk_far ?_ NB278_291.out _; refine pw_ ?_; exact BK278.out)) : gb292 ≠ gb278)); have NB285_292 := Aside0.mk ((by rw [hg]; exact Nat.ne_of_lt (blk_lt (g := gb285) (o := .cells #[.bool t280, .int .u64 t281, .int .u64 t282, .int .i64 t283] 38 (0, 0)) (by refine pw_ ?_; refine blk_far ?_ NB285_291.out _; refine pw_ ?_; refine blk_far ?_ NB285_291.out _; refine pw_ ?_; refine blk_far ?_ NB285_291.out _; refine pw_ ?_; refine blk_far ?_ NB285_291.out _; refine pw_ ?_; exact BK285.out)) : gb285 ≠ gb292)); have NB292_285 := Aside0.mk ((by rw [hg]; exact Nat.ne_of_gt (blk_lt (g := gb285) (o := .cells #[.bool t280, .int .u64 t281, .int .u64 t282, .int .i64 t283] 38 (0, 0)) (by refine pw_ ?_; refine blk_far ?_ NB285_291.out _; refine pw_ ?_; refine blk_far ?_ NB285_291.out _; refine pw_ ?_; refine blk_far ?_ NB285_291.out _; refine pw_ ?_; refine blk_far ?_ NB285_291.out _; refine pw_ ?_; exact BK285.out)) : gb292 ≠ gb285)); have NB291_292 := Aside0.mk ((by rw [hg]; exact Nat.ne_of_lt (blk_lt (g := gb291) (o := .cells #[.bool t286, .int .u64 t287, .int .u64 t288, .int .i64 t289] 38 (0, 0)) (by refine pw_ ?_; refine blk_put (cs := #[.bool t286, .int .u64 t287, .int .u64 t288, .int .i64 0]) ?_ 3 _ rfl; refine pw_ ?_; refine blk_put (cs := #[.bool t286, .int .u64 t287, .int .u64 0, .int .i64 0]) ?_ 2 _ rfl; refine pw_ ?_; refine blk_put (cs := #[.bool t286, .int .u64 0, .int .u64 0, .int .i64 0]) ?_ 1 _ rfl; refine pw_ ?_; refine blk_put (cs := #[.bool false, .int .u64 0, .int .u64 0, .int .i64 0]) ?_ 0 _ rfl; refine pw_ ?_; exact BK291.out)) : gb291 ≠ gb292)); have NB292_291 := Aside0.mk ((by rw [hg]; exact Nat.ne_of_gt (blk_lt (g := gb291) (o := .cells #[.bool t286, .int .u64 t287, .int .u64 t288, .int .i64 t289] 38 (0, 0)) (by refine pw_ ?_; refine blk_put (cs := #[.bool t286, .int .u64 t287, .int .u64 t288, .int .i64 0]) ?_ 3 _ rfl; refine pw_ ?_; refine blk_put (cs := #[.bool t286, .int .u64 t287, .int .u64 0, .int .i64 0]) ?_ 2 _ rfl; refine pw_ ?_; refine blk_put (cs := #[.bool t286, .int .u64 0, .int .u64 0, .int .i64 0]) ?_ 1 _ rfl; refine pw_ ?_; refine blk_put (cs := #[.bool false, .int .u64 0, .int .u64 0, .int .i64 0]) ?_ 0 _ rfl; refine pw_ ?_; exact BK291.out)) : gb292 ≠ gb291)); replace BK276 := Aside0.mk (blk_below (g := gb276) (o := .cells #[.bool a0_0, .int .u64 a0_1, .int .u64 a0_2, .int .i64 a0_3] 38 (0, 0)) (by refine pw_ ?_; refine blk_far ?_ NB276_291.out _; refine pw_ ?_; refine blk_far ?_ NB276_291.out _; refine pw_ ?_; refine blk_far ?_ NB276_291.out _; refine pw_ ?_; refine blk_far ?_ NB276_291.out _; refine pw_ ?_; exact BK276.out) hb); replace BK277 := Aside0.mk (blk_below (g := gb277) (o := .cells #[.bool a1_0, .int .u64 a1_1, .int .u64 a1_2, .int .i64 a1_3] 38 (0, 0)) (by refine pw_ ?_; refine blk_far ?_ NB277_291.out _; refine pw_ ?_; refine blk_far ?_ NB277_291.out _; refine pw_ ?_; refine blk_far ?_ NB277_291.out _; refine pw_ ?_; refine blk_far ?_ NB277_291.out _; refine pw_ ?_; exact BK277.out) hb); replace BK278 := Aside0.mk (blk_below (g := gb278) (o := .cells #[.bool a2_0, .int .u64 a2_1, .int .u64 a2_2] 26 (0, 0)) (by refine pw_ ?_; refine blk_far ?_ NB278_291.out _; refine pw_ ?_; refine blk_far ?_ NB278_291.out _; refine pw_ ?_; refine blk_far ?_ NB278_291.out _; refine pw_ ?_; refine blk_far ?_ NB278_291.out _; refine pw_ ?_; exact BK278.out) hb); replace BK285 := Aside0.mk (blk_below (g := gb285) (o := .cells #[.bool t280, .int .u64 t281, .int .u64 t282, .int .i64 t283] 38 (0, 0)) (by refine pw_ ?_; refine blk_far ?_ NB285_291.out _; refine pw_ ?_; refine blk_far ?_ NB285_291.out _; refine pw_ ?_; refine blk_far ?_ NB285_291.out _; refine pw_ ?_; refine blk_far ?_ NB285_291.out _; refine pw_ ?_; exact BK285.out) hb); replace BK291 := Aside0.mk (blk_below (g := gb291) (o := .cells #[.bool t286, .int .u64 t287, .int .u64 t288, .int .i64 t289] 38 (0, 0)) (by refine pw_ ?_; refine blk_put (cs := #[.bool t286, .int .u64 t287, .int .u64 t288, .int .i64 0]) ?_ 3 _ rfl; refine pw_ ?_; refine blk_put (cs := #[.bool t286, .int .u64 t287, .int .u64 0, .int .i64 0]) ?_ 2 _ rfl; refine pw_ ?_; refine blk_put (cs := #[.bool t286, .int .u64 0, .int .u64 0, .int .i64 0]) ?_ 1 _ rfl; refine pw_ ?_; refine blk_put (cs := #[.bool false, .int .u64 0, .int .u64 0, .int .i64 0]) ?_ 0 _ rfl; refine pw_ ?_; exact BK291.out) hb); replace HB := bs_ HB hb; clear hb hbox hg; have hnb33 := NB292_276.out; have hnc33 := NB276_292.out; have hnb34 := NB292_277.out; have hnc34 := NB277_292.out; have hnb35 := NB292_278.out; have hnc35 := NB278_292.out; have hnb36 := NB292_285.out; have hnc36 := NB285_292.out; have hnb37 := NB292_291.out; have hnc37 := NB291_292.out; obtain ⟨hcz38_0, hcz38_1, hcz38_2, hfz38_0, hfz38_1, hfz38_2⟩ := c3_ BK292; have hnb39 := NB276_277.out; have hnc39 := NB277_276.out; obtain ⟨hcz40_0, hcz40_1, hcz40_2, hcz40_3, hfz40_0, hfz40_1, hfz40_2, hfz40_3⟩ := c4_ BK276) | ((with_reducible refine gate_callee (f := 29) rfl ?_); refine gl_ (some 30) Tryz.func29 #[.agg #[.bool a0_0, .int .u64 a0_1, .int .u64 a0_2, .int .i64 a0_3]] ?_; (with_reducible refine (platbookref03_Right.calls k a0_0 a0_1 a0_2 a0_3 t293 _ A9.out).mono ?_); rintro e w41 ⟨rfl, hb⟩; refine ⟨_, rfl, ?_⟩; replace BK276 := Aside0.mk (blk_below (g := gb276) (o := .cells #[.bool a0_0, .int .u64 a0_1, .int .u64 a0_2, .int .i64 a0_3] 38 (0, 0)) (by refine pw_ ?_; refine blk_far ?_ NB276_292.out _; refine pw_ ?_; refine blk_far ?_ NB276_292.out _; refine pw_ ?_; refine blk_far ?_ NB276_292.out _; refine pw_ ?_; exact BK276.out) hb); replace BK277 := Aside0.mk (blk_below (g := gb277) (o := .cells #[.bool a1_0, .int .u64 a1_1, .int .u64 a1_2, .int .i64 a1_3] 38 (0, 0)) (by refine pw_ ?_; refine blk_far ?_ NB277_292.out _; refine pw_ ?_; refine blk_far ?_ NB277_292.out _; refine pw_ ?_; refine blk_far ?_ NB277_292.out _; refine pw_ ?_; exact BK277.out) hb); replace BK278 := Aside0.mk (blk_below (g := gb278) (o := .cells #[.bool a2_0, .int .u64 a2_1, .int .u64 a2_2] 26 (0, 0)) (by refine pw_ ?_; refine blk_far ?_ NB278_292.out _; refine pw_ ?_; refine blk_far ?_ NB278_292.out _; refine pw_ ?_; refine blk_far ?_ NB278_292.out _; refine pw_ ?_; exact BK278.out) hb); replace BK285 := Aside0.mk (blk_below (g := gb285) (o := .cells #[.bool t280, .int .u64 t281, .int .u64 t282, .int .i64 t283] 38 (0, 0)) (by refine pw_ ?_; refine blk_far ?_ NB285_292.out _; refine pw_ ?_; refine blk_far ?_ NB285_292.out _; refine pw_ ?_; refine blk_far ?_ NB285_292.out _; refine pw_ ?_; exact BK285.out) hb); replace BK291 := Aside0.mk (blk_below (g := gb291) (o := .cells #[.bool t286, .int .u64 t287, .int .u64 t288, .int .i64 t289] 38 (0, 0)) (by refine pw_ ?_; refine blk_far ?_ NB291_292.out _; refine pw_ ?_; refine blk_far ?_ NB291_292.out _; refine pw_ ?_; refine blk_far ?_ NB291_292.out _; refine pw_ ?_; exact BK291.out) hb); replace BK292 := Aside0.mk (blk_below (g := gb292) (o := .cells #[.bool false, .int .u64 0, .int .u64 0] 26 (0, 0)) (by refine pw_ ?_; refine blk_put (cs := #[.bool false, .int .u64 0, .int .u64 0]) ?_ 2 _ rfl; refine pw_ ?_; refine blk_put (cs := #[.bool false, .int .u64 0, .int .u64 0]) ?_ 1 _ rfl; refine pw_ ?_; refine blk_put (cs := #[.bool false, .int .u64 0, .int .u64 0]) ?_ 0 _ rfl; refine pw_ ?_; exact BK292.out) hb); replace HB := bs_ HB hb; (try clear hb); (try clear hb2); (try clear hk); (try clear hi)))
  (try simp only [Act.put, List.setIfInBounds_toArray, List.set_cons_zero, List.set_cons_succ])
  go_cut [] (fun wc => ∃ (kq : Nat) (x293000_9 : Bool) (x293001_9 : Int) (x293002_9 : Int), Aside0 (platbooklaw03_PrefixHas.j0 kq t284 t290 a0_0 a0_1 a0_2 a0_3 a1_0 a1_1 a1_2 a1_3 a2_0 a2_1 a2_2 t280 t281 t282 t283 t286 t287 t288 t289 x293000_9 x293001_9 x293002_9 = some r) ∧ Aside0 (kq ≤ k) ∧ Aside0 (wc.heap[gb276]? = some (.cells #[.bool a0_0, .int .u64 a0_1, .int .u64 a0_2, .int .i64 a0_3] 38 (0, 0))) ∧ Aside0 (wc.heap[gb277]? = some (.cells #[.bool a1_0, .int .u64 a1_1, .int .u64 a1_2, .int .i64 a1_3] 38 (0, 0))) ∧ Aside0 (wc.heap[gb278]? = some (.cells #[.bool a2_0, .int .u64 a2_1, .int .u64 a2_2] 26 (0, 0))) ∧ Aside0 (wc.heap[gb285]? = some (.cells #[.bool t280, .int .u64 t281, .int .u64 t282, .int .i64 t283] 38 (0, 0))) ∧ Aside0 (wc.heap[gb291]? = some (.cells #[.bool t286, .int .u64 t287, .int .u64 t288, .int .i64 t289] 38 (0, 0))) ∧ Aside0 (wc.heap[gb292]? = some (.cells #[.bool x293000_9, .int .u64 x293001_9, .int .u64 x293002_9] 26 (0, 0))) ∧ Aside0 (Below w.heap.size w wc))
  case first =>
   have H := HC10.out
   clear HC10
   by_cases c42 : t293 = true
   ·
    subst c42
    rw [if_pos rfl] at H
    have H' := Aside0.mk H
    clear H
    have hnb43 := NB276_277.out
    have hnc43 := NB277_276.out
    have hnb44 := NB276_278.out
    have hnc44 := NB278_276.out
    have hnb45 := NB276_285.out
    have hnc45 := NB285_276.out
    have hnb46 := NB276_291.out
    have hnc46 := NB291_276.out
    have hnb47 := NB276_292.out
    have hnc47 := NB292_276.out
    obtain ⟨hcz48_0, hcz48_1, hcz48_2, hcz48_3, hfz48_0, hfz48_1, hfz48_2, hfz48_3⟩ := c4_ BK276
    have hnb49 := NB292_277.out
    have hnc49 := NB277_292.out
    have hnb50 := NB292_278.out
    have hnc50 := NB278_292.out
    have hnb51 := NB292_285.out
    have hnc51 := NB285_292.out
    have hnb52 := NB292_291.out
    have hnc52 := NB291_292.out
    obtain ⟨hcz53_0, hcz53_1, hcz53_2, hfz53_0, hfz53_1, hfz53_2⟩ := c3_ BK292
    go_wp2
    go_meet
    case rel => exact ⟨_, (a0_0), (a0_1), (a0_2), H', ⟨by first | omega | exact Nat.le_refl _⟩, ⟨by refine pw_ ?_; refine blk_far ?_ NB276_292.out _; refine pw_ ?_; refine blk_far ?_ NB276_292.out _; refine pw_ ?_; refine blk_far ?_ NB276_292.out _; refine pw_ ?_; exact BK276.out⟩, ⟨by refine pw_ ?_; refine blk_far ?_ NB277_292.out _; refine pw_ ?_; refine blk_far ?_ NB277_292.out _; refine pw_ ?_; refine blk_far ?_ NB277_292.out _; refine pw_ ?_; exact BK277.out⟩, ⟨by refine pw_ ?_; refine blk_far ?_ NB278_292.out _; refine pw_ ?_; refine blk_far ?_ NB278_292.out _; refine pw_ ?_; refine blk_far ?_ NB278_292.out _; refine pw_ ?_; exact BK278.out⟩, ⟨by refine pw_ ?_; refine blk_far ?_ NB285_292.out _; refine pw_ ?_; refine blk_far ?_ NB285_292.out _; refine pw_ ?_; refine blk_far ?_ NB285_292.out _; refine pw_ ?_; exact BK285.out⟩, ⟨by refine pw_ ?_; refine blk_far ?_ NB291_292.out _; refine pw_ ?_; refine blk_far ?_ NB291_292.out _; refine pw_ ?_; refine blk_far ?_ NB291_292.out _; refine pw_ ?_; exact BK291.out⟩, ⟨by refine pw_ ?_; refine blk_put (cs := #[.bool a0_0, .int .u64 a0_1, .int .u64 0]) ?_ 2 _ rfl; refine pw_ ?_; refine blk_put (cs := #[.bool a0_0, .int .u64 0, .int .u64 0]) ?_ 1 _ rfl; refine pw_ ?_; refine blk_put (cs := #[.bool false, .int .u64 0, .int .u64 0]) ?_ 0 _ rfl; refine pw_ ?_; exact BK292.out⟩, ⟨pb_ HB⟩⟩
   ·
    replace c42 := Bool.eq_false_iff.mpr c42
    subst c42
    have H1 : (platbooklaw03_PrefixHas.j0 k t284 t290 a0_0 a0_1 a0_2 a0_3 a1_0 a1_1 a1_2 a1_3 a2_0 a2_1 a2_2 t280 t281 t282 t283 t286 t287 t288 t289 false 0 0) = some r := by rw [if_neg (show ¬ (false = true) by decide)] at H; exact H
    clear H
    have H := H1
    clear H1
    have H' := Aside0.mk H
    clear H
    go_wp2
    go_meet
    case rel => exact ⟨_, (false), (0), (0), H', ⟨by first | omega | exact Nat.le_refl _⟩, ⟨by refine pw_ ?_; exact BK276.out⟩, ⟨by refine pw_ ?_; exact BK277.out⟩, ⟨by refine pw_ ?_; exact BK278.out⟩, ⟨by refine pw_ ?_; exact BK285.out⟩, ⟨by refine pw_ ?_; exact BK291.out⟩, ⟨by refine pw_ ?_; exact BK292.out⟩, ⟨pb_ HB⟩⟩
  case rest =>
   clear HC10
   try clear c1
   try clear c2
   try clear p2
   try clear c3
   try clear c4
   try clear c5
   try clear c6
   try clear c15
   try clear c16
   try clear c20
   try clear c21
   try clear c22
   try clear c24
   try clear c27
   try clear c28
   try clear c29
   try clear c30
   try clear c33
   try clear c34
   try clear c35
   try clear c36
   try clear c37
   try clear c39
   try clear c42
   try clear c43
   try clear c44
   try clear c45
   try clear c46
   try clear c47
   try clear c49
   try clear c50
   try clear c51
   try clear c52
   try clear hcz17_0
   try clear hcz17_1
   try clear hcz17_2
   try clear hcz23_0
   try clear hcz23_1
   try clear hcz23_2
   try clear hcz23_3
   try clear hcz24_0
   try clear hcz24_1
   try clear hcz24_2
   try clear hcz31_0
   try clear hcz31_1
   try clear hcz31_2
   try clear hcz31_3
   try clear hcz38_0
   try clear hcz38_1
   try clear hcz38_2
   try clear hcz40_0
   try clear hcz40_1
   try clear hcz40_2
   try clear hcz40_3
   try clear hcz48_0
   try clear hcz48_1
   try clear hcz48_2
   try clear hcz48_3
   try clear hcz53_0
   try clear hcz53_1
   try clear hcz53_2
   try clear hfz17_0
   try clear hfz17_1
   try clear hfz17_2
   try clear hfz23_0
   try clear hfz23_1
   try clear hfz23_2
   try clear hfz23_3
   try clear hfz24_0
   try clear hfz24_1
   try clear hfz24_2
   try clear hfz31_0
   try clear hfz31_1
   try clear hfz31_2
   try clear hfz31_3
   try clear hfz38_0
   try clear hfz38_1
   try clear hfz38_2
   try clear hfz40_0
   try clear hfz40_1
   try clear hfz40_2
   try clear hfz40_3
   try clear hfz48_0
   try clear hfz48_1
   try clear hfz48_2
   try clear hfz48_3
   try clear hfz53_0
   try clear hfz53_1
   try clear hfz53_2
   obtain ⟨kq, x293000_9, x293001_9, x293002_9, HA, HJ9, BK276, BK277, BK278, BK285, BK291, BK292, HB⟩ := hcut
   cases kq with
   | zero => exact absurd HA.out (by simp [platbooklaw03_PrefixHas.j0])
   | succ kj9 =>
    have H := HA.out
    clear HA
    simp only [platbooklaw03_PrefixHas.j0] at H
    by_cases c54 : ((t280 == t286 && ((t281 == t287 && (t282 == t288)))) && (t283 == t289)) = true
    ·
     rw [if_pos c54] at H
     have c54b0 : ((t280 == t286 && ((t281 == t287 && (t282 == t288)))) && (t283 == t289)) = true := c54
     clear c54
     by_cases c55 : t284 = t290
     ·
      rw [if_pos c55] at H
      have c55b0 : (t284 == t290) = true := beq_iff_eq.mpr c55
      have c55b1 : (t284 != t290) = false := bne_eq_false_iff_eq.mpr c55
      clear c55
      replace H := Option.bind_eq_some_iff.mp H
      obtain ⟨t294, A560, H⟩ := H
      replace H : ((platbookref03_Right.f kj9 a0_0 a0_1 a0_2 a0_3).bind fun t295 => (if (t294 == t295) = true then ((prefix_First.f a0_0 a0_1 a0_2 a0_3).bind fun bt296 => (if (bt296.1 == x293000_9 && ((bt296.2.1 == x293001_9 && (bt296.2.2 == x293002_9)))) = true then ((prefix_Last.f a0_0 a0_1 a0_2 a0_3).bind fun bt299 => ((platbookref03_Last.f kj9 a0_0 a0_1 a0_2 a0_3).bind fun bt302 => (if (bt299.1 == bt302.1 && ((bt299.2.1 == bt302.2.1 && (bt299.2.2 == bt302.2.2)))) = true then ((prefix_Has.f kj9 a0_0 a0_1 a0_2 a0_3 a2_0 a2_1 a2_2).bind fun t305 => ((platbookref03_Has.f kj9 a0_0 a0_1 a0_2 a0_3 a2_0 a2_1 a2_2).bind fun t306 => (if (t305 == t306) = true then ((prefix_Within.f kj9 a0_0 a0_1 a0_2 a0_3 a1_0 a1_1 a1_2 a1_3).bind fun t307 => ((platbookref03_Within.f kj9 a0_0 a0_1 a0_2 a0_3 a1_0 a1_1 a1_2 a1_3).bind fun t308 => (if (t307 == t308) = true then ((prefix_Overlap.f kj9 a0_0 a0_1 a0_2 a0_3 a1_0 a1_1 a1_2 a1_3).bind fun t309 => ((platbookref03_Overlap.f kj9 a0_0 a0_1 a0_2 a0_3 a1_0 a1_1 a1_2 a1_3).bind fun t310 => (some (t309 == t310)))) else (some false)))) else (some false)))) else (some false)))) else (some false))) else (some false))) = some r := H
      have A56 := Aside0.mk A560
      clear A560
      replace H := Option.bind_eq_some_iff.mp H
      obtain ⟨t295, A570, H⟩ := H
      replace H : (if (t294 == t295) = true then ((prefix_First.f a0_0 a0_1 a0_2 a0_3).bind fun bt296 => (if (bt296.1 == x293000_9 && ((bt296.2.1 == x293001_9 && (bt296.2.2 == x293002_9)))) = true then ((prefix_Last.f a0_0 a0_1 a0_2 a0_3).bind fun bt299 => ((platbookref03_Last.f kj9 a0_0 a0_1 a0_2 a0_3).bind fun bt302 => (if (bt299.1 == bt302.1 && ((bt299.2.1 == bt302.2.1 && (bt299.2.2 == bt302.2.2)))) = true then ((prefix_Has.f kj9 a0_0 a0_1 a0_2 a0_3 a2_0 a2_1 a2_2).bind fun t305 => ((platbookref03_Has.f kj9 a0_0 a0_1 a0_2 a0_3 a2_0 a2_1 a2_2).bind fun t306 => (if (t305 == t306) = true then ((prefix_Within.f kj9 a0_0 a0_1 a0_2 a0_3 a1_0 a1_1 a1_2 a1_3).bind fun t307 => ((platbookref03_Within.f kj9 a0_0 a0_1 a0_2 a0_3 a1_0 a1_1 a1_2 a1_3).bind fun t308 => (if (t307 == t308) = true then ((prefix_Overlap.f kj9 a0_0 a0_1 a0_2 a0_3 a1_0 a1_1 a1_2 a1_3).bind fun t309 => ((platbookref03_Overlap.f kj9 a0_0 a0_1 a0_2 a0_3 a1_0 a1_1 a1_2 a1_3).bind fun t310 => (some (t309 == t310)))) else (some false)))) else (some false)))) else (some false)))) else (some false))) else (some false)) = some r := H
      have A57 := Aside0.mk A570
      clear A570
      by_cases c58 : (t294 == t295) = true
      ·
       rw [if_pos c58] at H
       have c58b0 : (t294 == t295) = true := c58
       (try (have c58b1 : decide (t294 = t295) = true := by simpa using c58))
       (try (have c58b2 : (t294 == t295) = true := by simpa using c58))
       clear c58
       replace H := Option.bind_eq_some_iff.mp H
       obtain ⟨⟨t296, t297, t298⟩, A590, H⟩ := H
       replace H : (if (t296 == x293000_9 && ((t297 == x293001_9 && (t298 == x293002_9)))) = true then ((prefix_Last.f a0_0 a0_1 a0_2 a0_3).bind fun bt299 => ((platbookref03_Last.f kj9 a0_0 a0_1 a0_2 a0_3).bind fun bt302 => (if (bt299.1 == bt302.1 && ((bt299.2.1 == bt302.2.1 && (bt299.2.2 == bt302.2.2)))) = true then ((prefix_Has.f kj9 a0_0 a0_1 a0_2 a0_3 a2_0 a2_1 a2_2).bind fun t305 => ((platbookref03_Has.f kj9 a0_0 a0_1 a0_2 a0_3 a2_0 a2_1 a2_2).bind fun t306 => (if (t305 == t306) = true then ((prefix_Within.f kj9 a0_0 a0_1 a0_2 a0_3 a1_0 a1_1 a1_2 a1_3).bind fun t307 => ((platbookref03_Within.f kj9 a0_0 a0_1 a0_2 a0_3 a1_0 a1_1 a1_2 a1_3).bind fun t308 => (if (t307 == t308) = true then ((prefix_Overlap.f kj9 a0_0 a0_1 a0_2 a0_3 a1_0 a1_1 a1_2 a1_3).bind fun t309 => ((platbookref03_Overlap.f kj9 a0_0 a0_1 a0_2 a0_3 a1_0 a1_1 a1_2 a1_3).bind fun t310 => (some (t309 == t310)))) else (some false)))) else (some false)))) else (some false)))) else (some false)) = some r := H
       have A59 := Aside0.mk A590
       clear A590
       by_cases c60 : (t296 == x293000_9 && ((t297 == x293001_9 && (t298 == x293002_9)))) = true
       ·
        rw [if_pos c60] at H
        have c60b0 : (t296 == x293000_9 && ((t297 == x293001_9 && (t298 == x293002_9)))) = true := c60
        (try (have c60b1 : decide (t296 = x293000_9 && ((t297 == x293001_9 && (t298 == x293002_9)))) = true := by simpa using c60))
        (try (have c60b2 : (t296 == x293000_9 && ((t297 == x293001_9 && (t298 == x293002_9)))) = true := by simpa using c60))
        clear c60
        replace H := Option.bind_eq_some_iff.mp H
        obtain ⟨⟨t299, t300, t301⟩, A610, H⟩ := H
        replace H : ((platbookref03_Last.f kj9 a0_0 a0_1 a0_2 a0_3).bind fun bt302 => (if (t299 == bt302.1 && ((t300 == bt302.2.1 && (t301 == bt302.2.2)))) = true then ((prefix_Has.f kj9 a0_0 a0_1 a0_2 a0_3 a2_0 a2_1 a2_2).bind fun t305 => ((platbookref03_Has.f kj9 a0_0 a0_1 a0_2 a0_3 a2_0 a2_1 a2_2).bind fun t306 => (if (t305 == t306) = true then ((prefix_Within.f kj9 a0_0 a0_1 a0_2 a0_3 a1_0 a1_1 a1_2 a1_3).bind fun t307 => ((platbookref03_Within.f kj9 a0_0 a0_1 a0_2 a0_3 a1_0 a1_1 a1_2 a1_3).bind fun t308 => (if (t307 == t308) = true then ((prefix_Overlap.f kj9 a0_0 a0_1 a0_2 a0_3 a1_0 a1_1 a1_2 a1_3).bind fun t309 => ((platbookref03_Overlap.f kj9 a0_0 a0_1 a0_2 a0_3 a1_0 a1_1 a1_2 a1_3).bind fun t310 => (some (t309 == t310)))) else (some false)))) else (some false)))) else (some false))) = some r := H
        have A61 := Aside0.mk A610
        clear A610
        replace H := Option.bind_eq_some_iff.mp H
        obtain ⟨⟨t302, t303, t304⟩, A620, H⟩ := H
        replace H : (if (t299 == t302 && ((t300 == t303 && (t301 == t304)))) = true then ((prefix_Has.f kj9 a0_0 a0_1 a0_2 a0_3 a2_0 a2_1 a2_2).bind fun t305 => ((platbookref03_Has.f kj9 a0_0 a0_1 a0_2 a0_3 a2_0 a2_1 a2_2).bind fun t306 => (if (t305 == t306) = true then ((prefix_Within.f kj9 a0_0 a0_1 a0_2 a0_3 a1_0 a1_1 a1_2 a1_3).bind fun t307 => ((platbookref03_Within.f kj9 a0_0 a0_1 a0_2 a0_3 a1_0 a1_1 a1_2 a1_3).bind fun t308 => (if (t307 == t308) = true then ((prefix_Overlap.f kj9 a0_0 a0_1 a0_2 a0_3 a1_0 a1_1 a1_2 a1_3).bind fun t309 => ((platbookref03_Overlap.f kj9 a0_0 a0_1 a0_2 a0_3 a1_0 a1_1 a1_2 a1_3).bind fun t310 => (some (t309 == t310)))) else (some false)))) else (some false)))) else (some false)) = some r := H
        have A62 := Aside0.mk A620
        clear A620
        by_cases c63 : (t299 == t302 && ((t300 == t303 && (t301 == t304)))) = true
        ·
         rw [if_pos c63] at H
         have c63b0 : (t299 == t302 && ((t300 == t303 && (t301 == t304)))) = true := c63
         (try (have c63b1 : decide (t299 = t302 && ((t300 == t303 && (t301 == t304)))) = true := by simpa using c63))
         (try (have c63b2 : (t299 == t302 && ((t300 == t303 && (t301 == t304)))) = true := by simpa using c63))
         clear c63
         replace H := Option.bind_eq_some_iff.mp H
         obtain ⟨t305, A640, H⟩ := H
         replace H : ((platbookref03_Has.f kj9 a0_0 a0_1 a0_2 a0_3 a2_0 a2_1 a2_2).bind fun t306 => (if (t305 == t306) = true then ((prefix_Within.f kj9 a0_0 a0_1 a0_2 a0_3 a1_0 a1_1 a1_2 a1_3).bind fun t307 => ((platbookref03_Within.f kj9 a0_0 a0_1 a0_2 a0_3 a1_0 a1_1 a1_2 a1_3).bind fun t308 => (if (t307 == t308) = true then ((prefix_Overlap.f kj9 a0_0 a0_1 a0_2 a0_3 a1_0 a1_1 a1_2 a1_3).bind fun t309 => ((platbookref03_Overlap.f kj9 a0_0 a0_1 a0_2 a0_3 a1_0 a1_1 a1_2 a1_3).bind fun t310 => (some (t309 == t310)))) else (some false)))) else (some false))) = some r := H
         have A64 := Aside0.mk A640
         clear A640
         replace H := Option.bind_eq_some_iff.mp H
         obtain ⟨t306, A650, H⟩ := H
         replace H : (if (t305 == t306) = true then ((prefix_Within.f kj9 a0_0 a0_1 a0_2 a0_3 a1_0 a1_1 a1_2 a1_3).bind fun t307 => ((platbookref03_Within.f kj9 a0_0 a0_1 a0_2 a0_3 a1_0 a1_1 a1_2 a1_3).bind fun t308 => (if (t307 == t308) = true then ((prefix_Overlap.f kj9 a0_0 a0_1 a0_2 a0_3 a1_0 a1_1 a1_2 a1_3).bind fun t309 => ((platbookref03_Overlap.f kj9 a0_0 a0_1 a0_2 a0_3 a1_0 a1_1 a1_2 a1_3).bind fun t310 => (some (t309 == t310)))) else (some false)))) else (some false)) = some r := H
         have A65 := Aside0.mk A650
         clear A650
         by_cases c66 : (t305 == t306) = true
         ·
          rw [if_pos c66] at H
          have c66b0 : (t305 == t306) = true := c66
          (try (have c66b1 : decide (t305 = t306) = true := by simpa using c66))
          (try (have c66b2 : (t305 == t306) = true := by simpa using c66))
          clear c66
          replace H := Option.bind_eq_some_iff.mp H
          obtain ⟨t307, A670, H⟩ := H
          replace H : ((platbookref03_Within.f kj9 a0_0 a0_1 a0_2 a0_3 a1_0 a1_1 a1_2 a1_3).bind fun t308 => (if (t307 == t308) = true then ((prefix_Overlap.f kj9 a0_0 a0_1 a0_2 a0_3 a1_0 a1_1 a1_2 a1_3).bind fun t309 => ((platbookref03_Overlap.f kj9 a0_0 a0_1 a0_2 a0_3 a1_0 a1_1 a1_2 a1_3).bind fun t310 => (some (t309 == t310)))) else (some false))) = some r := H
          have A67 := Aside0.mk A670
          clear A670
          replace H := Option.bind_eq_some_iff.mp H
          obtain ⟨t308, A680, H⟩ := H
          replace H : (if (t307 == t308) = true then ((prefix_Overlap.f kj9 a0_0 a0_1 a0_2 a0_3 a1_0 a1_1 a1_2 a1_3).bind fun t309 => ((platbookref03_Overlap.f kj9 a0_0 a0_1 a0_2 a0_3 a1_0 a1_1 a1_2 a1_3).bind fun t310 => (some (t309 == t310)))) else (some false)) = some r := H
          have A68 := Aside0.mk A680
          clear A680
          by_cases c69 : (t307 == t308) = true
          ·
           rw [if_pos c69] at H
           have c69b0 : (t307 == t308) = true := c69
           (try (have c69b1 : decide (t307 = t308) = true := by simpa using c69))
           (try (have c69b2 : (t307 == t308) = true := by simpa using c69))
           clear c69
           replace H := Option.bind_eq_some_iff.mp H
           obtain ⟨t309, A700, H⟩ := H
           replace H : ((platbookref03_Overlap.f kj9 a0_0 a0_1 a0_2 a0_3 a1_0 a1_1 a1_2 a1_3).bind fun t310 => (some (t309 == t310))) = some r := H
           have A70 := Aside0.mk A700
           clear A700
           replace H := Option.bind_eq_some_iff.mp H
           obtain ⟨t310, A710, H⟩ := H
           replace H : (some (t309 == t310)) = some r := H
           have A71 := Aside0.mk A710
           clear A710
           obtain rfl := Option.some.inj H
           try go_wp2
           replace BK276 := Aside0.mk (blk_drew BK276.out)
           replace BK277 := Aside0.mk (blk_drew BK277.out)
           replace BK278 := Aside0.mk (blk_drew BK278.out)
           replace BK285 := Aside0.mk (blk_drew BK285.out)
           replace BK291 := Aside0.mk (blk_drew BK291.out)
           replace BK292 := Aside0.mk (blk_drew BK292.out)
           replace HB := Aside0.mk (below_drew1 HB.out)
           refine start_ (n := 56) (S := fun w' => w'.cell? ⟨gb285, 0, none⟩ = some (.bool t280) ∧ w'.cell? ⟨gb285, 1, none⟩ = some (.int .u64 t281) ∧ w'.cell? ⟨gb285, 2, none⟩ = some (.int .u64 t282) ∧ w'.cell? ⟨gb285, 3, none⟩ = some (.int .i64 t283) ∧ w'.cell? ⟨gb291, 0, none⟩ = some (.bool t286) ∧ w'.cell? ⟨gb291, 1, none⟩ = some (.int .u64 t287) ∧ w'.cell? ⟨gb291, 2, none⟩ = some (.int .u64 t288) ∧ w'.cell? ⟨gb291, 3, none⟩ = some (.int .i64 t289) ∧ w'.cell? ⟨gb276, 0, none⟩ = some (.bool a0_0) ∧ w'.cell? ⟨gb276, 1, none⟩ = some (.int .u64 a0_1) ∧ w'.cell? ⟨gb276, 2, none⟩ = some (.int .u64 a0_2) ∧ w'.cell? ⟨gb276, 3, none⟩ = some (.int .i64 a0_3) ∧ w'.cell? ⟨gb292, 0, none⟩ = some (.bool x293000_9) ∧ w'.cell? ⟨gb292, 1, none⟩ = some (.int .u64 x293001_9) ∧ w'.cell? ⟨gb292, 2, none⟩ = some (.int .u64 x293002_9) ∧ w'.cell? ⟨gb278, 0, none⟩ = some (.bool a2_0) ∧ w'.cell? ⟨gb278, 1, none⟩ = some (.int .u64 a2_1) ∧ w'.cell? ⟨gb278, 2, none⟩ = some (.int .u64 a2_2) ∧ w'.cell? ⟨gb277, 0, none⟩ = some (.bool a1_0) ∧ w'.cell? ⟨gb277, 1, none⟩ = some (.int .u64 a1_1) ∧ w'.cell? ⟨gb277, 2, none⟩ = some (.int .u64 a1_2) ∧ w'.cell? ⟨gb277, 3, none⟩ = some (.int .i64 a1_3)) (ds := []) (bm_ 56 0) (by kernel_rfl) rfl rfl ⟨kc_ BK285 0, kc_ BK285 1, kc_ BK285 2, kc_ BK285 3, kc_ BK291 0, kc_ BK291 1, kc_ BK291 2, kc_ BK291 3, kc_ BK276 0, kc_ BK276 1, kc_ BK276 2, kc_ BK276 3, kc_ BK292 0, kc_ BK292 1, kc_ BK292 2, kc_ BK278 0, kc_ BK278 1, kc_ BK278 2, kc_ BK277 0, kc_ BK277 1, kc_ BK277 2, kc_ BK277 3⟩ (fun hHeld => ?_); refine with_tabW platbooklaw03_PrefixHas.tab8 platbooklaw03_PrefixHas.bits8 (fun HT_ HW_ => ?_)
           generalize wc.drew = w72 at BK276 BK277 BK278 BK285 BK291 BK292 HB hHeld ⊢
           refine ta_ 0 (some 33) (bm_ 56 1) rfl HT_ HW_ ⟨by rfl, by rintro w' ⟨s0, s1, s2, s3, s4, s5, s6, s7, s8, s9, s10, s11, s12, s13, s14, s15, s16, s17, s18, s19, s20, s21⟩; go_simp; with_reducible rfl⟩ hHeld ?_
           refine ta_ 1 (some 34) (bm_ 56 3) rfl HT_ HW_ ⟨by rfl, by rintro w' ⟨s0, s1, s2, s3, s4, s5, s6, s7, s8, s9, s10, s11, s12, s13, s14, s15, s16, s17, s18, s19, s20, s21⟩; go_simp; with_reducible rfl⟩ hHeld ?_
           refine pu_ 2 (some 35) (bm_ 56 7) rfl HT_ ⟨by rfl, by intro w'; go_simp; with_reducible rfl⟩ ?_
           refine pu_ 3 (some 36) (bm_ 56 15) rfl HT_ ⟨by rfl, by intro w'; go_simp; with_reducible rfl⟩ ?_
           refine pu_ 4 (some 37) (bm_ 56 31) rfl HT_ ⟨by rfl, by intro w'; go_simp; with_reducible rfl⟩ ?_
           refine pu_ 5 (some 38) (bm_ 56 63) rfl HT_ ⟨by rfl, by intro w'; go_simp; with_reducible rfl⟩ ?_
           refine pu_ 6 (some 39) (bm_ 56 127) rfl HT_ ⟨by rfl, by intro w'; go_simp; with_reducible rfl⟩ ?_
           refine pu_ 7 (some 40) (bm_ 56 255) rfl HT_ ⟨by rfl, by intro w'; go_simp; with_reducible rfl⟩ ?_
           refine pu_ 8 (some 41) (bm_ 56 511) rfl HT_ ⟨by rfl, by intro w'; go_simp; with_reducible rfl⟩ ?_
           refine ta_ 9 (some 42) (bm_ 56 1023) rfl HT_ HW_ ⟨by rfl, by rintro w' ⟨s0, s1, s2, s3, s4, s5, s6, s7, s8, s9, s10, s11, s12, s13, s14, s15, s16, s17, s18, s19, s20, s21⟩; go_simp; with_reducible rfl⟩ hHeld ?_
           refine ta_ 11 (some 44) (bm_ 56 3071) rfl HT_ HW_ ⟨by rfl, by rintro w' ⟨s0, s1, s2, s3, s4, s5, s6, s7, s8, s9, s10, s11, s12, s13, s14, s15, s16, s17, s18, s19, s20, s21⟩; go_simp; with_reducible rfl⟩ hHeld ?_
           refine one_ (i := 10) (N := some 43) (bm_ 56 4095) rfl rfl (one_of HT_.out (by kernel_rfl)) (by decide) (fun K hK => ?_)
           refine gr_ Tryz.func36 #[.agg #[.bool a0_0, .int .u64 a0_1, .int .u64 a0_2, .int .i64 a0_3]] ?_
           with_reducible refine (prefix_Right.calls a0_0 a0_1 a0_2 a0_3 t294 _ A56.out).mono ?_
           rintro e w73 ⟨rfl, hb⟩
           refine ⟨_, rfl, ?_⟩
           replace BK276 := bb_ BK276 hb
           replace BK277 := bb_ BK277 hb
           replace BK278 := bb_ BK278 hb
           replace BK285 := bb_ BK285 hb
           replace BK291 := bb_ BK291 hb
           replace BK292 := bb_ BK292 hb
           replace HB := bs_ HB hb
           (try clear hb)
           (try clear hb2)
           (try clear hk)
           (try clear hi)
           refine hK.out _ _ ⟨kc_ BK285 0, kc_ BK285 1, kc_ BK285 2, kc_ BK285 3, kc_ BK291 0, kc_ BK291 1, kc_ BK291 2, kc_ BK291 3, kc_ BK276 0, kc_ BK276 1, kc_ BK276 2, kc_ BK276 3, kc_ BK292 0, kc_ BK292 1, kc_ BK292 2, kc_ BK278 0, kc_ BK278 1, kc_ BK278 2, kc_ BK277 0, kc_ BK277 1, kc_ BK277 2, kc_ BK277 3⟩ (fun hHeld => ?_)
           clear hK K
           refine norm_ (a' := ?_) ?_ ?_
           rotate_left
           ·
            show Act.put _ (some 43) _ = _
            simp only [Act.put, List.setIfInBounds_toArray, List.set_cons_zero, List.set_cons_succ, i64_w, i32_w]
            rfl
           refine one_ (i := 12) (N := some 45) (bm_ 56 8191) rfl rfl (one_of HT_.out (by kernel_rfl)) (by decide) (fun K hK => ?_)
           refine gr_ Tryz.func29 #[.agg #[.bool a0_0, .int .u64 a0_1, .int .u64 a0_2, .int .i64 a0_3]] ?_
           with_reducible refine (platbookref03_Right.calls kj9 a0_0 a0_1 a0_2 a0_3 t295 _ A57.out).mono ?_
           rintro e w74 ⟨rfl, hb⟩
           refine ⟨_, rfl, ?_⟩
           replace BK276 := bb_ BK276 hb
           replace BK277 := bb_ BK277 hb
           replace BK278 := bb_ BK278 hb
           replace BK285 := bb_ BK285 hb
           replace BK291 := bb_ BK291 hb
           replace BK292 := bb_ BK292 hb
           replace HB := bs_ HB hb
           (try clear hb)
           (try clear hb2)
           (try clear hk)
           (try clear hi)
           refine hK.out _ _ ⟨kc_ BK285 0, kc_ BK285 1, kc_ BK285 2, kc_ BK285 3, kc_ BK291 0, kc_ BK291 1, kc_ BK291 2, kc_ BK291 3, kc_ BK276 0, kc_ BK276 1, kc_ BK276 2, kc_ BK276 3, kc_ BK292 0, kc_ BK292 1, kc_ BK292 2, kc_ BK278 0, kc_ BK278 1, kc_ BK278 2, kc_ BK277 0, kc_ BK277 1, kc_ BK277 2, kc_ BK277 3⟩ (fun hHeld => ?_)
           clear hK K
           refine norm_ (a' := ?_) ?_ ?_
           rotate_left
           ·
            show Act.put _ (some 45) _ = _
            simp only [Act.put, List.setIfInBounds_toArray, List.set_cons_zero, List.set_cons_succ, i64_w, i32_w]
            rfl
           refine pu_ 13 (some 46) (bm_ 56 16383) rfl HT_ ⟨by rfl, by intro w'; go_simp; with_reducible rfl⟩ ?_
           refine pu_ 14 (some 47) (bm_ 56 32767) rfl HT_ ⟨by rfl, by intro w'; go_simp; with_reducible rfl⟩ ?_
           refine pu_ 15 (some 48) (bm_ 56 65535) rfl HT_ ⟨by rfl, by intro w'; go_simp; with_reducible rfl⟩ ?_
           refine ta_ 16 (some 49) (bm_ 56 131071) rfl HT_ HW_ ⟨by rfl, by rintro w' ⟨s0, s1, s2, s3, s4, s5, s6, s7, s8, s9, s10, s11, s12, s13, s14, s15, s16, s17, s18, s19, s20, s21⟩; go_simp; with_reducible rfl⟩ hHeld ?_
           refine ta_ 18 (some 51) (bm_ 56 393215) rfl HT_ HW_ ⟨by rfl, by rintro w' ⟨s0, s1, s2, s3, s4, s5, s6, s7, s8, s9, s10, s11, s12, s13, s14, s15, s16, s17, s18, s19, s20, s21⟩; go_simp; with_reducible rfl⟩ hHeld ?_
           refine one_ (i := 17) (N := some 50) (bm_ 56 524287) rfl rfl (one_of HT_.out (by kernel_rfl)) (by decide) (fun K hK => ?_)
           refine gr_ Tryz.func37 #[.agg #[.bool a0_0, .int .u64 a0_1, .int .u64 a0_2, .int .i64 a0_3]] ?_
           with_reducible refine (prefix_First.calls a0_0 a0_1 a0_2 a0_3 t296 t297 t298 _ A59.out).mono ?_
           rintro e w75 ⟨rfl, hb⟩
           refine ⟨_, rfl, ?_⟩
           replace BK276 := bb_ BK276 hb
           replace BK277 := bb_ BK277 hb
           replace BK278 := bb_ BK278 hb
           replace BK285 := bb_ BK285 hb
           replace BK291 := bb_ BK291 hb
           replace BK292 := bb_ BK292 hb
           replace HB := bs_ HB hb
           (try clear hb)
           (try clear hb2)
           (try clear hk)
           (try clear hi)
           refine hK.out _ _ ⟨kc_ BK285 0, kc_ BK285 1, kc_ BK285 2, kc_ BK285 3, kc_ BK291 0, kc_ BK291 1, kc_ BK291 2, kc_ BK291 3, kc_ BK276 0, kc_ BK276 1, kc_ BK276 2, kc_ BK276 3, kc_ BK292 0, kc_ BK292 1, kc_ BK292 2, kc_ BK278 0, kc_ BK278 1, kc_ BK278 2, kc_ BK277 0, kc_ BK277 1, kc_ BK277 2, kc_ BK277 3⟩ (fun hHeld => ?_)
           clear hK K
           refine norm_ (a' := ?_) ?_ ?_
           rotate_left
           ·
            show Act.put _ (some 50) _ = _
            simp only [Act.put, List.setIfInBounds_toArray, List.set_cons_zero, List.set_cons_succ, i64_w, i32_w]
            rfl
           refine pu_ 19 (some 52) (bm_ 56 1048575) rfl HT_ ⟨by rfl, by intro w'; go_simp; with_reducible rfl⟩ ?_
           refine pu_ 20 (some 53) (bm_ 56 2097151) rfl HT_ ⟨by rfl, by intro w'; go_simp; with_reducible rfl⟩ ?_
           refine pu_ 21 (some 54) (bm_ 56 4194303) rfl HT_ ⟨by rfl, by intro w'; go_simp; with_reducible rfl⟩ ?_
           refine ta_ 22 (some 55) (bm_ 56 8388607) rfl HT_ HW_ ⟨by rfl, by rintro w' ⟨s0, s1, s2, s3, s4, s5, s6, s7, s8, s9, s10, s11, s12, s13, s14, s15, s16, s17, s18, s19, s20, s21⟩; go_simp; with_reducible rfl⟩ hHeld ?_
           refine ta_ 24 (some 57) (bm_ 56 25165823) rfl HT_ HW_ ⟨by rfl, by rintro w' ⟨s0, s1, s2, s3, s4, s5, s6, s7, s8, s9, s10, s11, s12, s13, s14, s15, s16, s17, s18, s19, s20, s21⟩; go_simp; with_reducible rfl⟩ hHeld ?_
           refine one_ (i := 23) (N := some 56) (bm_ 56 33554431) rfl rfl (one_of HT_.out (by kernel_rfl)) (by decide) (fun K hK => ?_)
           refine gr_ Tryz.func38 #[.agg #[.bool a0_0, .int .u64 a0_1, .int .u64 a0_2, .int .i64 a0_3]] ?_
           with_reducible refine (prefix_Last.calls a0_0 a0_1 a0_2 a0_3 t299 t300 t301 _ A61.out).mono ?_
           rintro e w76 ⟨rfl, hb⟩
           refine ⟨_, rfl, ?_⟩
           replace BK276 := bb_ BK276 hb
           replace BK277 := bb_ BK277 hb
           replace BK278 := bb_ BK278 hb
           replace BK285 := bb_ BK285 hb
           replace BK291 := bb_ BK291 hb
           replace BK292 := bb_ BK292 hb
           replace HB := bs_ HB hb
           (try clear hb)
           (try clear hb2)
           (try clear hk)
           (try clear hi)
           refine hK.out _ _ ⟨kc_ BK285 0, kc_ BK285 1, kc_ BK285 2, kc_ BK285 3, kc_ BK291 0, kc_ BK291 1, kc_ BK291 2, kc_ BK291 3, kc_ BK276 0, kc_ BK276 1, kc_ BK276 2, kc_ BK276 3, kc_ BK292 0, kc_ BK292 1, kc_ BK292 2, kc_ BK278 0, kc_ BK278 1, kc_ BK278 2, kc_ BK277 0, kc_ BK277 1, kc_ BK277 2, kc_ BK277 3⟩ (fun hHeld => ?_)
           clear hK K
           refine norm_ (a' := ?_) ?_ ?_
           rotate_left
           ·
            show Act.put _ (some 56) _ = _
            simp only [Act.put, List.setIfInBounds_toArray, List.set_cons_zero, List.set_cons_succ, i64_w, i32_w]
            rfl
           refine one_ (i := 25) (N := some 58) (bm_ 56 67108863) rfl rfl (one_of HT_.out (by kernel_rfl)) (by decide) (fun K hK => ?_)
           refine gr_ Tryz.func39 #[.agg #[.bool a0_0, .int .u64 a0_1, .int .u64 a0_2, .int .i64 a0_3]] ?_
           with_reducible refine (platbookref03_Last.calls kj9 a0_0 a0_1 a0_2 a0_3 t302 t303 t304 _ A62.out).mono ?_
           rintro e w77 ⟨rfl, hb⟩
           refine ⟨_, rfl, ?_⟩
           replace BK276 := bb_ BK276 hb
           replace BK277 := bb_ BK277 hb
           replace BK278 := bb_ BK278 hb
           replace BK285 := bb_ BK285 hb
           replace BK291 := bb_ BK291 hb
           replace BK292 := bb_ BK292 hb
           replace HB := bs_ HB hb
           (try clear hb)
           (try clear hb2)
           (try clear hk)
           (try clear hi)
           refine hK.out _ _ ⟨kc_ BK285 0, kc_ BK285 1, kc_ BK285 2, kc_ BK285 3, kc_ BK291 0, kc_ BK291 1, kc_ BK291 2, kc_ BK291 3, kc_ BK276 0, kc_ BK276 1, kc_ BK276 2, kc_ BK276 3, kc_ BK292 0, kc_ BK292 1, kc_ BK292 2, kc_ BK278 0, kc_ BK278 1, kc_ BK278 2, kc_ BK277 0, kc_ BK277 1, kc_ BK277 2, kc_ BK277 3⟩ (fun hHeld => ?_)
           clear hK K
           refine norm_ (a' := ?_) ?_ ?_
           rotate_left
           ·
            show Act.put _ (some 58) _ = _
            simp only [Act.put, List.setIfInBounds_toArray, List.set_cons_zero, List.set_cons_succ, i64_w, i32_w]
            rfl
           refine pu_ 26 (some 59) (bm_ 56 134217727) rfl HT_ ⟨by rfl, by intro w'; go_simp; with_reducible rfl⟩ ?_
           refine pu_ 27 (some 60) (bm_ 56 268435455) rfl HT_ ⟨by rfl, by intro w'; go_simp; with_reducible rfl⟩ ?_
           refine pu_ 28 (some 61) (bm_ 56 536870911) rfl HT_ ⟨by rfl, by intro w'; go_simp; with_reducible rfl⟩ ?_
           refine ta_ 29 (some 62) (bm_ 56 1073741823) rfl HT_ HW_ ⟨by rfl, by rintro w' ⟨s0, s1, s2, s3, s4, s5, s6, s7, s8, s9, s10, s11, s12, s13, s14, s15, s16, s17, s18, s19, s20, s21⟩; go_simp; with_reducible rfl⟩ hHeld ?_
           refine ta_ 30 (some 63) (bm_ 56 2147483647) rfl HT_ HW_ ⟨by rfl, by rintro w' ⟨s0, s1, s2, s3, s4, s5, s6, s7, s8, s9, s10, s11, s12, s13, s14, s15, s16, s17, s18, s19, s20, s21⟩; go_simp; with_reducible rfl⟩ hHeld ?_
           refine ta_ 32 (some 65) (bm_ 56 6442450943) rfl HT_ HW_ ⟨by rfl, by rintro w' ⟨s0, s1, s2, s3, s4, s5, s6, s7, s8, s9, s10, s11, s12, s13, s14, s15, s16, s17, s18, s19, s20, s21⟩; go_simp; with_reducible rfl⟩ hHeld ?_
           refine ta_ 33 (some 66) (bm_ 56 15032385535) rfl HT_ HW_ ⟨by rfl, by rintro w' ⟨s0, s1, s2, s3, s4, s5, s6, s7, s8, s9, s10, s11, s12, s13, s14, s15, s16, s17, s18, s19, s20, s21⟩; go_simp; with_reducible rfl⟩ hHeld ?_
           refine one_ (i := 31) (N := some 64) (bm_ 56 17179869183) rfl rfl (one_of HT_.out (by kernel_rfl)) (by decide) (fun K hK => ?_)
           refine gr_ Tryz.func40 #[.agg #[.bool a0_0, .int .u64 a0_1, .int .u64 a0_2, .int .i64 a0_3], .agg #[.bool a2_0, .int .u64 a2_1, .int .u64 a2_2]] ?_
           with_reducible refine (prefix_Has.calls kj9 a0_0 a0_1 a0_2 a0_3 a2_0 a2_1 a2_2 t305 _ A64.out).mono ?_
           rintro e w78 ⟨rfl, hb⟩
           refine ⟨_, rfl, ?_⟩
           replace BK276 := bb_ BK276 hb
           replace BK277 := bb_ BK277 hb
           replace BK278 := bb_ BK278 hb
           replace BK285 := bb_ BK285 hb
           replace BK291 := bb_ BK291 hb
           replace BK292 := bb_ BK292 hb
           replace HB := bs_ HB hb
           (try clear hb)
           (try clear hb2)
           (try clear hk)
           (try clear hi)
           refine hK.out _ _ ⟨kc_ BK285 0, kc_ BK285 1, kc_ BK285 2, kc_ BK285 3, kc_ BK291 0, kc_ BK291 1, kc_ BK291 2, kc_ BK291 3, kc_ BK276 0, kc_ BK276 1, kc_ BK276 2, kc_ BK276 3, kc_ BK292 0, kc_ BK292 1, kc_ BK292 2, kc_ BK278 0, kc_ BK278 1, kc_ BK278 2, kc_ BK277 0, kc_ BK277 1, kc_ BK277 2, kc_ BK277 3⟩ (fun hHeld => ?_)
           clear hK K
           refine norm_ (a' := ?_) ?_ ?_
           rotate_left
           ·
            show Act.put _ (some 64) _ = _
            simp only [Act.put, List.setIfInBounds_toArray, List.set_cons_zero, List.set_cons_succ, i64_w, i32_w]
            rfl
           refine one_ (i := 34) (N := some 67) (bm_ 56 34359738367) rfl rfl (one_of HT_.out (by kernel_rfl)) (by decide) (fun K hK => ?_)
           refine gr_ Tryz.func41 #[.agg #[.bool a0_0, .int .u64 a0_1, .int .u64 a0_2, .int .i64 a0_3], .agg #[.bool a2_0, .int .u64 a2_1, .int .u64 a2_2]] ?_
           with_reducible refine (platbookref03_Has.calls kj9 a0_0 a0_1 a0_2 a0_3 a2_0 a2_1 a2_2 t306 _ A65.out).mono ?_
           rintro e w79 ⟨rfl, hb⟩
           refine ⟨_, rfl, ?_⟩
           replace BK276 := bb_ BK276 hb
           replace BK277 := bb_ BK277 hb
           replace BK278 := bb_ BK278 hb
           replace BK285 := bb_ BK285 hb
           replace BK291 := bb_ BK291 hb
           replace BK292 := bb_ BK292 hb
           replace HB := bs_ HB hb
           (try clear hb)
           (try clear hb2)
           (try clear hk)
           (try clear hi)
           refine hK.out _ _ ⟨kc_ BK285 0, kc_ BK285 1, kc_ BK285 2, kc_ BK285 3, kc_ BK291 0, kc_ BK291 1, kc_ BK291 2, kc_ BK291 3, kc_ BK276 0, kc_ BK276 1, kc_ BK276 2, kc_ BK276 3, kc_ BK292 0, kc_ BK292 1, kc_ BK292 2, kc_ BK278 0, kc_ BK278 1, kc_ BK278 2, kc_ BK277 0, kc_ BK277 1, kc_ BK277 2, kc_ BK277 3⟩ (fun hHeld => ?_)
           clear hK K
           refine norm_ (a' := ?_) ?_ ?_
           rotate_left
           ·
            show Act.put _ (some 67) _ = _
            simp only [Act.put, List.setIfInBounds_toArray, List.set_cons_zero, List.set_cons_succ, i64_w, i32_w]
            rfl
           refine pu_ 35 (some 68) (bm_ 56 68719476735) rfl HT_ ⟨by rfl, by intro w'; go_simp; with_reducible rfl⟩ ?_
           refine pu_ 36 (some 69) (bm_ 56 137438953471) rfl HT_ ⟨by rfl, by intro w'; go_simp; with_reducible rfl⟩ ?_
           refine pu_ 37 (some 70) (bm_ 56 274877906943) rfl HT_ ⟨by rfl, by intro w'; go_simp; with_reducible rfl⟩ ?_
           refine ta_ 38 (some 71) (bm_ 56 549755813887) rfl HT_ HW_ ⟨by rfl, by rintro w' ⟨s0, s1, s2, s3, s4, s5, s6, s7, s8, s9, s10, s11, s12, s13, s14, s15, s16, s17, s18, s19, s20, s21⟩; go_simp; with_reducible rfl⟩ hHeld ?_
           refine ta_ 39 (some 72) (bm_ 56 1099511627775) rfl HT_ HW_ ⟨by rfl, by rintro w' ⟨s0, s1, s2, s3, s4, s5, s6, s7, s8, s9, s10, s11, s12, s13, s14, s15, s16, s17, s18, s19, s20, s21⟩; go_simp; with_reducible rfl⟩ hHeld ?_
           refine ta_ 41 (some 74) (bm_ 56 3298534883327) rfl HT_ HW_ ⟨by rfl, by rintro w' ⟨s0, s1, s2, s3, s4, s5, s6, s7, s8, s9, s10, s11, s12, s13, s14, s15, s16, s17, s18, s19, s20, s21⟩; go_simp; with_reducible rfl⟩ hHeld ?_
           refine ta_ 42 (some 75) (bm_ 56 7696581394431) rfl HT_ HW_ ⟨by rfl, by rintro w' ⟨s0, s1, s2, s3, s4, s5, s6, s7, s8, s9, s10, s11, s12, s13, s14, s15, s16, s17, s18, s19, s20, s21⟩; go_simp; with_reducible rfl⟩ hHeld ?_
           refine one_ (i := 40) (N := some 73) (bm_ 56 8796093022207) rfl rfl (one_of HT_.out (by kernel_rfl)) (by decide) (fun K hK => ?_)
           refine gr_ Tryz.func32 #[.agg #[.bool a0_0, .int .u64 a0_1, .int .u64 a0_2, .int .i64 a0_3], .agg #[.bool a1_0, .int .u64 a1_1, .int .u64 a1_2, .int .i64 a1_3]] ?_
           with_reducible refine (prefix_Within.calls kj9 a0_0 a0_1 a0_2 a0_3 a1_0 a1_1 a1_2 a1_3 t307 _ A67.out).mono ?_
           rintro e w80 ⟨rfl, hb⟩
           refine ⟨_, rfl, ?_⟩
           replace BK276 := bb_ BK276 hb
           replace BK277 := bb_ BK277 hb
           replace BK278 := bb_ BK278 hb
           replace BK285 := bb_ BK285 hb
           replace BK291 := bb_ BK291 hb
           replace BK292 := bb_ BK292 hb
           replace HB := bs_ HB hb
           (try clear hb)
           (try clear hb2)
           (try clear hk)
           (try clear hi)
           refine hK.out _ _ ⟨kc_ BK285 0, kc_ BK285 1, kc_ BK285 2, kc_ BK285 3, kc_ BK291 0, kc_ BK291 1, kc_ BK291 2, kc_ BK291 3, kc_ BK276 0, kc_ BK276 1, kc_ BK276 2, kc_ BK276 3, kc_ BK292 0, kc_ BK292 1, kc_ BK292 2, kc_ BK278 0, kc_ BK278 1, kc_ BK278 2, kc_ BK277 0, kc_ BK277 1, kc_ BK277 2, kc_ BK277 3⟩ (fun hHeld => ?_)
           clear hK K
           refine norm_ (a' := ?_) ?_ ?_
           rotate_left
           ·
            show Act.put _ (some 73) _ = _
            simp only [Act.put, List.setIfInBounds_toArray, List.set_cons_zero, List.set_cons_succ, i64_w, i32_w]
            rfl
           refine one_ (i := 43) (N := some 76) (bm_ 56 17592186044415) rfl rfl (one_of HT_.out (by kernel_rfl)) (by decide) (fun K hK => ?_)
           refine gr_ Tryz.func42 #[.agg #[.bool a0_0, .int .u64 a0_1, .int .u64 a0_2, .int .i64 a0_3], .agg #[.bool a1_0, .int .u64 a1_1, .int .u64 a1_2, .int .i64 a1_3]] ?_
           with_reducible refine (platbookref03_Within.calls kj9 a0_0 a0_1 a0_2 a0_3 a1_0 a1_1 a1_2 a1_3 t308 _ A68.out).mono ?_
           rintro e w81 ⟨rfl, hb⟩
           refine ⟨_, rfl, ?_⟩
           replace BK276 := bb_ BK276 hb
           replace BK277 := bb_ BK277 hb
           replace BK278 := bb_ BK278 hb
           replace BK285 := bb_ BK285 hb
           replace BK291 := bb_ BK291 hb
           replace BK292 := bb_ BK292 hb
           replace HB := bs_ HB hb
           (try clear hb)
           (try clear hb2)
           (try clear hk)
           (try clear hi)
           refine hK.out _ _ ⟨kc_ BK285 0, kc_ BK285 1, kc_ BK285 2, kc_ BK285 3, kc_ BK291 0, kc_ BK291 1, kc_ BK291 2, kc_ BK291 3, kc_ BK276 0, kc_ BK276 1, kc_ BK276 2, kc_ BK276 3, kc_ BK292 0, kc_ BK292 1, kc_ BK292 2, kc_ BK278 0, kc_ BK278 1, kc_ BK278 2, kc_ BK277 0, kc_ BK277 1, kc_ BK277 2, kc_ BK277 3⟩ (fun hHeld => ?_)
           clear hK K
           refine norm_ (a' := ?_) ?_ ?_
           rotate_left
           ·
            show Act.put _ (some 76) _ = _
            simp only [Act.put, List.setIfInBounds_toArray, List.set_cons_zero, List.set_cons_succ, i64_w, i32_w]
            rfl
           refine pu_ 44 (some 77) (bm_ 56 35184372088831) rfl HT_ ⟨by rfl, by intro w'; go_simp; with_reducible rfl⟩ ?_
           refine pu_ 45 (some 78) (bm_ 56 70368744177663) rfl HT_ ⟨by rfl, by intro w'; go_simp; with_reducible rfl⟩ ?_
           refine pu_ 46 (some 79) (bm_ 56 140737488355327) rfl HT_ ⟨by rfl, by intro w'; go_simp; with_reducible rfl⟩ ?_
           refine ta_ 47 (some 80) (bm_ 56 281474976710655) rfl HT_ HW_ ⟨by rfl, by rintro w' ⟨s0, s1, s2, s3, s4, s5, s6, s7, s8, s9, s10, s11, s12, s13, s14, s15, s16, s17, s18, s19, s20, s21⟩; go_simp; with_reducible rfl⟩ hHeld ?_
           refine ta_ 48 (some 81) (bm_ 56 562949953421311) rfl HT_ HW_ ⟨by rfl, by rintro w' ⟨s0, s1, s2, s3, s4, s5, s6, s7, s8, s9, s10, s11, s12, s13, s14, s15, s16, s17, s18, s19, s20, s21⟩; go_simp; with_reducible rfl⟩ hHeld ?_
           refine ta_ 50 (some 83) (bm_ 56 1688849860263935) rfl HT_ HW_ ⟨by rfl, by rintro w' ⟨s0, s1, s2, s3, s4, s5, s6, s7, s8, s9, s10, s11, s12, s13, s14, s15, s16, s17, s18, s19, s20, s21⟩; go_simp; with_reducible rfl⟩ hHeld ?_
           refine ta_ 51 (some 84) (bm_ 56 3940649673949183) rfl HT_ HW_ ⟨by rfl, by rintro w' ⟨s0, s1, s2, s3, s4, s5, s6, s7, s8, s9, s10, s11, s12, s13, s14, s15, s16, s17, s18, s19, s20, s21⟩; go_simp; with_reducible rfl⟩ hHeld ?_
           refine one_ (i := 49) (N := some 82) (bm_ 56 4503599627370495) rfl rfl (one_of HT_.out (by kernel_rfl)) (by decide) (fun K hK => ?_)
           refine gr_ Tryz.func43 #[.agg #[.bool a0_0, .int .u64 a0_1, .int .u64 a0_2, .int .i64 a0_3], .agg #[.bool a1_0, .int .u64 a1_1, .int .u64 a1_2, .int .i64 a1_3]] ?_
           with_reducible refine (prefix_Overlap.calls kj9 a0_0 a0_1 a0_2 a0_3 a1_0 a1_1 a1_2 a1_3 t309 _ A70.out).mono ?_
           rintro e w82 ⟨rfl, hb⟩
           refine ⟨_, rfl, ?_⟩
           replace BK276 := bb_ BK276 hb
           replace BK277 := bb_ BK277 hb
           replace BK278 := bb_ BK278 hb
           replace BK285 := bb_ BK285 hb
           replace BK291 := bb_ BK291 hb
           replace BK292 := bb_ BK292 hb
           replace HB := bs_ HB hb
           (try clear hb)
           (try clear hb2)
           (try clear hk)
           (try clear hi)
           refine hK.out _ _ ⟨kc_ BK285 0, kc_ BK285 1, kc_ BK285 2, kc_ BK285 3, kc_ BK291 0, kc_ BK291 1, kc_ BK291 2, kc_ BK291 3, kc_ BK276 0, kc_ BK276 1, kc_ BK276 2, kc_ BK276 3, kc_ BK292 0, kc_ BK292 1, kc_ BK292 2, kc_ BK278 0, kc_ BK278 1, kc_ BK278 2, kc_ BK277 0, kc_ BK277 1, kc_ BK277 2, kc_ BK277 3⟩ (fun hHeld => ?_)
           clear hK K
           refine norm_ (a' := ?_) ?_ ?_
           rotate_left
           ·
            show Act.put _ (some 82) _ = _
            simp only [Act.put, List.setIfInBounds_toArray, List.set_cons_zero, List.set_cons_succ, i64_w, i32_w]
            rfl
           refine one_ (i := 52) (N := some 85) (bm_ 56 9007199254740991) rfl rfl (one_of HT_.out (by kernel_rfl)) (by decide) (fun K hK => ?_)
           refine gr_ Tryz.func44 #[.agg #[.bool a0_0, .int .u64 a0_1, .int .u64 a0_2, .int .i64 a0_3], .agg #[.bool a1_0, .int .u64 a1_1, .int .u64 a1_2, .int .i64 a1_3]] ?_
           with_reducible refine (platbookref03_Overlap.calls kj9 a0_0 a0_1 a0_2 a0_3 a1_0 a1_1 a1_2 a1_3 t310 _ A71.out).mono ?_
           rintro e w83 ⟨rfl, hb⟩
           refine ⟨_, rfl, ?_⟩
           replace BK276 := bb_ BK276 hb
           replace BK277 := bb_ BK277 hb
           replace BK278 := bb_ BK278 hb
           replace BK285 := bb_ BK285 hb
           replace BK291 := bb_ BK291 hb
           replace BK292 := bb_ BK292 hb
           replace HB := bs_ HB hb
           (try clear hb)
           (try clear hb2)
           (try clear hk)
           (try clear hi)
           refine hK.out _ _ ⟨kc_ BK285 0, kc_ BK285 1, kc_ BK285 2, kc_ BK285 3, kc_ BK291 0, kc_ BK291 1, kc_ BK291 2, kc_ BK291 3, kc_ BK276 0, kc_ BK276 1, kc_ BK276 2, kc_ BK276 3, kc_ BK292 0, kc_ BK292 1, kc_ BK292 2, kc_ BK278 0, kc_ BK278 1, kc_ BK278 2, kc_ BK277 0, kc_ BK277 1, kc_ BK277 2, kc_ BK277 3⟩ (fun hHeld => ?_)
           clear hK K
           refine norm_ (a' := ?_) ?_ ?_
           rotate_left
           ·
            show Act.put _ (some 85) _ = _
            simp only [Act.put, List.setIfInBounds_toArray, List.set_cons_zero, List.set_cons_succ, i64_w, i32_w]
            rfl
           refine pu_ 53 (some 86) (bm_ 56 18014398509481983) rfl HT_ ⟨by rfl, by intro w'; go_simp; with_reducible rfl⟩ ?_
           refine pu_ 54 (some 87) (bm_ 56 36028797018963967) rfl HT_ ⟨by rfl, by intro w'; go_simp; with_reducible rfl⟩ ?_
           refine pu_ 55 (some 8) (bm_ 56 72057594037927935) rfl HT_ ⟨by rfl, by intro w'; go_simp; with_reducible rfl⟩ ?_
           refine done_ (done_of HT_.out (by kernel_rfl)) ?_
           try go_wp2
           go_ret
           exact ⟨by first | rfl | (simp [errW_none, errW_some] <;> rfl) | (simp [*, errW_none, errW_some] <;> rfl), pb_ HB⟩
          ·
           rw [if_neg c69] at H
           have c69b0 : (t307 == t308) = false := by simpa using c69
           (try (have c69b1 : decide (t307 = t308) = false := by simpa using c69))
           (try (have c69b2 : (t307 == t308) = false := by simpa using c69))
           (try (have c69b3 : ¬ (t307 = t308) := by simpa using c69))
           clear c69
           obtain rfl := Option.some.inj H
           exact absurd HRT.out (by decide)
         ·
          rw [if_neg c66] at H
          have c66b0 : (t305 == t306) = false := by simpa using c66
          (try (have c66b1 : decide (t305 = t306) = false := by simpa using c66))
          (try (have c66b2 : (t305 == t306) = false := by simpa using c66))
          (try (have c66b3 : ¬ (t305 = t306) := by simpa using c66))
          clear c66
          obtain rfl := Option.some.inj H
          exact absurd HRT.out (by decide)
        ·
         rw [if_neg c63] at H
         have c63b0 : (t299 == t302 && ((t300 == t303 && (t301 == t304)))) = false := by simpa using c63
         (try (have c63b1 : decide (t299 = t302 && ((t300 == t303 && (t301 == t304)))) = false := by simpa using c63))
         (try (have c63b2 : (t299 == t302 && ((t300 == t303 && (t301 == t304)))) = false := by simpa using c63))
         (try (have c63b3 : ¬ (t299 = t302 && ((t300 == t303 && (t301 == t304)))) := by simpa using c63))
         clear c63
         obtain rfl := Option.some.inj H
         exact absurd HRT.out (by decide)
       ·
        rw [if_neg c60] at H
        have c60b0 : (t296 == x293000_9 && ((t297 == x293001_9 && (t298 == x293002_9)))) = false := by simpa using c60
        (try (have c60b1 : decide (t296 = x293000_9 && ((t297 == x293001_9 && (t298 == x293002_9)))) = false := by simpa using c60))
        (try (have c60b2 : (t296 == x293000_9 && ((t297 == x293001_9 && (t298 == x293002_9)))) = false := by simpa using c60))
        (try (have c60b3 : ¬ (t296 = x293000_9 && ((t297 == x293001_9 && (t298 == x293002_9)))) := by simpa using c60))
        clear c60
        obtain rfl := Option.some.inj H
        exact absurd HRT.out (by decide)
      ·
       rw [if_neg c58] at H
       have c58b0 : (t294 == t295) = false := by simpa using c58
       (try (have c58b1 : decide (t294 = t295) = false := by simpa using c58))
       (try (have c58b2 : (t294 == t295) = false := by simpa using c58))
       (try (have c58b3 : ¬ (t294 = t295) := by simpa using c58))
       clear c58
       obtain rfl := Option.some.inj H
       exact absurd HRT.out (by decide)
     ·
      rw [if_neg c55] at H
      have c55b0 : (t284 == t290) = false := beq_eq_false_iff_ne.mpr c55
      have c55b1 : (t284 != t290) = true := bne_iff_ne.mpr c55
      obtain rfl := Option.some.inj H
      exact absurd HRT.out (by decide)
    ·
     rw [if_neg c54] at H
     have c54b0 : ((t280 == t286 && ((t281 == t287 && (t282 == t288)))) && (t283 == t289)) = false := by simpa using c54
     clear c54
     obtain rfl := Option.some.inj H
     exact absurd HRT.out (by decide)
 ·
  replace c6 := Bool.eq_false_iff.mpr c6
  subst c6
  have H1 : (some false) = some r := by rw [if_neg (show ¬ (false = true) by decide)] at H; exact H
  clear H
  have H := H1
  clear H1
  obtain rfl := Option.some.inj H
  exact absurd HRT.out (by decide)

end Go.Proofs.YtgdgklibilddgaaGreatDoor.PPr

namespace Go.Proofs.YtgdgklibilddgaaGreatDoor
open Go.RowKit Go.Proofs.YtgdgklibilddgaaGreatDoorW.PrintWords Go.Proofs.YtgdgklibilddgaaGreatDoor.PPr

/-- the lowest d bits, the lowest one first -/
def rowL : Nat → Nat → List Int
  | _, 0 => []
  | x, d + 1 => ((x % 2 : Nat) : Int) :: rowL (x / 2) d
theorem rowL_succ (x d : Nat) : rowL x (d + 1) = ((x % 2 : Nat) : Int) :: rowL (x / 2) d := rfl
theorem bit_nat {b : Int} (h : b = 0 ∨ b = 1) : ∃ c : Nat, b = (c : Int) ∧ c ≤ 1 := by
  rcases h with rfl | rfl
  · exact ⟨0, rfl, by omega⟩
  · exact ⟨1, rfl, by omega⟩
theorem rowL_len : ∀ (d x : Nat), (rowL x d).length = d
  | 0, _ => rfl
  | d + 1, x => by simp [rowL, rowL_len d]
theorem rowL_add : ∀ (a b x : Nat), rowL x (a + b) = rowL x a ++ rowL (x / 2 ^ a) b
  | 0, b, x => by simp [rowL]
  | a + 1, b, x => by
    rw [show a + 1 + b = (a + b) + 1 by omega, rowL, rowL_add a b, rowL, List.cons_append, Nat.div_div_eq_div_mul, Nat.pow_succ, Nat.mul_comm 2]
theorem rowL_mod : ∀ (a h l : Nat), rowL (h * 2 ^ a + l) a = rowL l a
  | 0, _, _ => rfl
  | a + 1, h, l => by
    have e : h * 2 ^ (a + 1) = 2 * (h * 2 ^ a) := by rw [Nat.pow_succ]; rw [← Nat.mul_assoc, Nat.mul_comm 2]
    rw [rowL, rowL, show (h * 2 ^ (a + 1) + l) % 2 = l % 2 by omega, show (h * 2 ^ (a + 1) + l) / 2 = h * 2 ^ a + l / 2 by omega, rowL_mod a h]
theorem rowL_join {a b h l : Nat} (hl : l < 2 ^ a) : rowL (h * 2 ^ a + l) (a + b) = rowL l a ++ rowL h b := by
  rw [rowL_add, rowL_mod]
  congr 2
  rw [Nat.mul_comm, Nat.mul_add_div (Nat.two_pow_pos a), Nat.div_eq_of_lt hl, Nat.add_zero]
theorem rowL_bit : ∀ (d x : Nat), ∀ b ∈ rowL x d, b = 0 ∨ b = 1
  | 0, _, b, h => by cases h
  | d + 1, x, b, h => by
    rw [rowL] at h
    rcases List.mem_cons.1 h with rfl | h
    · omega
    · exact rowL_bit d (x / 2) b h
theorem tmod2 (x : Nat) : wrap64 (Int.tmod (x : Int) 2) = ((x % 2 : Nat) : Int) := by
  rw [Int.tmod_eq_emod_of_nonneg (by omega)]; unfold wrap64; omega
theorem tdiv2 (x : Nat) (h : x < 18446744073709551616) : IntKind.u64.wrap (Int.tdiv (x : Int) 2) = ((x / 2 : Nat) : Int) := by
  rw [Int.tdiv_eq_ediv_of_nonneg (by omega)]
  show ((x : Int) / 2) % 18446744073709551616 = _
  omega
theorem w64 {i : Int} (h0 : -9223372036854775808 ≤ i) (h : i < 9223372036854775808) : wrap64 i = i := by unfold wrap64; omega
theorem pbits_l1 (d : Nat) : ∀ (k : Nat) (acc : List Int) (x : Nat), d ≤ 64 → x < 18446744073709551616 → acc.length + d ≤ 1000 → platbookref01_Bits.l1 (k + d + 1) acc x (64 - (d : Int)) = some (acc ++ rowL x d) := by
  induction d with
  | zero => intro k acc x _ _ _; rw [platbookref01_Bits.l1, if_neg (by omega)]; simp [rowL]
  | succ d ih =>
    intro k acc x hd hx ha
    rw [show k + (d + 1) + 1 = (k + d + 1) + 1 by omega, platbookref01_Bits.l1, if_pos (by omega), if_pos (by omega), tmod2, tdiv2 x hx, w64 (by omega) (by omega), show (64 : Int) - ((d + 1 : Nat) : Int) + 1 = 64 - (d : Int) by omega, ih k _ (x / 2) (by omega) (by omega) (by simp; omega), rowL_succ x d]
    simp
theorem pbits_l0 (d : Nat) : ∀ (k : Nat) (acc : List Int) (x h : Nat), d ≤ 64 → x < 18446744073709551616 → h < 18446744073709551616 → acc.length + d + 64 ≤ 1000 → platbookref01_Bits.l0 (k + d + 66) acc x h (64 - (d : Int)) = some (acc ++ rowL x d ++ rowL h 64) := by
  induction d with
  | zero =>
    intro k acc x h _ _ hh ha
    rw [show k + 0 + 66 = (k + 64 + 1) + 1 by omega, platbookref01_Bits.l0, if_neg (by omega)]
    have := pbits_l1 64 k acc h (by omega) hh (by omega)
    rw [show (64 : Int) - ((64 : Nat) : Int) = 0 by omega] at this
    rw [this]; simp [rowL]
  | succ d ih =>
    intro k acc x h hd hx hh ha
    rw [show k + (d + 1) + 66 = (k + d + 66) + 1 by omega, platbookref01_Bits.l0, if_pos (by omega), if_pos (by omega), tmod2, tdiv2 x hx, w64 (by omega) (by omega), show (64 : Int) - ((d + 1 : Nat) : Int) + 1 = 64 - (d : Int) by omega, ih k _ (x / 2) h (by omega) (by omega) hh (by simp; omega), rowL_succ x d]
    simp
theorem pbits_f (k n : Nat) (hn : n < 340282366920938463463374607431768211456) : platbookref01_Bits.f (k + 130) (hi n) (lo n) = some (rowL n 128) := by
  unfold platbookref01_Bits.f hi lo
  have := pbits_l0 64 k [] (n % 18446744073709551616) (n / 18446744073709551616 % 18446744073709551616) (by omega) (by omega) (by omega) (by simp)
  rw [show (64 : Int) - ((64 : Nat) : Int) = 0 by omega] at this
  rw [show k + 130 = k + 64 + 66 by omega, this]
  have e := rowL_join (a := 64) (b := 64) (h := n / 18446744073709551616 % 18446744073709551616) (l := n % 18446744073709551616) (Nat.mod_lt _ (by decide))
  rw [show (2 : Nat) ^ 64 = 18446744073709551616 by decide, show n / 18446744073709551616 % 18446744073709551616 * 18446744073709551616 + n % 18446744073709551616 = n by omega] at e
  rw [List.nil_append, ← e]
/-- an address's bits, the highest one first -/
def rowT (n w : Nat) : List Int := (rowL n w).reverse
theorem prow_l0 (j : Nat) : ∀ (k : Nat) (xs acc : List Int), j ≤ xs.length → xs.length ≤ 1000 → acc.length + j ≤ 1000 → platbookref03_Row.l0 (k + j + 1) xs acc ((j : Int) - 1) = some (acc ++ (xs.take j).reverse) := by
  induction j with
  | zero => intro k xs acc _ _ _; rw [platbookref03_Row.l0, if_neg (by omega)]; simp
  | succ j ih =>
    intro k xs acc hj hx ha
    have e : rd xs (((j + 1 : Nat) : Int) - 1) = xs[j] := by
      unfold rd; rw [show ((((j + 1 : Nat) : Int) - 1)).toNat = j by omega]; simp [List.getD, List.getElem?_eq_getElem (show j < xs.length by omega)]
    rw [show k + (j + 1) + 1 = (k + j + 1) + 1 by omega, platbookref03_Row.l0, if_pos (by omega), if_pos (by omega), if_pos (by omega), if_pos (by omega), w64 (by omega) (by omega), e, show ((j + 1 : Nat) : Int) - 1 - 1 = (j : Int) - 1 by omega, ih k xs _ (by omega) hx (by simp; omega), List.take_succ_eq_append_getElem (show j < xs.length by omega), List.reverse_append]
    simp
theorem width_hl (v : Bool) (n : Nat) : platbookref02_Width.f v (hi n) (lo n) = some ((widthN v : Nat) : Int) := by
  unfold platbookref02_Width.f; rw [if_pos (by simpa using okW_hl n)]
theorem widthN_le (v : Bool) : widthN v ≤ 128 := by cases v <;> decide
theorem widthN_pos (v : Bool) : 32 ≤ widthN v := by cases v <;> decide
theorem prow_f (k : Nat) (v : Bool) (n : Nat) (hn : n < 340282366920938463463374607431768211456) : platbookref03_Row.f (k + 300) v (hi n) (lo n) = some (rowT n (widthN v)) := by
  unfold platbookref03_Row.f
  rw [show k + 300 = (k + 170) + 130 by omega, pbits_f _ n hn, width_hl]
  simp only [Option.bind_some]
  have hw := widthN_le v
  have hp := widthN_pos v
  rw [w64 (by omega) (by omega), show k + 170 + 130 = (k + 299 - widthN v) + widthN v + 1 by omega, prow_l0 _ _ _ _ (by rw [rowL_len]; exact hw) (by rw [rowL_len]; omega) (by simp; omega)]
  have e : rowL n 128 = rowL n (widthN v) ++ rowL (n / 2 ^ widthN v) (128 - widthN v) := by rw [← rowL_add]; congr 1; omega
  rw [e, List.take_left' (rowL_len _ _)]; rfl
/-- the number of a row of bits, the lowest one first -/
def valL : List Int → Nat
  | [] => 0
  | b :: r => b.toNat + 2 * valL r
theorem valL_append : ∀ (a b : List Int), valL (a ++ b) = valL a + 2 ^ a.length * valL b
  | [], b => by simp [valL]
  | x :: a, b => by rw [List.cons_append, valL, valL, valL_append a b, List.length_cons, Nat.pow_succ, Nat.mul_add]; rw [Nat.mul_comm (2 ^ a.length) 2, Nat.mul_assoc]; omega
theorem valL_lt : ∀ (a : List Int), (∀ b ∈ a, b = 0 ∨ b = 1) → valL a < 2 ^ a.length
  | [], _ => by simp [valL]
  | x :: a, h => by
    have h1 := valL_lt a (fun b hb => h b (by simp [hb]))
    have h2 := h x (by simp)
    rw [valL, List.length_cons, Nat.pow_succ]
    rcases h2 with rfl | rfl
    · simp; omega
    · simp; omega
theorem valL_row : ∀ (d x : Nat), valL (rowL x d) = x % 2 ^ d
  | 0, x => by simp [rowL, valL, Nat.mod_one]
  | d + 1, x => by
    rw [rowL, valL, valL_row d, Nat.pow_succ, Nat.mul_comm (2 ^ d) 2, Nat.mod_mul]
    omega
theorem valL_rep (d : Nat) : valL (List.replicate d 0) = 0 := by
  induction d with
  | zero => rfl
  | succ d ih => rw [List.replicate_succ, valL, ih]; rfl
theorem valL_ones (d : Nat) : valL (List.replicate d 1) = 2 ^ d - 1 := by
  induction d with
  | zero => rfl
  | succ d ih => rw [List.replicate_succ, valL, ih, Nat.pow_succ]; have := Nat.two_pow_pos d; simp; omega
theorem u64w {x : Nat} (h : x < 18446744073709551616) : IntKind.u64.wrap (x : Int) = (x : Int) := by show (x : Int) % 18446744073709551616 = _; omega
theorem pnum_l1 (j : Nat) : ∀ (k : Nat) (L : List Int) (H x : Nat), (∀ b ∈ L, b = 0 ∨ b = 1) → L.length ≤ 1000 → j ≤ 1000 → x * 2 ^ j + valL (L.take j) < 18446744073709551616 → platbookref01_Num.l1 (k + j + 1) L ((j : Int) - 1) H x = some ((H : Int), ((x * 2 ^ j + valL (L.take j) : Nat) : Int)) := by
  induction j with
  | zero => intro k L H x _ _ _ _; rw [platbookref01_Num.l1, if_neg (by omega)]; simp [valL]
  | succ j ih =>
    intro k L H x hb hl hj hx
    have hp : 2 ^ (j + 1) = 2 * 2 ^ j := by rw [Nat.pow_succ]; omega
    have hp0 := Nat.two_pow_pos j
    rw [show k + (j + 1) + 1 = (k + j + 1) + 1 by omega, platbookref01_Num.l1, if_pos (by omega)]
    by_cases h : j < L.length
    · have e : L.take (j + 1) = L.take j ++ [L[j]] := List.take_succ_eq_append_getElem h
      have hbj : L[j] = 0 ∨ L[j] = 1 := hb _ (List.getElem_mem h)
      obtain ⟨c, hc, hc2⟩ : ∃ c : Nat, L[j] = (c : Int) ∧ c ≤ 1 := by exact bit_nat hbj
      have er : rd L (((j + 1 : Nat) : Int) - 1) = (c : Int) := by
        unfold rd; rw [show ((((j + 1 : Nat) : Int) - 1)).toNat = j by omega]; simp [List.getD, List.getElem?_eq_getElem h, hc]
      have ev : valL (L.take (j + 1)) = valL (L.take j) + 2 ^ j * c := by
        rw [e, valL_append, List.length_take, Nat.min_eq_left (by omega), hc]; simp [valL]
      have e2 : x * 2 ^ (j + 1) + valL (L.take (j + 1)) = (2 * x + c) * 2 ^ j + valL (L.take j) := by
        rw [ev, hp, Nat.add_mul, Nat.mul_comm (2 ^ j) c, ← Nat.mul_assoc, Nat.mul_comm x 2]; omega
      rw [e2] at hx ⊢
      have hx2 : (2 * x + c) * 1 ≤ (2 * x + c) * 2 ^ j := Nat.mul_le_mul_left _ hp0
      rw [if_pos (by omega), if_pos (by omega), er, w64 (by omega) (by omega), show ((x : Int) * 2) = ((2 * x : Nat) : Int) by omega, u64w (x := 2 * x) (by omega), u64w (x := c) (by omega), show ((2 * x : Nat) : Int) + (c : Int) = ((2 * x + c : Nat) : Int) by omega, u64w (by omega), show ((j + 1 : Nat) : Int) - 1 - 1 = (j : Int) - 1 by omega]
      exact ih k L H (2 * x + c) hb hl (by omega) hx
    · have e : L.take (j + 1) = L.take j := by rw [List.take_of_length_le (by omega), List.take_of_length_le (by omega)]
      have e2 : x * 2 ^ (j + 1) + valL (L.take (j + 1)) = (2 * x) * 2 ^ j + valL (L.take j) := by
        rw [e, hp, ← Nat.mul_assoc, Nat.mul_comm x 2]
      rw [e2] at hx ⊢
      have hx2 : (2 * x) * 1 ≤ (2 * x) * 2 ^ j := Nat.mul_le_mul_left _ hp0
      rw [if_neg (by omega), w64 (by omega) (by omega), show ((x : Int) * 2) = ((2 * x : Nat) : Int) by omega, u64w (by omega), show ((j + 1 : Nat) : Int) - 1 - 1 = (j : Int) - 1 by omega]
      exact ih k L H (2 * x) hb hl (by omega) hx
theorem pnum_l0 (j : Nat) : ∀ (k : Nat) (L : List Int) (x : Nat), (∀ b ∈ L, b = 0 ∨ b = 1) → L.length ≤ 1000 → j ≤ 64 → x * 2 ^ j + valL ((L.drop 64).take j) < 18446744073709551616 → platbookref01_Num.l0 (k + j + 66) L (64 + (j : Int) - 1) x 0 = some (((x * 2 ^ j + valL ((L.drop 64).take j) : Nat) : Int), ((valL (L.take 64) : Nat) : Int)) := by
  induction j with
  | zero =>
    intro k L x hb hl _ _
    rw [show k + 0 + 66 = (k + 64 + 1) + 1 by omega, platbookref01_Num.l0, if_neg (by omega)]
    have hv : valL (L.take 64) < 2 ^ 64 := Nat.lt_of_lt_of_le (valL_lt _ (fun b h => hb b (List.mem_of_mem_take h))) (Nat.pow_le_pow_right (by omega) (by rw [List.length_take]; omega))
    have := pnum_l1 64 k L x 0 hb hl (by omega) (by rw [Nat.zero_mul, Nat.zero_add]; exact hv)
    rw [show ((64 : Nat) : Int) - 1 = 63 by omega, show k + 64 + 1 = k + 65 from rfl, show ((0 : Nat) : Int) = 0 from rfl] at this
    rw [this]; simp [valL]
  | succ j ih =>
    intro k L x hb hl hj hx
    have hp : 2 ^ (j + 1) = 2 * 2 ^ j := by rw [Nat.pow_succ]; omega
    have hp0 := Nat.two_pow_pos j
    rw [show k + (j + 1) + 66 = (k + j + 66) + 1 by omega, platbookref01_Num.l0, if_pos (by omega)]
    by_cases h : 64 + j < L.length
    · have hd : j < (L.drop 64).length := by rw [List.length_drop]; omega
      have e : (L.drop 64).take (j + 1) = (L.drop 64).take j ++ [L[64 + j]] := by rw [List.take_succ_eq_append_getElem hd, List.getElem_drop]
      have hbj : L[64 + j] = 0 ∨ L[64 + j] = 1 := hb _ (List.getElem_mem h)
      obtain ⟨c, hc, hc2⟩ : ∃ c : Nat, L[64 + j] = (c : Int) ∧ c ≤ 1 := by exact bit_nat hbj
      have er : rd L (64 + ((j + 1 : Nat) : Int) - 1) = (c : Int) := by
        unfold rd; rw [show (64 + ((j + 1 : Nat) : Int) - 1).toNat = 64 + j by omega]; simp [List.getD, List.getElem?_eq_getElem h, hc]
      have ev : valL ((L.drop 64).take (j + 1)) = valL ((L.drop 64).take j) + 2 ^ j * c := by
        rw [e, valL_append, List.length_take, Nat.min_eq_left (by omega), hc]; simp [valL]
      have e2 : x * 2 ^ (j + 1) + valL ((L.drop 64).take (j + 1)) = (2 * x + c) * 2 ^ j + valL ((L.drop 64).take j) := by
        rw [ev, hp, Nat.add_mul, Nat.mul_comm (2 ^ j) c, ← Nat.mul_assoc, Nat.mul_comm x 2]; omega
      rw [e2] at hx ⊢
      have hx2 : (2 * x + c) * 1 ≤ (2 * x + c) * 2 ^ j := Nat.mul_le_mul_left _ hp0
      rw [if_pos (by omega), if_pos (by omega), er, w64 (by omega) (by omega), show ((x : Int) * 2) = ((2 * x : Nat) : Int) by omega, u64w (x := 2 * x) (by omega), u64w (x := c) (by omega), show ((2 * x : Nat) : Int) + (c : Int) = ((2 * x + c : Nat) : Int) by omega, u64w (by omega), show 64 + ((j + 1 : Nat) : Int) - 1 - 1 = 64 + (j : Int) - 1 by omega]
      exact ih k L (2 * x + c) hb hl (by omega) hx
    · have hd : (L.drop 64).length ≤ j := by rw [List.length_drop]; omega
      have e : (L.drop 64).take (j + 1) = (L.drop 64).take j := by rw [List.take_of_length_le (by omega), List.take_of_length_le (by omega)]
      have e2 : x * 2 ^ (j + 1) + valL ((L.drop 64).take (j + 1)) = (2 * x) * 2 ^ j + valL ((L.drop 64).take j) := by
        rw [e, hp, ← Nat.mul_assoc, Nat.mul_comm x 2]
      rw [e2] at hx ⊢
      have hx2 : (2 * x) * 1 ≤ (2 * x) * 2 ^ j := Nat.mul_le_mul_left _ hp0
      rw [if_neg (by omega), w64 (by omega) (by omega), show ((x : Int) * 2) = ((2 * x : Nat) : Int) by omega, u64w (by omega), show 64 + ((j + 1 : Nat) : Int) - 1 - 1 = 64 + (j : Int) - 1 by omega]
      exact ih k L (2 * x) hb hl (by omega) hx
theorem pnum_f (k : Nat) (L : List Int) (hb : ∀ b ∈ L, b = 0 ∨ b = 1) (hl : L.length ≤ 128) : platbookref01_Num.f (k + 130) L = some (hi (valL L), lo (valL L)) := by
  unfold platbookref01_Num.f
  have hbd : ∀ b ∈ L.drop 64, b = 0 ∨ b = 1 := fun b h => hb b (List.mem_of_mem_drop h)
  have hv : valL (L.drop 64) < 2 ^ 64 := Nat.lt_of_lt_of_le (valL_lt _ hbd) (Nat.pow_le_pow_right (by omega) (by rw [List.length_drop]; omega))
  have ht : (L.drop 64).take 64 = L.drop 64 := List.take_of_length_le (by rw [List.length_drop]; omega)
  have := pnum_l0 64 k L 0 hb (by omega) (by omega) (by rw [Nat.zero_mul, Nat.zero_add, ht]; exact hv)
  rw [show (64 : Int) + ((64 : Nat) : Int) - 1 = 127 by omega, Nat.zero_mul, Nat.zero_add, ht] at this
  rw [show k + 130 = k + 64 + 66 by omega]
  rw [show ((0 : Nat) : Int) = 0 from rfl] at this
  rw [this]
  have hlo : valL (L.take 64) < 2 ^ 64 := Nat.lt_of_lt_of_le (valL_lt _ (fun b h => hb b (List.mem_of_mem_take h))) (Nat.pow_le_pow_right (by omega) (by rw [List.length_take]; omega))
  have e : valL L = valL (L.take 64) + 2 ^ (L.take 64).length * valL (L.drop 64) := by rw [← valL_append, List.take_append_drop]
  have e2 : valL L = valL (L.take 64) + 18446744073709551616 * valL (L.drop 64) := by
    by_cases h : 64 ≤ L.length
    · rw [e, List.length_take, Nat.min_eq_left h]
    · have : L.drop 64 = [] := List.drop_eq_nil_of_le (by omega)
      rw [e, this]; simp [valL]
  rw [show (2 : Nat) ^ 64 = 18446744073709551616 by decide] at hv hlo
  unfold hi lo
  rw [show valL L / 18446744073709551616 % 18446744073709551616 = valL (L.drop 64) by omega, show valL L % 18446744073709551616 = valL (L.take 64) by omega]
theorem paddr_l0 (j : Nat) : ∀ (k : Nat) (v : Bool) (xs acc : List Int), j ≤ xs.length → xs.length ≤ 128 → acc.length + j ≤ 128 → (∀ b ∈ xs, b = 0 ∨ b = 1) → (∀ b ∈ acc, b = 0 ∨ b = 1) → platbookref03_Addr.l0 (k + j + 131) v xs acc ((j : Int) - 1) = some (v, hi (valL (acc ++ (xs.take j).reverse)), lo (valL (acc ++ (xs.take j).reverse))) := by
  induction j with
  | zero =>
    intro k v xs acc _ _ ha hb1 hb2
    rw [show k + 0 + 131 = (k + 130) + 1 by omega, platbookref03_Addr.l0, if_neg (by omega), pnum_f k acc hb2 (by omega)]
    simp
  | succ j ih =>
    intro k v xs acc hj hx ha hb1 hb2
    have e : rd xs (((j + 1 : Nat) : Int) - 1) = xs[j] := by
      unfold rd; rw [show ((((j + 1 : Nat) : Int) - 1)).toNat = j by omega]; simp [List.getD, List.getElem?_eq_getElem (show j < xs.length by omega)]
    rw [show k + (j + 1) + 131 = (k + j + 131) + 1 by omega, platbookref03_Addr.l0, if_pos (by omega), if_pos (by omega), if_pos (by omega), if_pos (by omega), w64 (by omega) (by omega), e, show ((j + 1 : Nat) : Int) - 1 - 1 = (j : Int) - 1 by omega, ih k v xs _ (by omega) hx (by simp; omega) hb1 (by
      intro b h
      rcases List.mem_append.1 h with h | h
      · exact hb2 b h
      · rw [List.mem_singleton] at h; subst h; exact hb1 _ (List.getElem_mem _)), List.take_succ_eq_append_getElem (show j < xs.length by omega), List.reverse_append]
    simp
theorem paddr_f (k : Nat) (v : Bool) (xs : List Int) (hx : xs.length ≤ 128) (hb : ∀ b ∈ xs, b = 0 ∨ b = 1) : platbookref03_Addr.f (k + 300) v xs = some (v, hi (valL xs.reverse), lo (valL xs.reverse)) := by
  unfold platbookref03_Addr.f
  rw [w64 (by omega) (by omega), show k + 300 = (k + 169 - xs.length) + xs.length + 131 by omega, paddr_l0 _ _ _ _ _ (Nat.le_refl _) hx (by simpa using hx) hb (by simp)]
  simp
theorem pfilled_l0 (d : Nat) : ∀ (k i : Nat) (bit : Int) (xs : List Int) (v : Bool) (h l : Int), i + d = xs.length → xs.length ≤ 128 → (∀ b ∈ xs, b = 0 ∨ b = 1) → (bit = 0 ∨ bit = 1) → platbookref03_Filled.l0 (k + d + 301) bit xs i v h l = some (v, hi (valL (xs.take i ++ List.replicate d bit).reverse), lo (valL (xs.take i ++ List.replicate d bit).reverse)) := by
  induction d with
  | zero =>
    intro k i bit xs v h l hi hx hb _
    rw [show k + 0 + 301 = (k + 300) + 1 by omega, platbookref03_Filled.l0, if_neg (by omega), paddr_f k v xs hx hb, List.take_of_length_le (by omega)]
    simp
  | succ d ih =>
    intro k i bit xs v h l hi hx hb hbit
    rw [show k + (d + 1) + 301 = (k + d + 301) + 1 by omega, platbookref03_Filled.l0, if_pos (by omega), if_pos (by omega), w64 (by omega) (by omega), show ((i : Int)).toNat = i by omega, show (i : Int) + 1 = ((i + 1 : Nat) : Int) by omega, ih k (i + 1) bit (xs.set i bit) v h l (by rw [List.length_set]; omega) (by rw [List.length_set]; omega) (by
      intro b h
      rcases List.mem_or_eq_of_mem_set h with h | rfl
      · exact hb b h
      · exact hbit) hbit]
    have e : (xs.set i bit).take (i + 1) = xs.take i ++ [bit] := by
      rw [List.take_succ_eq_append_getElem (by rw [List.length_set]; omega), List.getElem_set_self, List.take_set_of_le (Nat.le_refl _)]
    rw [e, List.append_assoc, List.replicate_succ]; rfl
theorem rowT_len (n w : Nat) : (rowT n w).length = w := by unfold rowT; rw [List.length_reverse, rowL_len]
theorem pfilled_f (k : Nat) (v : Bool) (n : Nat) (i : Nat) (bit : Int) (hn : n < 340282366920938463463374607431768211456) (hi' : i ≤ widthN v) (hbit : bit = 0 ∨ bit = 1) : platbookref03_Filled.f (k + 500) v (hi n) (lo n) i bit = some (v, hi (n / 2 ^ (widthN v - i) % 2 ^ i * 2 ^ (widthN v - i) + bit.toNat * (2 ^ (widthN v - i) - 1)), lo (n / 2 ^ (widthN v - i) % 2 ^ i * 2 ^ (widthN v - i) + bit.toNat * (2 ^ (widthN v - i) - 1))) := by
  unfold platbookref03_Filled.f
  have hw := widthN_le v
  rw [show k + 500 = (k + 200) + 300 by omega, prow_f _ v n hn]
  simp only [Option.bind_some]
  rw [show k + 200 + 300 = (k + 199 - (widthN v - i)) + (widthN v - i) + 301 by omega, pfilled_l0 (widthN v - i) _ i bit _ v _ _ (by rw [rowT_len]; omega) (by rw [rowT_len]; omega) (by intro b h; unfold rowT at h; rw [List.mem_reverse] at h; exact rowL_bit _ _ b h) hbit]
  have e : valL ((rowT n (widthN v)).take i ++ List.replicate (widthN v - i) bit).reverse = n / 2 ^ (widthN v - i) % 2 ^ i * 2 ^ (widthN v - i) + bit.toNat * (2 ^ (widthN v - i) - 1) := by
    rw [List.reverse_append, List.reverse_replicate, valL_append, List.length_replicate]
    have e1 : ((rowT n (widthN v)).take i).reverse = rowL (n / 2 ^ (widthN v - i)) i := by
      unfold rowT
      rw [show widthN v = (widthN v - i) + i by omega, rowL_add, List.reverse_append, List.take_left' (by rw [List.length_reverse, rowL_len]), List.reverse_reverse]
      rw [show widthN v - i + i - i = widthN v - i by omega]
    have e2 : valL (List.replicate (widthN v - i) bit) = bit.toNat * (2 ^ (widthN v - i) - 1) := by
      rcases hbit with rfl | rfl
      · rw [valL_rep]; simp
      · rw [valL_ones]; simp
    rw [e1, valL_row, e2, Nat.mul_comm (2 ^ (widthN v - i))]
    omega
  rw [e]
/-- how many first ones two rows have alike -/
def alikeL : List Int → List Int → Nat
  | a :: x, b :: y => if a = b then alikeL x y + 1 else 0
  | _, _ => 0
theorem palike_l0 (d : Nat) : ∀ (k i : Nat) (x y : List Int), i + d = x.length → x.length = y.length → x.length ≤ 1000 → platbookref03_Alike.l0 (k + d + 1) x y i = some (((i + alikeL (x.drop i) (y.drop i) : Nat)) : Int) := by
  induction d with
  | zero =>
    intro k i x y hi hxy _
    rw [platbookref03_Alike.l0, if_neg (by omega), List.drop_eq_nil_of_le (by omega)]; rfl
  | succ d ih =>
    intro k i x y hi hxy hx
    have e1 : rd x (i : Int) = x[i] := by unfold rd; simp [List.getD, List.getElem?_eq_getElem (show i < x.length by omega)]
    have e2 : rd y (i : Int) = y[i] := by unfold rd; simp [List.getD, List.getElem?_eq_getElem (show i < y.length by omega)]
    rw [show k + (d + 1) + 1 = (k + d + 1) + 1 by omega, platbookref03_Alike.l0, if_pos (by omega), if_pos (by omega), if_pos (by omega), e1, e2, List.drop_eq_getElem_cons (show i < x.length by omega), List.drop_eq_getElem_cons (show i < y.length by omega), alikeL]
    by_cases h : x[i] = y[i]
    · rw [if_pos h, if_pos h, w64 (by omega) (by omega), show (i : Int) + 1 = ((i + 1 : Nat) : Int) by omega, ih k (i + 1) x y (by omega) hxy hx]
      congr 2; omega
    · rw [if_neg h, if_neg h]; simp
theorem palike_f (k : Nat) (x y : List Int) (hxy : x.length = y.length) (hx : x.length ≤ 128) : platbookref03_Alike.f (k + 200) x y = some ((alikeL x y : Nat) : Int) := by
  unfold platbookref03_Alike.f
  have := palike_l0 x.length (k + 199 - x.length) 0 x y (by omega) hxy (by omega)
  rw [show k + 199 - x.length + x.length + 1 = k + 200 by omega] at this
  rw [show ((0 : Nat) : Int) = 0 from rfl] at this
  rw [this]; simp
theorem rowT_succ (n w : Nat) : rowT n (w + 1) = ((n / 2 ^ w % 2 : Nat) : Int) :: rowT n w := by
  unfold rowT; rw [rowL_add, List.reverse_append]; rfl
theorem alike_ge (x y : Nat) : ∀ (w b : Nat), b ≤ w → (b ≤ alikeL (rowT x w) (rowT y w) ↔ x / 2 ^ (w - b) % 2 ^ b = y / 2 ^ (w - b) % 2 ^ b)
  | 0, b, h => by
    have : b = 0 := by omega
    subst this; simp [Nat.mod_one]
  | w + 1, 0, h => by simp [Nat.mod_one]
  | w + 1, b + 1, h => by
    have ih := alike_ge x y w b (by omega)
    have key : ∀ z : Nat, z / 2 ^ (w - b) % 2 ^ (b + 1) = z / 2 ^ (w - b) % 2 ^ b + 2 ^ b * (z / 2 ^ w % 2) := by
      intro z
      have e := Nat.mod_pow_succ (x := z / 2 ^ (w - b)) (b := 2) (k := b)
      rw [Nat.div_div_eq_div_mul, ← Nat.pow_add, show w - b + b = w by omega] at e
      exact e
    rw [rowT_succ, rowT_succ, alikeL, show w + 1 - (b + 1) = w - b by omega, key, key]
    have h1 : x / 2 ^ (w - b) % 2 ^ b < 2 ^ b := Nat.mod_lt _ (Nat.two_pow_pos b)
    have h2 : y / 2 ^ (w - b) % 2 ^ b < 2 ^ b := Nat.mod_lt _ (Nat.two_pow_pos b)
    generalize x / 2 ^ (w - b) % 2 ^ b = p at *
    generalize y / 2 ^ (w - b) % 2 ^ b = q at *
    have h3 : x / 2 ^ w % 2 < 2 := Nat.mod_lt _ (by omega)
    have h4 : y / 2 ^ w % 2 < 2 := Nat.mod_lt _ (by omega)
    generalize x / 2 ^ w % 2 = s at *
    generalize y / 2 ^ w % 2 = t at *
    generalize 2 ^ b = P at *
    by_cases e : s = t
    · subst e
      rw [if_pos rfl, Nat.add_le_add_iff_right, ih]
      omega
    · rw [if_neg (by omega)]
      constructor
      · intro h; omega
      · intro h
        exfalso
        have : (s = 0 ∧ t = 1) ∨ (s = 1 ∧ t = 0) := by omega
        rcases this with ⟨rfl, rfl⟩ | ⟨rfl, rfl⟩
        · simp at h; omega
        · simp at h; omega
end Go.Proofs.YtgdgklibilddgaaGreatDoor

namespace Go.Proofs.YtgdgklibilddgaaGreatDoor
open Go.RowKit Go.Proofs.YtgdgklibilddgaaGreatDoorW.PrintWords Go.Proofs.YtgdgklibilddgaaGreatDoor.PPr

/-- as a rewriting step, not by computation -/
theorem bsome {α β : Type} (x : α) (f : α → Option β) : (some x).bind f = f x := by
  have h : ∀ y : Option α, y = some x → y.bind f = f x := by intro y hy; subst hy; rfl
  exact h _ rfl
theorem aright_hl (v : Bool) {n : Nat} (hn : n < 340282366920938463463374607431768211456) : addr_Right.f v (hi n) (lo n) = some (rightB v n) := by
  unfold addr_Right.f; rw [if_pos (okW_hl n), num_hi_lo hn]
theorem rright02_hl (v : Bool) {n : Nat} (hn : n < 340282366920938463463374607431768211456) : platbookref02_Right.f v (hi n) (lo n) = some (rightB v n) := by
  unfold platbookref02_Right.f; rw [if_pos (okW_hl n), num_hi_lo hn]
theorem awidth_hl (v : Bool) (n : Nat) : addr_Width.f v (hi n) (lo n) = some ((widthN v : Nat) : Int) := by
  unfold addr_Width.f; rw [if_pos (okW_hl n)]
theorem pright_hl (v : Bool) {n : Nat} (b : Int) (hn : n < 340282366920938463463374607431768211456) : prefix_Right.f v (hi n) (lo n) b = some (rightP v n b) := by
  unfold prefix_Right.f; rw [if_pos (okW_hl n), num_hi_lo hn]
theorem free_hl (v : Bool) (n : Nat) {b : Int} (h0 : 0 ≤ b) (h1 : b ≤ (widthN v : Int)) : prefix_free.f v (hi n) (lo n) b = some (hi (2 ^ fr v b - 1), lo (2 ^ fr v b - 1)) := by
  unfold prefix_free.f; rw [okW_hl, decide_eq_true h0, decide_eq_true h1]; rfl
theorem not_hl {n : Nat} (hn : n < 340282366920938463463374607431768211456) : num_Not.f (hi n) (lo n) = some (hi (notN n), lo (notN n)) := by
  unfold num_Not.f; rw [if_pos (okW_hl n), num_hi_lo hn]
theorem and_hl {n m : Nat} (hn : n < 340282366920938463463374607431768211456) (hm : m < 340282366920938463463374607431768211456) : num_And.f (hi n) (lo n) (hi m) (lo m) = some (hi (n &&& m), lo (n &&& m)) := by
  unfold num_And.f; rw [okW_hl, okW_hl, num_hi_lo hn, num_hi_lo hm]; rfl
theorem or_hl {n m : Nat} (hn : n < 340282366920938463463374607431768211456) (hm : m < 340282366920938463463374607431768211456) : num_Or.f (hi n) (lo n) (hi m) (lo m) = some (hi (n ||| m), lo (n ||| m)) := by
  unfold num_Or.f; rw [okW_hl, okW_hl, num_hi_lo hn, num_hi_lo hm]; rfl
theorem hl_eq {a b : Nat} (ha : a < 340282366920938463463374607431768211456) (hb : b < 340282366920938463463374607431768211456) : (hi a == hi b && lo a == lo b) = (a == b) := by
  rw [Bool.eq_iff_iff]; simp only [Bool.and_eq_true, beq_iff_eq]; exact hi_lo_eq ha hb
theorem rightP_iff {v : Bool} {n : Nat} {b : Int} : rightP v n b = true ↔ n < 2 ^ widthN v ∧ 0 ≤ b ∧ b ≤ (widthN v : Int) ∧ n % 2 ^ fr v b = 0 := by
  unfold rightP rightB; simp
theorem rightB_iff {v : Bool} {n : Nat} : rightB v n = true ↔ n < 2 ^ widthN v := by unfold rightB; simp
theorem pow_w (v : Bool) : 2 ^ widthN v ≤ 340282366920938463463374607431768211456 := by cases v <;> decide
theorem top_lt {f n : Nat} (hn : n < 340282366920938463463374607431768211456) : topN f n < 340282366920938463463374607431768211456 := Nat.lt_of_le_of_lt (topN_le f n) hn
/-- without the bits behind: the reference's way -/
theorem top_ref {v : Bool} {n i : Nat} (hn : n < 2 ^ widthN v) (hi : i ≤ widthN v) : n / 2 ^ (widthN v - i) % 2 ^ i * 2 ^ (widthN v - i) = topN (widthN v - i) n := by
  unfold topN
  rw [Nat.mod_eq_of_lt]
  rw [Nat.div_lt_iff_lt_mul (Nat.two_pow_pos _), ← Nat.pow_add, show i + (widthN v - i) = widthN v by omega]; exact hn
def ofS (v : Bool) (n : Nat) (b : Int) : Bool × Nat × Int × Int := if rightB v n = true ∧ 0 ≤ b ∧ b ≤ (widthN v : Int) then (v, topN (fr v b) n, b, 0) else (false, 0, 0, 1)
def tup5 (x : Bool × Nat × Int × Int) : Bool × Int × Int × Int × Int := (x.1, hi x.2.1, lo x.2.1, x.2.2.1, x.2.2.2)
theorem hi00 : hi 0 = 0 := rfl
theorem lo00 : lo 0 = 0 := rfl
theorem fr_lt (v : Bool) (b : Int) : 2 ^ fr v b - 1 < 340282366920938463463374607431768211456 := pow_fr v b
theorem of_f (K : Nat) (hK : 1 ≤ K) (v : Bool) (n : Nat) (b : Int) (hn : n < 340282366920938463463374607431768211456) : prefix_Of.f K v (hi n) (lo n) b = some (tup5 (ofS v n b)) := by
  obtain ⟨k, rfl⟩ : ∃ k, K = k + 1 := ⟨K - 1, by omega⟩
  unfold prefix_Of.f ofS
  rw [aright_hl v hn]
  simp only [bsome]
  cases hr : rightB v n
  · rw [if_neg (by simp), if_neg (by simp), prefix_Of.j0, if_pos rfl]; rfl
  · rw [if_pos rfl]
    by_cases h0 : b < 0
    · rw [if_pos h0, if_neg (by omega), prefix_Of.j0, if_pos rfl]; rfl
    · rw [if_neg h0, awidth_hl]
      simp only [bsome]
      by_cases h1 : b ≤ (widthN v : Int)
      · rw [if_pos ⟨trivial, by omega, h1⟩, prefix_Of.j0, if_neg (by simp; omega), free_hl v n (by omega) h1]
        simp only [bsome]
        have hf := fr_lt v b
        have hnn : notN (2 ^ fr v b - 1) < 340282366920938463463374607431768211456 := by unfold notN; omega
        rw [not_hl hf]
        simp only [bsome]
        rw [and_hl hn hnn]
        have e : n &&& notN (2 ^ fr v b - 1) = topN (fr v b) n := by
          have := and_not (n := n) (f := fr v b) (k := 128) (fr_le v b) (by rw [show (2 : Nat) ^ 128 = 340282366920938463463374607431768211456 by decide]; exact hn)
          rw [← this]; unfold notN
          rw [show (340282366920938463463374607431768211455 : Nat) = 2 ^ 128 - 1 by decide]
        rw [e]
        simp only [tup5, bsome]
      · rw [if_neg (by simp only [true_and]; omega), prefix_Of.j0, if_pos (by simp; omega)]; rfl
theorem rof_f (K : Nat) (hK : 600 ≤ K) (v : Bool) (n : Nat) (b : Int) (hn : n < 340282366920938463463374607431768211456) : platbookref03_Of.f K v (hi n) (lo n) b = some (tup5 (ofS v n b)) := by
  obtain ⟨k, rfl⟩ : ∃ k, K = k + 500 := ⟨K - 500, by omega⟩
  unfold platbookref03_Of.f ofS
  rw [rright02_hl v hn]
  simp only [bsome]
  cases hr : rightB v n
  · rw [if_neg (by simp), if_neg (by simp)]; rfl
  · rw [if_pos rfl]
    by_cases h0 : b < 0
    · rw [if_pos h0, if_neg (by omega)]; rfl
    · rw [if_neg h0, width_hl]
      simp only [bsome]
      by_cases h1 : b ≤ (widthN v : Int)
      · rw [if_neg (by omega), if_pos ⟨trivial, by omega, h1⟩]
        obtain ⟨i, rfl⟩ := Int.eq_ofNat_of_zero_le (show 0 ≤ b by omega)
        rw [pfilled_f k v n i 0 hn (by omega) (.inl rfl), top_ref (rightB_iff.1 hr) (by omega)]
        simp only [bsome]
        have e : fr v (i : Int) = widthN v - i := by unfold fr; omega
        rw [e]; simp [tup5]
      · rw [if_pos (by omega), if_neg (by simp only [true_and]; omega)]; rfl
theorem rrightP_f (K : Nat) (hK : 600 ≤ K) (v : Bool) (n : Nat) (b : Int) (hn : n < 340282366920938463463374607431768211456) : platbookref03_Right.f K v (hi n) (lo n) b = some (rightP v n b) := by
  obtain ⟨k, rfl⟩ : ∃ k, K = k + 500 := ⟨K - 500, by omega⟩
  unfold platbookref03_Right.f
  rw [rright02_hl v hn]
  simp only [bsome]
  unfold rightP
  cases hr : rightB v n
  · rw [if_neg (by simp)]; rfl
  · rw [if_pos rfl]
    by_cases h0 : b < 0
    · rw [if_pos h0, decide_eq_false (by omega)]; rfl
    · rw [if_neg h0, width_hl, decide_eq_true (show 0 ≤ b by omega)]
      simp only [bsome]
      by_cases h1 : b ≤ (widthN v : Int)
      · rw [if_neg (by omega), decide_eq_true h1]
        obtain ⟨i, rfl⟩ := Int.eq_ofNat_of_zero_le (show 0 ≤ b by omega)
        rw [pfilled_f k v n i 0 hn (by omega) (.inl rfl), top_ref (rightB_iff.1 hr) (by omega)]
        have e : fr v (i : Int) = widthN v - i := by unfold fr; omega
        simp only [bsome, Int.toNat_zero, Nat.zero_mul, Nat.add_zero]
        rw [hl_eq (top_lt hn) hn, e]
        simp only [beq_self_eq_true, Bool.true_and, Option.some.injEq]
        rw [Bool.eq_iff_iff]; simp [topN_eq]
      · rw [if_pos (by omega), decide_eq_false h1]; rfl
def firstS (v : Bool) (n : Nat) (b : Int) : Bool × Nat := if rightP v n b = true then (v, n) else (false, 0)
def lastS (v : Bool) (n : Nat) (b : Int) : Bool × Nat := if rightP v n b = true then (v, n + (2 ^ fr v b - 1)) else (false, 0)
def tup3 (x : Bool × Nat) : Bool × Int × Int := (x.1, hi x.2, lo x.2)
theorem last_lt {v : Bool} {n : Nat} {b : Int} (h : rightP v n b = true) : n + (2 ^ fr v b - 1) < 2 ^ widthN v := by
  obtain ⟨h1, h2, h3, h4⟩ := rightP_iff.1 h
  have hf : fr v b ≤ widthN v := by unfold fr; omega
  have hp := Nat.two_pow_pos (fr v b)
  obtain ⟨q, hq⟩ := Nat.dvd_of_mod_eq_zero h4
  have e : 2 ^ widthN v = 2 ^ fr v b * 2 ^ (widthN v - fr v b) := by rw [← Nat.pow_add]; congr 1; omega
  rw [hq, e] at h1
  rw [hq, e]
  have h5 : q < 2 ^ (widthN v - fr v b) := Nat.lt_of_mul_lt_mul_left h1
  have h6 : 2 ^ fr v b * (q + 1) ≤ 2 ^ fr v b * 2 ^ (widthN v - fr v b) := Nat.mul_le_mul_left _ h5
  rw [Nat.mul_add, Nat.mul_one] at h6
  omega
theorem lastS_lt (v : Bool) (n : Nat) (b : Int) : (lastS v n b).2 < 340282366920938463463374607431768211456 := by
  unfold lastS; split
  · rename_i h; exact Nat.lt_of_lt_of_le (last_lt h) (pow_w v)
  · decide
theorem first_f (v : Bool) (n : Nat) (b : Int) (hn : n < 340282366920938463463374607431768211456) : prefix_First.f v (hi n) (lo n) b = some (tup3 (firstS v n b)) := by
  unfold prefix_First.f firstS
  rw [pright_hl v b hn]
  simp only [bsome]
  cases rightP v n b <;> simp [tup3, hi00, lo00]
theorem last_f (v : Bool) (n : Nat) (b : Int) (hn : n < 340282366920938463463374607431768211456) : prefix_Last.f v (hi n) (lo n) b = some (tup3 (lastS v n b)) := by
  unfold prefix_Last.f lastS
  rw [pright_hl v b hn]
  simp only [bsome]
  cases h : rightP v n b
  · simp [tup3, hi00, lo00]
  · obtain ⟨h1, h2, h3, h4⟩ := rightP_iff.1 h
    rw [if_pos rfl, if_pos rfl, free_hl v n h2 h3]
    simp only [bsome]
    rw [or_hl hn (fr_lt v b), or_ones h4]
    simp only [tup3, bsome]
theorem rlast_f (K : Nat) (hK : 600 ≤ K) (v : Bool) (n : Nat) (b : Int) (hn : n < 340282366920938463463374607431768211456) : platbookref03_Last.f K v (hi n) (lo n) b = some (tup3 (lastS v n b)) := by
  unfold platbookref03_Last.f lastS
  rw [rrightP_f K hK v n b hn]
  simp only [bsome]
  cases h : rightP v n b
  · simp [tup3, hi00, lo00]
  · obtain ⟨h1, h2, h3, h4⟩ := rightP_iff.1 h
    rw [if_pos rfl, if_pos rfl]
    obtain ⟨i, rfl⟩ := Int.eq_ofNat_of_zero_le h2
    obtain ⟨k, rfl⟩ : ∃ k, K = k + 500 := ⟨K - 500, by omega⟩
    have e : fr v (i : Int) = widthN v - i := by unfold fr; omega
    rw [pfilled_f k v n i 1 hn (by omega) (.inr rfl), top_ref h1 (by omega), ← e, topN_eq.2 h4]
    simp [tup3]
def hasS (v : Bool) (n : Nat) (b : Int) (u : Bool) (m : Nat) : Bool := rightP v n b && (rightB u m && (u == v && topN (fr v b) m == n))
theorem has_f (K : Nat) (hK : 1 ≤ K) (v : Bool) (n : Nat) (b : Int) (u : Bool) (m : Nat) (hn : n < 340282366920938463463374607431768211456) (hm : m < 340282366920938463463374607431768211456) : prefix_Has.f K v (hi n) (lo n) b u (hi m) (lo m) = some (hasS v n b u m) := by
  unfold prefix_Has.f hasS
  rw [pright_hl v b hn, aright_hl u hm, of_f K hK u m b hm]
  simp only [bsome]
  cases h : rightP v n b
  · rfl
  · cases hu : rightB u m
    · rfl
    · rw [if_pos rfl, if_pos rfl]
      by_cases huv : u = v
      · subst huv
        obtain ⟨h1, h2, h3, h4⟩ := rightP_iff.1 h
        rw [if_neg (by simp)]
        unfold ofS
        rw [if_pos ⟨hu, h2, h3⟩]
        simp only [tup5]
        rw [hl_eq (top_lt hm) hn]
        simp
      · rw [if_pos (by simpa using huv)]
        simp [huv]
theorem rhas_f (K : Nat) (hK : 700 ≤ K) (v : Bool) (n : Nat) (b : Int) (u : Bool) (m : Nat) (hn : n < 340282366920938463463374607431768211456) (hm : m < 340282366920938463463374607431768211456) : platbookref03_Has.f K v (hi n) (lo n) b u (hi m) (lo m) = some (hasS v n b u m) := by
  obtain ⟨k, rfl⟩ : ∃ k, K = k + 300 + 1 := ⟨K - 301, by omega⟩
  unfold platbookref03_Has.f hasS
  rw [rrightP_f _ (by omega) v n b hn, rright02_hl u hm]
  simp only [bsome]
  cases h : rightP v n b
  · rw [if_neg (by simp), platbookref03_Has.j0, if_pos rfl]; rfl
  · cases hu : rightB u m
    · rw [if_pos rfl, if_neg (by simp), platbookref03_Has.j0, if_pos rfl]; rfl
    · rw [if_pos rfl, if_pos rfl]
      by_cases huv : u = v
      · subst huv
        obtain ⟨h1, h2, h3, h4⟩ := rightP_iff.1 h
        rw [platbookref03_Has.j0, if_neg (by simp), prow_f k u n hn, prow_f k u m hm]
        simp only [bsome]
        rw [show k + 300 = (k + 100) + 200 by omega, palike_f _ _ _ (by rw [rowT_len, rowT_len]) (by rw [rowT_len]; exact widthN_le u)]
        simp only [bsome, Bool.true_and, beq_self_eq_true, Option.some.injEq]
        obtain ⟨i, rfl⟩ := Int.eq_ofNat_of_zero_le h2
        have hi' : i ≤ widthN u := by omega
        have e : fr u (i : Int) = widthN u - i := by unfold fr; omega
        have hl : ∀ z : Nat, z < 2 ^ widthN u → z / 2 ^ (widthN u - i) % 2 ^ i = z / 2 ^ (widthN u - i) := by
          intro z hz
          apply Nat.mod_eq_of_lt
          rw [Nat.div_lt_iff_lt_mul (Nat.two_pow_pos _), ← Nat.pow_add, show i + (widthN u - i) = widthN u by omega]; exact hz
        rw [Bool.eq_iff_iff, decide_eq_true_iff, beq_iff_eq, topN_iff h4, e]
        have := alike_ge n m (widthN u) i hi'
        rw [hl n h1, hl m (rightB_iff.1 hu)] at this
        constructor
        · intro hge; exact (this.1 (by omega)).symm
        · intro heq; have := this.2 heq.symm; omega
      · rw [platbookref03_Has.j0, if_pos (by simpa using huv)]
        simp [huv]
def withinS (v : Bool) (n : Nat) (b : Int) (u : Bool) (m : Nat) (c : Int) : Bool := rightP v n b && (rightP u m c && (decide (c ≤ b) && hasS u m c v n))
def overlapS (v : Bool) (n : Nat) (b : Int) (u : Bool) (m : Nat) (c : Int) : Bool := withinS v n b u m c || withinS u m c v n b
theorem within_f (K : Nat) (hK : 1 ≤ K) (v : Bool) (n : Nat) (b : Int) (u : Bool) (m : Nat) (c : Int) (hn : n < 340282366920938463463374607431768211456) (hm : m < 340282366920938463463374607431768211456) : prefix_Within.f K v (hi n) (lo n) b u (hi m) (lo m) c = some (withinS v n b u m c) := by
  unfold prefix_Within.f withinS
  rw [pright_hl v b hn, pright_hl u c hm, has_f K hK u m c v n hm hn]
  simp only [bsome]
  cases rightP v n b
  · rfl
  · cases rightP u m c
    · rfl
    · rw [if_pos rfl, if_pos rfl]
      by_cases h : c ≤ b
      · rw [if_pos h, decide_eq_true h]; rfl
      · rw [if_neg h, decide_eq_false h]; rfl
theorem overlap_f (K : Nat) (hK : 1 ≤ K) (v : Bool) (n : Nat) (b : Int) (u : Bool) (m : Nat) (c : Int) (hn : n < 340282366920938463463374607431768211456) (hm : m < 340282366920938463463374607431768211456) : prefix_Overlap.f K v (hi n) (lo n) b u (hi m) (lo m) c = some (overlapS v n b u m c) := by
  unfold prefix_Overlap.f overlapS
  rw [within_f K hK v n b u m c hn hm, within_f K hK u m c v n b hm hn]
  simp only [bsome]
  cases withinS v n b u m c <;> rfl
theorem div_mono {a x y f g : Nat} (h : x / 2 ^ f = y / 2 ^ f) (hfg : f ≤ g) : x / 2 ^ g = y / 2 ^ g := by
  have e : 2 ^ g = 2 ^ f * 2 ^ (g - f) := by rw [← Nat.pow_add]; congr 1; omega
  rw [e, ← Nat.div_div_eq_div_mul, ← Nat.div_div_eq_div_mul, h]
theorem hasS_right {v : Bool} {n : Nat} {b : Int} {u : Bool} {m : Nat} (h : hasS v n b u m = true) : rightP v n b = true ∧ rightB u m = true ∧ u = v ∧ m / 2 ^ fr v b = n / 2 ^ fr v b := by
  unfold hasS at h
  simp only [Bool.and_eq_true, beq_iff_eq] at h
  obtain ⟨h1, h2, h3, h4⟩ := h
  exact ⟨h1, h2, h3, (topN_iff (rightP_iff.1 h1).2.2.2).1 h4⟩
theorem hasS_mk {v : Bool} {n : Nat} {b : Int} {m : Nat} (h1 : rightP v n b = true) (h2 : rightB v m = true) (h : m / 2 ^ fr v b = n / 2 ^ fr v b) : hasS v n b v m = true := by
  unfold hasS
  rw [h1, h2]
  simp only [Bool.true_and, beq_self_eq_true, beq_iff_eq]
  exact (topN_iff (rightP_iff.1 h1).2.2.2).2 h
theorem rightP_B {v : Bool} {n : Nat} {b : Int} (h : rightP v n b = true) : rightB v n = true := rightB_iff.2 (rightP_iff.1 h).1
/-- one that has both ends of another one has no more bits -/
theorem ends_bits {u : Bool} {m : Nat} {c : Int} {n : Nat} {b : Int} (hq : hasS u m c u n = true) (hl : hasS u m c u (n + (2 ^ fr u b - 1)) = true) (hp : rightP u n b = true) : c ≤ b := by
  obtain ⟨h1, _, _, h4⟩ := hasS_right hq
  obtain ⟨_, _, _, h5⟩ := hasS_right hl
  obtain ⟨p1, p2, p3, p4⟩ := rightP_iff.1 hp
  obtain ⟨q1, q2, q3, q4⟩ := rightP_iff.1 h1
  refine Classical.byContradiction fun hcb => ?_
  have hlt : fr u c < fr u b := by unfold fr; omega
  rw [← h4] at h5
  have hp2 : 2 ^ fr u b = 2 ^ fr u c * 2 ^ (fr u b - fr u c) := by rw [← Nat.pow_add]; congr 1; omega
  have hge : 2 ≤ 2 ^ (fr u b - fr u c) := by
    have := Nat.pow_le_pow_right (n := 2) (by omega) (show 1 ≤ fr u b - fr u c by omega)
    simpa using this
  have hpos := Nat.two_pow_pos (fr u c)
  have hle : n + 2 ^ fr u c ≤ n + (2 ^ fr u b - 1) := by
    rw [hp2]
    have := Nat.mul_le_mul_left (2 ^ fr u c) hge
    omega
  have h6 := Nat.div_le_div_right (c := 2 ^ fr u c) hle
  rw [Nat.add_div_right _ hpos, h5] at h6
  omega
theorem rwithin_f (K : Nat) (hK : 700 ≤ K) (v : Bool) (n : Nat) (b : Int) (u : Bool) (m : Nat) (c : Int) (hn : n < 340282366920938463463374607431768211456) (hm : m < 340282366920938463463374607431768211456) : platbookref03_Within.f K v (hi n) (lo n) b u (hi m) (lo m) c = some (withinS v n b u m c) := by
  unfold platbookref03_Within.f withinS
  rw [rrightP_f K (by omega) v n b hn, rrightP_f K (by omega) u m c hm, rhas_f K hK u m c v n hm hn, rlast_f K (by omega) v n b hn]
  simp only [bsome, tup3]
  rw [rhas_f K hK u m c (lastS v n b).1 (lastS v n b).2 hm (lastS_lt v n b)]
  cases h1 : rightP v n b
  · rfl
  · cases h2 : rightP u m c
    · rfl
    · rw [if_pos rfl, if_pos rfl]
      have e : lastS v n b = (v, n + (2 ^ fr v b - 1)) := by unfold lastS; rw [if_pos h1]
      rw [e]
      simp only [Bool.true_and, bsome]
      cases h3 : hasS u m c v n
      · simp
      · rw [if_pos rfl]
        obtain ⟨_, _, rfl, h4⟩ := hasS_right h3
        simp only [Bool.and_true, Option.some.injEq]
        rw [Bool.eq_iff_iff, decide_eq_true_iff]
        constructor
        · intro hl; exact ends_bits h3 hl h1
        · intro hcb
          refine hasS_mk h2 (rightB_iff.2 (last_lt h1)) ?_
          rw [← h4]
          obtain ⟨p1, p2, p3, p4⟩ := rightP_iff.1 h1
          obtain ⟨q1, q2, q3, q4⟩ := rightP_iff.1 h2
          have hfr : fr v b ≤ fr v c := by unfold fr; omega
          refine div_mono (a := 0) (f := fr v b) ?_ hfr
          have hpos := Nat.two_pow_pos (fr v b)
          obtain ⟨q, rfl⟩ := Nat.dvd_of_mod_eq_zero p4
          rw [Nat.mul_add_div hpos, Nat.div_eq_of_lt (by omega), Nat.mul_div_cancel_left _ hpos, Nat.add_zero]
theorem roverlap_f (K : Nat) (hK : 700 ≤ K) (v : Bool) (n : Nat) (b : Int) (u : Bool) (m : Nat) (c : Int) (hn : n < 340282366920938463463374607431768211456) (hm : m < 340282366920938463463374607431768211456) : platbookref03_Overlap.f K v (hi n) (lo n) b u (hi m) (lo m) c = some (overlapS v n b u m c) := by
  unfold platbookref03_Overlap.f overlapS withinS
  rw [rrightP_f K (by omega) v n b hn, rrightP_f K (by omega) u m c hm, rhas_f K hK u m c v n hm hn, rhas_f K hK v n b u m hn hm]
  simp only [bsome]
  cases h1 : rightP v n b
  · simp
  · cases h2 : rightP u m c
    · simp
    · rw [if_pos rfl, if_pos rfl]
      simp only [Bool.true_and]
      by_cases hcb : c ≤ b
      · by_cases hbc : b ≤ c
        · rw [decide_eq_true hcb, decide_eq_true hbc]; cases hasS u m c v n <;> rfl
        · rw [decide_eq_true hcb, decide_eq_false hbc]
          cases h3 : hasS u m c v n
          · rw [if_neg (by simp)]
            have : hasS v n b u m = false := by
              cases h4 : hasS v n b u m
              · rfl
              · exfalso
                obtain ⟨_, _, rfl, h5⟩ := hasS_right h4
                have hfr : fr u b ≤ fr u c := by unfold fr; omega
                have := hasS_mk (v := u) (n := m) (b := c) (m := n) h2 (rightP_B h1) (div_mono (a := 0) h5.symm hfr)
                rw [this] at h3; cases h3
            rw [this]; rfl
          · rfl
      · have hbc : b ≤ c := by omega
        rw [decide_eq_false hcb, decide_eq_true hbc]
        cases h3 : hasS u m c v n
        · rfl
        · rw [if_pos rfl]
          obtain ⟨_, _, rfl, h5⟩ := hasS_right h3
          have hfr : fr v c ≤ fr v b := by unfold fr; omega
          rw [hasS_mk (v := v) (n := n) (b := b) (m := m) h1 (rightP_B h2) (div_mono (a := 0) h5.symm hfr)]
          rfl
end Go.Proofs.YtgdgklibilddgaaGreatDoor

namespace Go.Proofs.YtgdgklibilddgaaGreatDoor
open Go.RowKit Go.Proofs.YtgdgklibilddgaaGreatDoorW.PrintWords Go.Proofs.YtgdgklibilddgaaGreatDoor.PPr

theorem awake03_f : platbooklaw03_awake.f = some true := by decide +kernel
theorem bool_self (t : Bool) : (t == t) = true := by cases t <;> rfl
theorem int_self (t : Int) : (t == t) = true := by simp
theorem prefixHas_f (v : Bool) (n : Nat) (b : Int) (u : Bool) (m : Nat) (c : Int) (t : Bool) (x : Nat) (bits : Int) (hn : n < 340282366920938463463374607431768211456) (hm : m < 340282366920938463463374607431768211456) (hx : x < 340282366920938463463374607431768211456) :
    platbooklaw03_PrefixHas.f 1000 v (hi n) (lo n) b u (hi m) (lo m) c t (hi x) (lo x) bits = some true := by
  have key : ∀ (o : Bool × Nat × Int × Int) (q : Bool × Nat), q = firstS v n b →
      platbooklaw03_PrefixHas.j0 1000 o.2.2.2 o.2.2.2 v (hi n) (lo n) b u (hi m) (lo m) c t (hi x) (lo x) o.1 (hi o.2.1) (lo o.2.1) o.2.2.1 o.1 (hi o.2.1) (lo o.2.1) o.2.2.1 q.1 (hi q.2) (lo q.2) = some true := by
    rintro o q rfl
    rw [show 1000 = 999 + 1 from rfl, platbooklaw03_PrefixHas.j0]
    rw [pright_hl v b hn, rrightP_f 999 (by omega) v n b hn, first_f v n b hn, last_f v n b hn, rlast_f 999 (by omega) v n b hn, has_f 999 (by omega) v n b t x hn hx, rhas_f 999 (by omega) v n b t x hn hx, within_f 999 (by omega) v n b u m c hn hm, rwithin_f 999 (by omega) v n b u m c hn hm, overlap_f 999 (by omega) v n b u m c hn hm, roverlap_f 999 (by omega) v n b u m c hn hm]
    simp only [bsome, tup3, bool_self, int_self, Bool.and_self, if_true]
  unfold platbooklaw03_PrefixHas.f
  rw [awake03_f, of_f 1000 (by omega) t x bits hx, rof_f 1000 (by omega) t x bits hx, rrightP_f 1000 (by omega) v n b hn]
  simp only [bsome, tup5, if_true]
  have k := key (ofS t x bits) (firstS v n b) rfl
  unfold firstS at k
  cases h : rightP v n b
  · rw [h] at k
    simp only [Bool.false_eq_true, if_false, hi00, lo00] at k ⊢
    exact k
  · rw [h] at k
    simp only [if_true] at k ⊢
    exact k
theorem prefixHas_walk (v : Bool) (n : Nat) (b : Int) (u : Bool) (m : Nat) (c : Int) (t : Bool) (x : Nat) (bits : Int) (w : World) (hn : n < 340282366920938463463374607431768211456) (_ : (Lit.int .i64 b).wf = true) (hm : m < 340282366920938463463374607431768211456) (_ : (Lit.int .i64 c).wf = true) (hx : x < 340282366920938463463374607431768211456) (hG : Glob w) :
    Calls Tryz.prog 6 #[PfxV v n b, PfxV u m c, AddrV t x, .int .i64 bits] w fun e w' => e = .returned (.bool true) ∧ Below w.heap.size w w' :=
  platbooklaw03_PrefixHas.calls 1000 v (hi n) (lo n) b u (hi m) (lo m) c t (hi x) (lo x) bits true w hG rfl (prefixHas_f v n b u m c t x bits hn hm hx)
end Go.Proofs.YtgdgklibilddgaaGreatDoor

namespace Go.Proofs.YtgdgklibilddgaaGreatDoor
open Go.ChangeShapes Go.WideShapes Go.ChangeAt Go.RowKit

section
variable {H : Type} {enc : TypeId × Value → H} {P : Program}
theorem post_below {f : Func} {s : ChangeSpec} {apart fresh handsOn again : Bool} {W W' : World} {args : Array Value} {v : Value} {ds gs : List (DataW H)} {before pa pv : List MemPlace}
    (hW : DataW.Whole enc P f.params.toList s.vars apart W args.toList ds gs before)
    (hres : ∀ (b : Nat) (sp : Nat → Bool) (hd : Bool), DataW.TrodAll enc P W' b sp hd f.resultTypes.toList (v.resultList f.resultTypes.size) (s.fn H (ds ++ gs)).results [])
    (hargs : ∀ sp : Nat → Bool, (∀ p ∈ before, sp p.block = true) → DataW.TrodAll enc P W' 0 sp true f.params.toList args.toList (s.fn H (ds ++ gs)).args pa)
    (hvars : ∀ sp : Nat → Bool, (∀ p ∈ before, sp p.block = true) → DataW.TrodVars enc P W' sp s.vars (s.fn H (ds ++ gs)).vars pv)
    (hps : before = pa ++ pv) (hb : Below W.heap.size W W')
    (hok : ∀ (j : Nat) (t : TypeId) (r : Value), f.resultTypes[j]? = some t → (v.resultList f.resultTypes.size)[j]? = some r → Value.okWide P W' .any 0 t r) :
    s.post enc P f apart fresh handsOn again W args v W' := by
  have hlt : ∀ p ∈ before, p.block < W.heap.size := fun p hp => hW.lt p hp
  have hold : ∀ p ∈ before, (fun b => decide (b < W.heap.size)) p.block = true := fun p hp => by simpa using hlt p hp
  refine ⟨ds, gs, before, [], pa, pv, hW, hres _ _ _, hargs _ hold, hvars _ hold, World.keptBut_mono (fun p hp => ⟨hp, ?_⟩) (hb.frame (· ∈ before)), fun _ => ?_⟩
  · rw [hps, List.mem_append] at hp
    exact Or.inr hp
  · obtain ⟨_, _, _, _, _, hz, hn⟩ := hW
    refine ⟨hok, _, _, ([] ++ pa) ++ pv, ⟨[] ++ pa, pv, trodAll_append (hargs _ (fun _ _ => rfl)) (hres _ _ _), hvars _ (fun _ _ => rfl), rfl, ?_, ?_⟩, ?_⟩
    · intro b off hp
      have hin : MemPlace.cell b off ∈ before := by rw [hps]; simpa using hp
      rw [hb.frozen (hlt _ hin)]
      exact hz b off hin
    · intro ha
      have := hn ha
      rw [hps] at this
      simpa using this
    · intro p hp _
      rw [hps]
      simpa using hp
end

theorem Tryz.own : ownKnob Tryz.prog.godebug = none := by kernel_rfl
theorem u64_bd {n : Int} (h : (Lit.int .u64 n).wf = true) : 0 ≤ n ∧ n < 18446744073709551616 := by
  simp [Lit.wf, IntKind.min, IntKind.max, IntKind.bits, IntKind.signed] at h
  omega
end Go.Proofs.YtgdgklibilddgaaGreatDoor

namespace Go.Proofs.YtgdgklibilddgaaGreatDoor
open Go.RowKit

def listA : List (String × DataW Unit) := [("math/bits.deBruijn32tab", Rows.laid_math_bits_deBruijn32tab), ("math/bits.deBruijn64tab", Rows.laid_math_bits_deBruijn64tab), ("internal/strconv.uint64pow10", Rows.laid_internal_strconv_uint64pow10), ("unicode/utf8.acceptRanges", Rows.laid_unicode_utf8_acceptRanges), ("strconv.ErrRange", Rows.laid_strconv_ErrRange), ("strconv.ErrSyntax", Rows.laid_strconv_ErrSyntax), ("unicode/utf8.first", Rows.laid_unicode_utf8_first)]
theorem doorA_met (os : Os) (args : Array Value) : laidMetH Tryz.prog listA ((World.laidAll Tryz.prog os listA).forCall (fun _ _ => 0) ⟨#[], args, []⟩).memory := by
  rw [MakeChecks.laidMetH_plain _ _ _ (by kernel_rfl)]; exact laidMet_laidAll _ (by kernel_rfl) (by kernel_rfl)
def tabZ : List Int := Lib.deBruijn64tab.map Int.ofNat
theorem listA_tab : (Rows.laid_math_bits_deBruijn64tab : DataW Unit) = Lib.tabData .u8 tabZ := by kernel_rfl
theorem listA_pow : (Rows.laid_internal_strconv_uint64pow10 : DataW Unit) = Lib.tabData .u64 Lib.pow10Tab := by kernel_rfl
theorem err_star : "*" ++ "errors.errorString" = "*errors.errorString" := by decide
theorem err_name (u : TypeId) (h : Tryz.prog.typeName? 3 u = some "*errors.errorString") : u = 170 :=
  typeName_ptr_named (nm := "errors.errorString") (by rw [err_star]; kernel_rfl) (by kernel_rfl) (by decide) u (by rw [err_star]; exact h)
theorem glob_of {W : World} (h : laidMetH Tryz.prog listA W) (hs : W.ShapedOpen Tryz.prog) : Glob W := by
  rw [MakeChecks.laidMetH_plain _ _ _ (by kernel_rfl)] at h
  unfold listA at h
  have h2 := h.tail
  have h3 := h2.tail
  have h5 := h3.tail.tail
  have h6 := h5.tail
  rw [listA_tab] at h2
  rw [listA_pow] at h3
  refine ⟨?_, ?_, ?_, ?_, ?_⟩
  · exact cell_of_shapedOpen_int (g := 0) (t := 3) (zero := #[.int .i64 0]) hs (of_decide_eq_true (by kernel_rfl)) (by kernel_rfl) rfl (by kernel_rfl) (by kernel_rfl) Tryz.underlying3
  · obtain ⟨a, s, hv, _⟩ := laid_sentinel h6 (g := 1) (by kernel_rfl) (by kernel_rfl) Tryz.underlying83 err_name Tryz.underlying170 Tryz.underlying172 rfl rfl Tryz.underlying9 (by kernel_rfl) (by kernel_rfl)
    exact ⟨_, _, hv⟩
  · obtain ⟨a, s, hv, _⟩ := laid_sentinel h5 (g := 2) (by kernel_rfl) (by kernel_rfl) Tryz.underlying83 err_name Tryz.underlying170 Tryz.underlying172 rfl rfl Tryz.underlying9 (by kernel_rfl) (by kernel_rfl)
    exact ⟨_, _, hv⟩
  · exact Lib.tabIs_of_head (P := Tryz.prog) (g := 3) (t := 174) (e := 22) (n := 20) (by kernel_rfl) (by kernel_rfl) Tryz.underlying174 Tryz.underlying22 (by kernel_rfl) (by kernel_rfl) h3
  · have hT := Lib.tabIs_of_head (P := Tryz.prog) (g := 5) (t := 185) (e := 5) (n := 64) (by kernel_rfl) (by kernel_rfl) Tryz.underlying185 Tryz.underlying5 (by kernel_rfl) (by kernel_rfl) h2
    intro j hj
    have hc := hT.cell (g := 5) (by kernel_rfl) j (by unfold tabZ; rw [List.length_map, show Lib.deBruijn64tab.length = 64 by decide]; exact hj)
    rw [hc]
    have e : tabZ.getD j 0 = ((Lib.deBruijn64tab.getD j 0 : Nat) : Int) := by
      unfold tabZ
      simp only [List.getD_eq_getElem?_getD, List.getElem?_map]
      cases Lib.deBruijn64tab[j]? <;> rfl
    rw [e]
/-- the plain wrap with the row's condition and the start's shape -/
theorem lift_shaped {H : Type} {enc : TypeId × Value → H} {C : Checked} {os : Os} {f : FuncId} {fn : Func} {s : ChangeSpec} {X : World → Array Value → Prop}
    (hX : ∀ (w w' : World) (args : Array Value), w.heap = w'.heap → X w args → X w' args)
    (own : ownKnob C.prog.godebug = none) (started : os.Started) (noInit : C.prog.inits.idxOf? f = none) (hfn : C.prog.funcs[f]? = some fn)
    (witness : ∃ (w : World) (tape : Tape) (i : Input), w.os = os ∧ (w.forCall tape i).Shaped C.prog ∧ i.vars = [] ∧ Input.okWide C.prog (w.forCall tape i) .any w.heap.size f i ∧
      ((s.pre enc C.prog fn [] false (w.forCall tape i).memory i.args ∧ X (w.forCall tape i).memory i.args) ∧ sizedMet enc C.prog fn (OpenSpec.ofChange s) false (w.forCall tape i).memory i.args) ∧ ({} : Assume).holds C.prog (lone (Frame.enter C.prog f i.args .normal) [] (w.forCall tape i)))
    (contract : ∀ (W : World) (base : Nat) (args : Array Value) (ds gs : List (DataW H)) (before : List MemPlace),
      (∀ (j : Nat) t v, fn.params[j]? = some t → args[j]? = some v → Value.okWide C.prog W .any base t v) →
      DataW.Whole enc C.prog fn.params.toList s.vars false W args.toList ds gs before → X W args → W.ShapedOpen C.prog →
      Calls C.prog f args W fun e W' => ∃ v, e = .returned v ∧ s.post enc C.prog fn false true false false W args v W') :
    ReturnsInHanded {} C os f .any (fun w args => (s.pre enc C.prog fn [] false w args ∧ X w args) ∧ sizedMet enc C.prog fn (OpenSpec.ofChange s) false w args) (s.post enc C.prog fn false true false false) := by
  refine returnsInHanded_of_calls own started noInit witness ?_
  intro w tape i _ hshape _ hok hpre _
  obtain ⟨_, _, _, fn2, hfn2, _, _, _, _, hval⟩ := hok
  obtain rfl : fn2 = fn := Option.some.inj (hfn2.symm.trans hfn)
  obtain ⟨⟨⟨ds, gs, before, hw, _⟩, hx⟩, _⟩ := hpre
  refine (contract (w.forCall tape i) w.heap.size i.args ds gs before hval (DataW.Whole.of_heap (w' := w.forCall tape i) (by rfl) hw) (hX _ _ _ (by rfl) hx) hshape).mono fun e W' ⟨v, he, hp⟩ => ?_
  subst he
  exact ChangeSpec.post_blind hp
end Go.Proofs.YtgdgklibilddgaaGreatDoor

namespace Go.Proofs.YtgdgklibilddgaaGreatDoor
open Go.ChangeShapes Go.WideShapes Go.ChangeAt Go.RowKit Go.Joins

theorem Tryz.cellsNum : Tryz.prog.cellsOf 24 = 2 := by kernel_rfl

end Go.Proofs.YtgdgklibilddgaaGreatDoor

namespace Go.Proofs.YtgdgklibilddgaaGreatDoor
open Go.ChangeShapes Go.WideShapes Go.ChangeAt Go.RowKit Go.Joins

set_option maxRecDepth 100000 in
theorem Tryz.cellsAddr : Tryz.prog.cellsOf 26 = 3 := by kernel_rfl
def numD {H : Type} (n : Nat) : DataW H := .agg [.lit (.int .u64 (hi n)), .lit (.int .u64 (lo n))]
def addrD {H : Type} (v : Bool) (n : Nat) : DataW H := .agg [.lit (.bool v), numD n]
/-- the number's words are in their bounds -/
def numOk (n : Nat) : Prop := (Lit.int .u64 (hi n)).wf = true ∧ (Lit.int .u64 (lo n)).wf = true

set_option maxRecDepth 100000 in
theorem trod_bool_form {H : Type} {enc : TypeId × Value → H} {P : Program} {w : World} {base : Nat} {sp : Nat → Bool} {held : Bool} {fuel : Nat} {t : TypeId} {c : Value} {x : DataW H × List MemPlace} (ht : P.underlying t = some .bool)
    (h : DataW.trod enc P w base sp held fuel t [c] = some x) : ∃ b, c = .bool b ∧ x = (.lit (.bool b), []) := by
  cases fuel with
  | zero => simp [DataW.trod] at h
  | succ fuel =>
    simp only [DataW.trod, ht] at h
    split at h
    · rename_i e1 e2
      simp at e2
      subst e2
      exact ⟨_, rfl, (Option.some.inj h).symm⟩
    all_goals first | (rename_i e1 _; cases e1; done) | (cases h; done) | skip
    all_goals simp_all
set_option maxRecDepth 100000 in
theorem trod_num_form {H : Type} {enc : TypeId × Value → H} {W : World} {base : Nat} {sp : Nat → Bool} {held : Bool} {fuel : Nat} {c0 c1 : Value} {x : DataW H × List MemPlace}
    (h : DataW.trod enc Tryz.prog W base sp held fuel 24 [c0, c1] = some x) : ∃ n : Nat, n < 340282366920938463463374607431768211456 ∧ c0 = .int .u64 (hi n) ∧ c1 = .int .u64 (lo n) ∧ x = (numD n, []) ∧ numOk n := by
  obtain ⟨y0, y1, m, rfl, _, h0, h1⟩ := trod_struct2 Tryz.underlying24 h
  have h0' : DataW.trod enc Tryz.prog W base sp held m 22 [c0] = some y0 := h0
  have h1' : DataW.trod enc Tryz.prog W base sp held m 22 [c1] = some y1 := h1
  obtain ⟨a, e0, rfl, wa⟩ := DataW.trod_int Tryz.underlying22 h0'
  obtain ⟨b, e1, rfl, wb⟩ := DataW.trod_int Tryz.underlying22 h1'
  simp at e0 e1
  subst e0 e1
  obtain ⟨a0, a1⟩ := u64_bd wa
  obtain ⟨b0', b1⟩ := u64_bd wb
  refine ⟨num a b, num_lt a1 b1, ?_, ?_, ?_, ?_, ?_⟩
  · rw [hi_num a0 a1 b0' b1]
  · rw [lo_num b0' b1]
  · unfold numD; rw [hi_num a0 a1 b0' b1, lo_num b0' b1]; rfl
  · rw [hi_num a0 a1 b0' b1]; exact wa
  · rw [lo_num b0' b1]; exact wb
set_option maxRecDepth 100000 in
theorem trod_num_mk {H : Type} {enc : TypeId × Value → H} {W : World} {base : Nat} {sp : Nat → Bool} {held : Bool} {n : Nat} (h : numOk n) : DataW.trod enc Tryz.prog W base sp held 2 24 [.int .u64 (hi n), .int .u64 (lo n)] = some (numD n, []) := by
  obtain ⟨wa, wb⟩ := h
  have := trod_struct2_mk (enc := enc) (w := W) (base := base) (spare := sp) (held := held) (n := 1) (cs := [.int .u64 (hi n), .int .u64 (lo n)]) (y0 := (.lit (.int .u64 (hi n)), [])) (y1 := (.lit (.int .u64 (lo n)), [])) Tryz.underlying24 Tryz.cellsNum.symm
    (by show DataW.trod enc Tryz.prog W base sp held 1 22 [.int .u64 (hi n)] = _; simp [DataW.trod, Tryz.underlying22, wa])
    (by show DataW.trod enc Tryz.prog W base sp held 1 22 [.int .u64 (lo n)] = _; simp [DataW.trod, Tryz.underlying22, wb])
  exact this
set_option maxRecDepth 100000 in
theorem trod_addr_form {H : Type} {enc : TypeId × Value → H} {W : World} {base : Nat} {sp : Nat → Bool} {held : Bool} {fuel : Nat} {c0 c1 c2 : Value} {x : DataW H × List MemPlace}
    (h : DataW.trod enc Tryz.prog W base sp held fuel 26 [c0, c1, c2] = some x) : ∃ (v : Bool) (n : Nat), n < 340282366920938463463374607431768211456 ∧ c0 = .bool v ∧ c1 = .int .u64 (hi n) ∧ c2 = .int .u64 (lo n) ∧ x = (addrD v n, []) ∧ numOk n := by
  obtain ⟨y0, y1, m, rfl, _, h0, h1⟩ := trod_struct2 Tryz.underlying26 h
  have h0' : DataW.trod enc Tryz.prog W base sp held m 4 [c0] = some y0 := h0
  have h1' : DataW.trod enc Tryz.prog W base sp held m 24 [c1, c2] = some y1 := h1
  obtain ⟨v, rfl, rfl⟩ := trod_bool_form Tryz.underlying4 h0'
  obtain ⟨n, hn, rfl, rfl, rfl, ho⟩ := trod_num_form h1'
  exact ⟨v, n, hn, rfl, rfl, rfl, rfl, ho⟩
set_option maxRecDepth 100000 in
theorem trod_addr_mk {H : Type} {enc : TypeId × Value → H} {W : World} {base : Nat} {sp : Nat → Bool} {held : Bool} {v : Bool} {n : Nat} (h : numOk n) : DataW.trod enc Tryz.prog W base sp held 3 26 [.bool v, .int .u64 (hi n), .int .u64 (lo n)] = some (addrD v n, []) := by
  have := trod_struct2_mk (enc := enc) (w := W) (base := base) (spare := sp) (held := held) (n := 2) (cs := [.bool v, .int .u64 (hi n), .int .u64 (lo n)]) (y0 := (.lit (.bool v), [])) (y1 := (numD n, [])) Tryz.underlying26 Tryz.cellsAddr.symm
    (by show DataW.trod enc Tryz.prog W base sp held 2 4 [.bool v] = _; simp [DataW.trod, Tryz.underlying4])
    (trod_num_mk h)
  exact this
set_option maxRecDepth 100000 in
/-- an address as an argument -/
theorem open_addr {H : Type} {enc : TypeId × Value → H} {W : World} {base b0 : Nat} {sp : Nat → Bool} {v : Value} {d : DataW H} {p : List MemPlace} {r : Reach}
    (hv : Value.okWide Tryz.prog W r b0 26 v) (h : DataW.Trod enc Tryz.prog W base sp true 26 v d p) :
    ∃ (u : Bool) (n : Nat), n < 340282366920938463463374607431768211456 ∧ v = AddrV u n ∧ d = addrD u n ∧ p = [] ∧ numOk n := by
  obtain ⟨cs, rfl, hsz⟩ := okWide_struct Tryz.underlying26 hv
  obtain ⟨c0, c1, c2, rfl⟩ := array3 (hsz.trans Tryz.cellsAddr)
  obtain ⟨fuel, hf⟩ := h
  obtain ⟨u, n, hn, rfl, rfl, rfl, e, ho⟩ := trod_addr_form hf
  simp only [Prod.mk.injEq] at e
  exact ⟨u, n, hn, rfl, e.1, e.2, ho⟩
set_option maxRecDepth 100000 in
theorem shut_addr {H : Type} {enc : TypeId × Value → H} {W : World} {base : Nat} {sp : Nat → Bool} {u : Bool} {n : Nat} (h : numOk n) :
    DataW.Trod enc Tryz.prog W base sp true 26 (AddrV u n) (addrD u n) [] := ⟨3, trod_addr_mk h⟩
end Go.Proofs.YtgdgklibilddgaaGreatDoor

namespace Go.Proofs.YtgdgklibilddgaaGreatDoor
open Go.ChangeShapes Go.WideShapes Go.ChangeAt Go.RowKit Go.Joins

set_option maxRecDepth 100000 in
theorem Tryz.cellsPfx : Tryz.prog.cellsOf 38 = 4 := by kernel_rfl
def pfxD {H : Type} (v : Bool) (n : Nat) (b : Int) : DataW H := .agg [addrD v n, .lit (.int .i64 b)]
def pfxOk (n : Nat) (b : Int) : Prop := numOk n ∧ (Lit.int .i64 b).wf = true
set_option maxRecDepth 100000 in
theorem trod_pfx_form {H : Type} {enc : TypeId × Value → H} {W : World} {base : Nat} {sp : Nat → Bool} {held : Bool} {fuel : Nat} {c0 c1 c2 c3 : Value} {x : DataW H × List MemPlace}
    (h : DataW.trod enc Tryz.prog W base sp held fuel 38 [c0, c1, c2, c3] = some x) : ∃ (v : Bool) (n : Nat) (b : Int), n < 340282366920938463463374607431768211456 ∧ c0 = .bool v ∧ c1 = .int .u64 (hi n) ∧ c2 = .int .u64 (lo n) ∧ c3 = .int .i64 b ∧ x = (pfxD v n b, []) ∧ pfxOk n b := by
  obtain ⟨y0, y1, m, rfl, _, h0, h1⟩ := trod_struct2 Tryz.underlying38 h
  have h0' : DataW.trod enc Tryz.prog W base sp held m 26 [c0, c1, c2] = some y0 := h0
  have h1' : DataW.trod enc Tryz.prog W base sp held m 3 [c3] = some y1 := h1
  obtain ⟨v, n, hn, rfl, rfl, rfl, rfl, ho⟩ := trod_addr_form h0'
  obtain ⟨b, e1, rfl, wb⟩ := DataW.trod_int Tryz.underlying3 h1'
  simp at e1
  subst e1
  exact ⟨v, n, b, hn, rfl, rfl, rfl, rfl, rfl, ho, wb⟩
set_option maxRecDepth 100000 in
theorem trod_pfx_mk {H : Type} {enc : TypeId × Value → H} {W : World} {base : Nat} {sp : Nat → Bool} {held : Bool} {v : Bool} {n : Nat} {b : Int} (h : pfxOk n b) : DataW.trod enc Tryz.prog W base sp held 4 38 [.bool v, .int .u64 (hi n), .int .u64 (lo n), .int .i64 b] = some (pfxD v n b, []) := by
  have wb := h.2
  have := trod_struct2_mk (enc := enc) (w := W) (base := base) (spare := sp) (held := held) (n := 3) (cs := [.bool v, .int .u64 (hi n), .int .u64 (lo n), .int .i64 b]) (y0 := (addrD v n, [])) (y1 := (.lit (.int .i64 b), [])) Tryz.underlying38 Tryz.cellsPfx.symm
    (trod_addr_mk h.1)
    (by show DataW.trod enc Tryz.prog W base sp held 3 3 [.int .i64 b] = _; simp [DataW.trod, Tryz.underlying3, wb])
  exact this
theorem arr4 {α : Type} {cs : Array α} (h : cs.size = 4) : ∃ c0 c1 c2 c3, cs = #[c0, c1, c2, c3] := by
  rcases cs with ⟨l⟩
  match l, h with
  | [a, b, c, d], _ => exact ⟨a, b, c, d, rfl⟩
set_option maxRecDepth 100000 in
/-- a prefix as an argument -/
theorem open_pfx {H : Type} {enc : TypeId × Value → H} {W : World} {base b0 : Nat} {sp : Nat → Bool} {v : Value} {d : DataW H} {p : List MemPlace} {r : Reach}
    (hv : Value.okWide Tryz.prog W r b0 38 v) (h : DataW.Trod enc Tryz.prog W base sp true 38 v d p) :
    ∃ (u : Bool) (n : Nat) (b : Int), n < 340282366920938463463374607431768211456 ∧ (Lit.int .i64 b).wf = true ∧ v = PfxV u n b ∧ d = pfxD u n b ∧ p = [] ∧ pfxOk n b := by
  obtain ⟨cs, rfl, hsz⟩ := okWide_struct Tryz.underlying38 hv
  obtain ⟨c0, c1, c2, c3, rfl⟩ := arr4 (hsz.trans Tryz.cellsPfx)
  obtain ⟨fuel, hf⟩ := h
  obtain ⟨u, n, b, hn, rfl, rfl, rfl, rfl, e, ho⟩ := trod_pfx_form hf
  simp only [Prod.mk.injEq] at e
  exact ⟨u, n, b, hn, ho.2, rfl, e.1, e.2, ho⟩
set_option maxRecDepth 100000 in
theorem shut_pfx {H : Type} {enc : TypeId × Value → H} {W : World} {base : Nat} {sp : Nat → Bool} {u : Bool} {n : Nat} {b : Int} (h : pfxOk n b) :
    DataW.Trod enc Tryz.prog W base sp true 38 (PfxV u n b) (pfxD u n b) [] := ⟨4, trod_pfx_mk h⟩
end Go.Proofs.YtgdgklibilddgaaGreatDoor

namespace Go.Proofs.YtgdgklibilddgaaGreatDoor
open Go.ChangeShapes Go.WideShapes Go.ChangeAt Go.RowKit
open Go.ChangeMaps (open_string shut_string)

set_option maxRecDepth 100000 in
theorem prefixHas_lifted (os : Os) (started : os.Started) (H : Type) (enc : TypeId × Value → H) :
    ReturnsInHanded {} Tryz.checked os 6 .any (fun w args => (Rows.prefixHasSpec.pre enc Tryz.prog Tryz.f6 [] false w args ∧ laidMetH Tryz.prog listA w) ∧ sizedMet enc Tryz.prog Tryz.f6 (OpenSpec.ofChange Rows.prefixHasSpec) false w args)
      (Rows.prefixHasSpec.post enc Tryz.prog Tryz.f6 false true false false) := by
  refine lift_shaped (C := Tryz.checked) (X := fun w _ => laidMetH Tryz.prog listA w) (fun _ _ _ hh h => h.of_heap hh) Tryz.own started (by kernel_rfl) Tryz.func6
    (ChangeSpec.witness_shaped (enc := enc) (C := Tryz.checked) (os := os) (X := fun w _ => laidMetH Tryz.prog listA w) false (World.laidAll Tryz.prog os listA) #[.agg #[.bool false, .int .u64 0, .int .u64 0, .int .i64 0], .agg #[.bool false, .int .u64 0, .int .u64 0, .int .i64 0], .agg #[.bool false, .int .u64 0, .int .u64 0], .int .i64 0] 8 (World.laidAll_os _ _ _) (World.shaped_of_ZipB (by kernel_rfl) (by kernel_rfl)) (by kernel_rfl) (by kernel_rfl) (by kernel_rfl) (doorA_met os _)) ?_
  intro W base args ds gs before hval0 hW hL hSh
  have hval : ∀ (j : Nat) t v, Tryz.f6.params[j]? = some t → args[j]? = some v → Value.okWide Tryz.prog W .any base t v := hval0
  have hW' := hW
  obtain ⟨p, q, hA0, hV, rfl, _, _⟩ := hW
  have hA : DataW.TrodAll enc Tryz.prog W 0 (fun _ => true) true Tryz.f6.params.toList args.toList ds p := hA0
  rw [Tryz.params6] at hA hval
  obtain ⟨v0, v1, v2, v3, d0, d1, d2, d3, p0, p1, p2, p3, rfl, rfl, rfl, h0, h1, h2, h3⟩ := trodAll_four hA
  obtain ⟨rfl, rfl⟩ := trodVars_none hV
  obtain ⟨u0, x0, b0, hx0, hb0, rfl, rfl, rfl, ho0⟩ := open_pfx (hval 0 38 v0 rfl rfl) h0
  obtain ⟨u1, x1, b1, hx1, hb1, rfl, rfl, rfl, ho1⟩ := open_pfx (hval 1 38 v1 rfl rfl) h1
  obtain ⟨u2, x2, hx2, rfl, rfl, rfl, ho2⟩ := open_addr (hval 2 26 v2 rfl rfl) h2
  obtain ⟨x3, rfl, rfl, rfl, wx3⟩ := open_int Tryz.underlying3 (hval 3 3 v3 rfl rfl) h3
  clear hA0 hval0
  simp only [List.append_nil] at hW'
  refine (prefixHas_walk u0 x0 b0 u1 x1 b1 u2 x2 x3 W hx0 hb0 hx1 hb1 hx2 (glob_of hL hSh)).mono fun e W' ⟨he, hw⟩ => ?_
  subst he
  exact ⟨_, rfl, post_below (pa := []) (pv := []) hW' (fun _ _ _ => trodAll_mk1 (shut_bool Tryz.underlying4 _)) (fun sp _ => trodAll_mk4 (shut_pfx ho0) (shut_pfx ho1) (shut_addr ho2) (shut_int Tryz.underlying3 wx3)) (fun _ _ => rfl) rfl
    hw (ok_one (by kernel_rfl) rfl (okWide_bool_mk Tryz.underlying4 _))⟩

theorem prefixHas_row : Rows.PrefixHasSaid :=
  OpenClaim.holds_of_wide 6 Tryz.f6 rfl rfl rfl rfl rfl rfl rfl ⟨rfl, rfl, rfl, rfl, rfl⟩ rfl rfl rfl rfl rfl (by kernel_rfl) Tryz.func6 (by kernel_rfl)
    (of_decide_eq_true (by kernel_rfl)) (by unfold Func.isWrapper; first | (rw [if_pos (by decide +kernel)]; kernel_rfl) | (rw [if_neg (by decide +kernel)]; exact ⟨rfl, rfl⟩))
    (fun os started H enc _ => prefixHas_lifted os started H enc)

theorem prefixHas_card : Rows.PrefixHasCardSaid :=
  Claim7.holds_tied_plain_at .later [] [.data, .data, .data, .data, .sentinel, .sentinel, .pinned] true Rows.prefixHasCard.stood.harness true
    prefixHas_row (fun _ h => by cases h) (by kernel_rfl) (fun _ h => by cases h) prefixHas_row_tie rfl ⟨rfl, rfl⟩ (by kernel_rfl) rfl
    (fun f fn hf hfn => by
      obtain rfl : f = 6 := Option.some.inj ((show Tryz.prog.funcNamed "platbook/platbooklaw03.PrefixHas" = some 6 by kernel_rfl).symm.trans hf) |>.symm
      obtain rfl : fn = Tryz.f6 := (Option.some.inj (Tryz.func6.symm.trans hfn)).symm
      exact ⟨by kernel_rfl, fun j t ht => by
        rw [Tryz.params6] at ht
        have hm : t ∈ [38, 38, 26, 3] := by simpa using Array.mem_of_getElem? ht
        have hall : ([38, 38, 26, 3].all fun u => !Tryz.prog.wantsStandIn u) = true := by kernel_rfl
        exact (show Tryz.prog.wantsStandIn t = false by simpa using List.all_eq_true.1 hall t hm)⟩)
    (by kernel_rfl)
end Go.Proofs.YtgdgklibilddgaaGreatDoor

#print axioms Go.Proofs.YtgdgklibilddgaaGreatDoor.prefixHas_card
