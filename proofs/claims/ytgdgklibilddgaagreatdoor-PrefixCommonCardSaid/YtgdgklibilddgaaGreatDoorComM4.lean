/-
A part of the proof of prefixCommon_card: its lemmas and walks, part 4. No condition.
-/
import Derived.Test.YtgdgklibilddgaaGreatDoorComM3
set_option linter.unusedVariables false
set_option linter.unusedSimpArgs false
namespace Go.Proofs.YtgdgklibilddgaaGreatDoor.PPr
open Go.RowKit Go.Proofs.YtgdgklibilddgaaGreatDoorW.PrintWords Go.Proofs.YtgdgklibilddgaaGreatDoorW.PrintLast Go.Proofs.YtgdgklibilddgaaGreatDoorW.PrintMore
attribute [local go_sem] max2_int min2_int max_two min_two max_three min_three max_four min_four   -- for this text's walks alone

attribute [local go_sem high] eqA38
def prefix_Has.f (k : Nat) (a0_0 : Bool) (a0_1 : Int) (a0_2 : Int) (a0_3 : Int) (a1_0 : Bool) (a1_1 : Int) (a1_2 : Int) : Option (Bool) := (prefix_Right.f a0_0 a0_1 a0_2 a0_3).bind fun t208 => (if t208 = true then ((addr_Right.f a1_0 a1_1 a1_2).bind fun t209 => (if t209 = true then (if (a1_0 != a0_0) = true then (some false) else ((prefix_Of.f k a1_0 a1_1 a1_2 a0_3).bind fun bt210 => (some ((bt210.1 == a0_0 && ((bt210.2.1 == a0_1 && (bt210.2.2.1 == a0_2)))) && (bt210.2.2.2.1 == a0_3))))) else (some false))) else (some false))
set_option maxHeartbeats 8000000 in
set_option maxRecDepth 100000 in
theorem prefix_Has.calls (k : Nat) (a0_0 : Bool) (a0_1 : Int) (a0_2 : Int) (a0_3 : Int) (a1_0 : Bool) (a1_1 : Int) (a1_2 : Int) (r : Bool) (w : World) (h : prefix_Has.f k a0_0 a0_1 a0_2 a0_3 a1_0 a1_1 a1_2 = some r) :
  Calls Tryz.prog 40 #[.agg #[.bool a0_0, .int .u64 a0_1, .int .u64 a0_2, .int .i64 a0_3], .agg #[.bool a1_0, .int .u64 a1_1, .int .u64 a1_2]] w fun e w' => e = .returned (.bool r) ∧ Below w.heap.size w w' := by
 have hu38 := Tryz.underlying38
 have hu26 := Tryz.underlying26
 have HB := Aside0.mk (Below.refl w.heap.size w)
 have H : ((prefix_Right.f a0_0 a0_1 a0_2 a0_3).bind fun t208 => (if t208 = true then ((addr_Right.f a1_0 a1_1 a1_2).bind fun t209 => (if t209 = true then (if (a1_0 != a0_0) = true then (some false) else ((prefix_Of.f k a1_0 a1_1 a1_2 a0_3).bind fun bt210 => (some ((bt210.1 == a0_0 && ((bt210.2.1 == a0_1 && (bt210.2.2.1 == a0_2)))) && (bt210.2.2.2.1 == a0_3))))) else (some false))) else (some false))) = some r := h
 clear h
 replace H := Option.bind_eq_some_iff.mp H
 obtain ⟨t208, A30, H⟩ := H
 replace H : (if t208 = true then ((addr_Right.f a1_0 a1_1 a1_2).bind fun t209 => (if t209 = true then (if (a1_0 != a0_0) = true then (some false) else ((prefix_Of.f k a1_0 a1_1 a1_2 a0_3).bind fun bt210 => (some ((bt210.1 == a0_0 && ((bt210.2.1 == a0_1 && (bt210.2.2.1 == a0_2)))) && (bt210.2.2.2.1 == a0_3))))) else (some false))) else (some false)) = some r := H
 have A3 := Aside0.mk A30
 clear A30
 by_cases c4 : t208 = true
 ·
  subst c4
  rw [if_pos rfl] at H
  replace H := Option.bind_eq_some_iff.mp H
  obtain ⟨t209, A50, H⟩ := H
  replace H : (if t209 = true then (if (a1_0 != a0_0) = true then (some false) else ((prefix_Of.f k a1_0 a1_1 a1_2 a0_3).bind fun bt210 => (some ((bt210.1 == a0_0 && ((bt210.2.1 == a0_1 && (bt210.2.2.1 == a0_2)))) && (bt210.2.2.2.1 == a0_3))))) else (some false)) = some r := H
  have A5 := Aside0.mk A50
  clear A50
  by_cases c6 : t209 = true
  ·
   subst c6
   rw [if_pos rfl] at H
   by_cases c7 : (a1_0 != a0_0) = true
   ·
    rw [if_pos c7] at H
    have c7b0 : (a1_0 != a0_0) = true := c7
    (try (have c7b1 : decide (a1_0 = a0_0) = false := by simpa using c7))
    (try (have c7b2 : (a1_0 == a0_0) = false := by simpa using c7))
    (try (have c7b3 : ¬ (a1_0 = a0_0) := by simpa using c7))
    clear c7
    obtain rfl := Option.some.inj H
    go_enter Tryz.func40, Tryz.ntmps40
    go_wp2_with (first | ((with_reducible refine gate_dst (N := 2) rfl ?_); refine bx_ 2 #[.bool a0_0, .int .u64 a0_1, .int .u64 a0_2, .int .i64 a0_3] 38 ?_; intro gb206 hg w8 hbox hb; have BK206 := Aside0.mk (hbox); have GW206 := gw_ HB hg; have GE206 := gw_ HB hg; replace HB := bs_ HB hb; clear hb hbox hg) | ((with_reducible refine gate_dst (N := 3) rfl ?_); refine bx_ 3 #[.bool a1_0, .int .u64 a1_1, .int .u64 a1_2] 26 ?_; intro gb207 hg w9 hbox hb; have BK207 := Aside0.mk (hbox); have GW207 := gw_ HB hg; have GE207 := gw_ HB hg; have NB206_207 := nl_ BK206 hg; have NB207_206 := ng_ BK206 hg; replace BK206 := bb_ BK206 hb; replace HB := bs_ HB hb; clear hb hbox hg; have hnb10 := NB206_207.out; have hnc10 := NB207_206.out; obtain ⟨hcz11_0, hcz11_1, hcz11_2, hcz11_3, hfz11_0, hfz11_1, hfz11_2, hfz11_3⟩ := c4_ BK206) | ((with_reducible refine gate_callee (f := 36) rfl ?_); refine gl_ (some 8) Tryz.func36 #[.agg #[.bool a0_0, .int .u64 a0_1, .int .u64 a0_2, .int .i64 a0_3]] ?_; (with_reducible refine (prefix_Right.calls a0_0 a0_1 a0_2 a0_3 true _ A3.out).mono ?_); rintro e w12 ⟨rfl, hb⟩; refine ⟨_, rfl, ?_⟩; replace BK206 := bb_ BK206 hb; replace BK207 := bb_ BK207 hb; replace HB := bs_ HB hb; (try clear hb); (try clear hb2); (try clear hk); (try clear hi); obtain ⟨hcz13_0, hcz13_1, hcz13_2, hfz13_0, hfz13_1, hfz13_2⟩ := c3_ BK207) | (go_at_call 18; (with_reducible refine (addr_Right.calls a1_0 a1_1 a1_2 true _ A5.out).mono ?_); rintro e w14 ⟨rfl, hb⟩; replace BK206 := bb_ BK206 hb; replace BK207 := bb_ BK207 hb; replace HB := bs_ HB hb; (try clear hb); (try clear hb2); (try clear hk); (try clear hi); obtain ⟨hcz15_0, hcz15_1, hcz15_2, hfz15_0, hfz15_1, hfz15_2⟩ := c3_ BK207; obtain ⟨hcz16_0, hcz16_1, hcz16_2, hcz16_3, hfz16_0, hfz16_1, hfz16_2, hfz16_3⟩ := c4_ BK206))
    go_ret
    exact ⟨by first | rfl | (simp [errW_none, errW_some] <;> rfl) | (simp [*, errW_none, errW_some] <;> rfl), pb_ HB⟩
   ·
    rw [if_neg c7] at H
    have c7b0 : (a1_0 != a0_0) = false := by simpa using c7
    (try (have c7b1 : decide (a1_0 = a0_0) = true := by simpa using c7))
    (try (have c7b2 : (a1_0 == a0_0) = true := by simpa using c7))
    clear c7
    replace H := Option.bind_eq_some_iff.mp H
    obtain ⟨⟨t210, t211, t212, t213, t214⟩, A170, H⟩ := H
    replace H : (some ((t210 == a0_0 && ((t211 == a0_1 && (t212 == a0_2)))) && (t213 == a0_3))) = some r := H
    have A17 := Aside0.mk A170
    clear A170
    obtain rfl := Option.some.inj H
    go_enter Tryz.func40, Tryz.ntmps40
    go_wp2_with (first | ((with_reducible refine gate_dst (N := 2) rfl ?_); refine bx_ 2 #[.bool a0_0, .int .u64 a0_1, .int .u64 a0_2, .int .i64 a0_3] 38 ?_; intro gb206 hg w18 hbox hb; have BK206 := Aside0.mk (hbox); have GW206 := gw_ HB hg; have GE206 := gw_ HB hg; replace HB := bs_ HB hb; clear hb hbox hg) | ((with_reducible refine gate_dst (N := 3) rfl ?_); refine bx_ 3 #[.bool a1_0, .int .u64 a1_1, .int .u64 a1_2] 26 ?_; intro gb207 hg w19 hbox hb; have BK207 := Aside0.mk (hbox); have GW207 := gw_ HB hg; have GE207 := gw_ HB hg; have NB206_207 := nl_ BK206 hg; have NB207_206 := ng_ BK206 hg; replace BK206 := bb_ BK206 hb; replace HB := bs_ HB hb; clear hb hbox hg; have hnb20 := NB206_207.out; have hnc20 := NB207_206.out; obtain ⟨hcz21_0, hcz21_1, hcz21_2, hcz21_3, hfz21_0, hfz21_1, hfz21_2, hfz21_3⟩ := c4_ BK206) | ((with_reducible refine gate_callee (f := 36) rfl ?_); refine gl_ (some 8) Tryz.func36 #[.agg #[.bool a0_0, .int .u64 a0_1, .int .u64 a0_2, .int .i64 a0_3]] ?_; (with_reducible refine (prefix_Right.calls a0_0 a0_1 a0_2 a0_3 true _ A3.out).mono ?_); rintro e w22 ⟨rfl, hb⟩; refine ⟨_, rfl, ?_⟩; replace BK206 := bb_ BK206 hb; replace BK207 := bb_ BK207 hb; replace HB := bs_ HB hb; (try clear hb); (try clear hb2); (try clear hk); (try clear hi); obtain ⟨hcz23_0, hcz23_1, hcz23_2, hfz23_0, hfz23_1, hfz23_2⟩ := c3_ BK207) | (go_at_call 18; (with_reducible refine (addr_Right.calls a1_0 a1_1 a1_2 true _ A5.out).mono ?_); rintro e w24 ⟨rfl, hb⟩; replace BK206 := bb_ BK206 hb; replace BK207 := bb_ BK207 hb; replace HB := bs_ HB hb; (try clear hb); (try clear hb2); (try clear hk); (try clear hi); obtain ⟨hcz25_0, hcz25_1, hcz25_2, hfz25_0, hfz25_1, hfz25_2⟩ := c3_ BK207; obtain ⟨hcz26_0, hcz26_1, hcz26_2, hcz26_3, hfz26_0, hfz26_1, hfz26_2, hfz26_3⟩ := c4_ BK206) | ((with_reducible refine gate_callee (f := 34) rfl ?_); refine gl_ (some 27) Tryz.func34 #[.agg #[.bool a1_0, .int .u64 a1_1, .int .u64 a1_2], .int .i64 a0_3] ?_; (with_reducible refine (prefix_Of.calls k a1_0 a1_1 a1_2 a0_3 t210 t211 t212 t213 t214 _ A17.out).mono ?_); rintro e w27 ⟨rfl, hb⟩; refine ⟨_, rfl, ?_⟩; replace BK206 := bb_ BK206 hb; replace BK207 := bb_ BK207 hb; replace HB := bs_ HB hb; (try clear hb); (try clear hb2); (try clear hk); (try clear hi)) | ((with_reducible refine gate_dst (N := 5) rfl ?_); refine bx_ 5 #[.bool false, .int .u64 0, .int .u64 0, .int .i64 0] 38 ?_; intro gb215 hg w28 hbox hb; have BK215 := Aside0.mk (hbox); have GW215 := gw_ HB hg; have GE215 := gw_ HB hg; have NB206_215 := nl_ BK206 hg; have NB215_206 := ng_ BK206 hg; have NB207_215 := nl_ BK207 hg; have NB215_207 := ng_ BK207 hg; replace BK206 := bb_ BK206 hb; replace BK207 := bb_ BK207 hb; replace HB := bs_ HB hb; clear hb hbox hg; have hnb29 := NB215_206.out; have hnc29 := NB206_215.out; have hnb30 := NB215_207.out; have hnc30 := NB207_215.out; obtain ⟨hcz31_0, hcz31_1, hcz31_2, hcz31_3, hfz31_0, hfz31_1, hfz31_2, hfz31_3⟩ := c4_ BK215; obtain ⟨hcz32_0, hcz32_1, hcz32_2, hcz32_3, hfz32_0, hfz32_1, hfz32_2, hfz32_3⟩ := c4_ BK206))
    go_ret
    exact ⟨by first | rfl | (simp [errW_none, errW_some] <;> rfl) | (simp [*, errW_none, errW_some] <;> rfl), pb_ HB⟩
  ·
   replace c6 := Bool.eq_false_iff.mpr c6
   subst c6
   have H1 : (some false) = some r := by rw [if_neg (show ¬ (false = true) by decide)] at H; exact H
   clear H
   have H := H1
   clear H1
   obtain rfl := Option.some.inj H
   go_enter Tryz.func40, Tryz.ntmps40
   go_wp2_with (first | ((with_reducible refine gate_dst (N := 2) rfl ?_); refine bx_ 2 #[.bool a0_0, .int .u64 a0_1, .int .u64 a0_2, .int .i64 a0_3] 38 ?_; intro gb206 hg w33 hbox hb; have BK206 := Aside0.mk (hbox); have GW206 := gw_ HB hg; have GE206 := gw_ HB hg; replace HB := bs_ HB hb; clear hb hbox hg) | ((with_reducible refine gate_dst (N := 3) rfl ?_); refine bx_ 3 #[.bool a1_0, .int .u64 a1_1, .int .u64 a1_2] 26 ?_; intro gb207 hg w34 hbox hb; have BK207 := Aside0.mk (hbox); have GW207 := gw_ HB hg; have GE207 := gw_ HB hg; have NB206_207 := nl_ BK206 hg; have NB207_206 := ng_ BK206 hg; replace BK206 := bb_ BK206 hb; replace HB := bs_ HB hb; clear hb hbox hg; have hnb35 := NB206_207.out; have hnc35 := NB207_206.out; obtain ⟨hcz36_0, hcz36_1, hcz36_2, hcz36_3, hfz36_0, hfz36_1, hfz36_2, hfz36_3⟩ := c4_ BK206) | ((with_reducible refine gate_callee (f := 36) rfl ?_); refine gl_ (some 8) Tryz.func36 #[.agg #[.bool a0_0, .int .u64 a0_1, .int .u64 a0_2, .int .i64 a0_3]] ?_; (with_reducible refine (prefix_Right.calls a0_0 a0_1 a0_2 a0_3 true _ A3.out).mono ?_); rintro e w37 ⟨rfl, hb⟩; refine ⟨_, rfl, ?_⟩; replace BK206 := bb_ BK206 hb; replace BK207 := bb_ BK207 hb; replace HB := bs_ HB hb; (try clear hb); (try clear hb2); (try clear hk); (try clear hi); obtain ⟨hcz38_0, hcz38_1, hcz38_2, hfz38_0, hfz38_1, hfz38_2⟩ := c3_ BK207) | (go_at_call 18; (with_reducible refine (addr_Right.calls a1_0 a1_1 a1_2 false _ A5.out).mono ?_); rintro e w39 ⟨rfl, hb⟩; replace BK206 := bb_ BK206 hb; replace BK207 := bb_ BK207 hb; replace HB := bs_ HB hb; (try clear hb); (try clear hb2); (try clear hk); (try clear hi)))
   go_ret
   exact ⟨by first | rfl | (simp [errW_none, errW_some] <;> rfl) | (simp [*, errW_none, errW_some] <;> rfl), pb_ HB⟩
 ·
  replace c4 := Bool.eq_false_iff.mpr c4
  subst c4
  have H1 : (some false) = some r := by rw [if_neg (show ¬ (false = true) by decide)] at H; exact H
  clear H
  have H := H1
  clear H1
  obtain rfl := Option.some.inj H
  go_enter Tryz.func40, Tryz.ntmps40
  go_wp2_with (first | ((with_reducible refine gate_dst (N := 2) rfl ?_); refine bx_ 2 #[.bool a0_0, .int .u64 a0_1, .int .u64 a0_2, .int .i64 a0_3] 38 ?_; intro gb206 hg w40 hbox hb; have BK206 := Aside0.mk (hbox); have GW206 := gw_ HB hg; have GE206 := gw_ HB hg; replace HB := bs_ HB hb; clear hb hbox hg) | ((with_reducible refine gate_dst (N := 3) rfl ?_); refine bx_ 3 #[.bool a1_0, .int .u64 a1_1, .int .u64 a1_2] 26 ?_; intro gb207 hg w41 hbox hb; have BK207 := Aside0.mk (hbox); have GW207 := gw_ HB hg; have GE207 := gw_ HB hg; have NB206_207 := nl_ BK206 hg; have NB207_206 := ng_ BK206 hg; replace BK206 := bb_ BK206 hb; replace HB := bs_ HB hb; clear hb hbox hg; have hnb42 := NB206_207.out; have hnc42 := NB207_206.out; obtain ⟨hcz43_0, hcz43_1, hcz43_2, hcz43_3, hfz43_0, hfz43_1, hfz43_2, hfz43_3⟩ := c4_ BK206) | ((with_reducible refine gate_callee (f := 36) rfl ?_); refine gl_ (some 8) Tryz.func36 #[.agg #[.bool a0_0, .int .u64 a0_1, .int .u64 a0_2, .int .i64 a0_3]] ?_; (with_reducible refine (prefix_Right.calls a0_0 a0_1 a0_2 a0_3 false _ A3.out).mono ?_); rintro e w44 ⟨rfl, hb⟩; refine ⟨_, rfl, ?_⟩; replace BK206 := bb_ BK206 hb; replace BK207 := bb_ BK207 hb; replace HB := bs_ HB hb; (try clear hb); (try clear hb2); (try clear hk); (try clear hi)))
  go_ret
  exact ⟨by first | rfl | (simp [errW_none, errW_some] <;> rfl) | (simp [*, errW_none, errW_some] <;> rfl), pb_ HB⟩

def prefix_Within.f (k : Nat) (a0_0 : Bool) (a0_1 : Int) (a0_2 : Int) (a0_3 : Int) (a1_0 : Bool) (a1_1 : Int) (a1_2 : Int) (a1_3 : Int) : Option (Bool) := (prefix_Right.f a0_0 a0_1 a0_2 a0_3).bind fun t218 => (if t218 = true then ((prefix_Right.f a1_0 a1_1 a1_2 a1_3).bind fun t219 => (if t219 = true then (if a0_3 ≥ a1_3 then ((prefix_Has.f k a1_0 a1_1 a1_2 a1_3 a0_0 a0_1 a0_2).bind fun t220 => (some t220)) else (some false)) else (some false))) else (some false))
set_option maxHeartbeats 8000000 in
set_option maxRecDepth 100000 in
theorem prefix_Within.calls (k : Nat) (a0_0 : Bool) (a0_1 : Int) (a0_2 : Int) (a0_3 : Int) (a1_0 : Bool) (a1_1 : Int) (a1_2 : Int) (a1_3 : Int) (r : Bool) (w : World) (h : prefix_Within.f k a0_0 a0_1 a0_2 a0_3 a1_0 a1_1 a1_2 a1_3 = some r) :
  Calls Tryz.prog 32 #[.agg #[.bool a0_0, .int .u64 a0_1, .int .u64 a0_2, .int .i64 a0_3], .agg #[.bool a1_0, .int .u64 a1_1, .int .u64 a1_2, .int .i64 a1_3]] w fun e w' => e = .returned (.bool r) ∧ Below w.heap.size w w' := by
 have hu38 := Tryz.underlying38
 have hu26 := Tryz.underlying26
 have HB := Aside0.mk (Below.refl w.heap.size w)
 have H : ((prefix_Right.f a0_0 a0_1 a0_2 a0_3).bind fun t218 => (if t218 = true then ((prefix_Right.f a1_0 a1_1 a1_2 a1_3).bind fun t219 => (if t219 = true then (if a0_3 ≥ a1_3 then ((prefix_Has.f k a1_0 a1_1 a1_2 a1_3 a0_0 a0_1 a0_2).bind fun t220 => (some t220)) else (some false)) else (some false))) else (some false))) = some r := h
 clear h
 replace H := Option.bind_eq_some_iff.mp H
 obtain ⟨t218, A30, H⟩ := H
 replace H : (if t218 = true then ((prefix_Right.f a1_0 a1_1 a1_2 a1_3).bind fun t219 => (if t219 = true then (if a0_3 ≥ a1_3 then ((prefix_Has.f k a1_0 a1_1 a1_2 a1_3 a0_0 a0_1 a0_2).bind fun t220 => (some t220)) else (some false)) else (some false))) else (some false)) = some r := H
 have A3 := Aside0.mk A30
 clear A30
 by_cases c4 : t218 = true
 ·
  subst c4
  rw [if_pos rfl] at H
  replace H := Option.bind_eq_some_iff.mp H
  obtain ⟨t219, A50, H⟩ := H
  replace H : (if t219 = true then (if a0_3 ≥ a1_3 then ((prefix_Has.f k a1_0 a1_1 a1_2 a1_3 a0_0 a0_1 a0_2).bind fun t220 => (some t220)) else (some false)) else (some false)) = some r := H
  have A5 := Aside0.mk A50
  clear A50
  by_cases c6 : t219 = true
  ·
   subst c6
   rw [if_pos rfl] at H
   by_cases c7 : a0_3 ≥ a1_3
   ·
    rw [if_pos c7] at H
    have c7b0 : decide (a1_3 ≤ a0_3) = true := decide_eq_true c7
    clear c7
    replace H := Option.bind_eq_some_iff.mp H
    obtain ⟨t220, A80, H⟩ := H
    replace H : (some t220) = some r := H
    have A8 := Aside0.mk A80
    clear A80
    obtain rfl := Option.some.inj H
    go_enter Tryz.func32, Tryz.ntmps32
    go_wp2_with (first | ((with_reducible refine gate_dst (N := 2) rfl ?_); refine bx_ 2 #[.bool a0_0, .int .u64 a0_1, .int .u64 a0_2, .int .i64 a0_3] 38 ?_; intro gb216 hg w9 hbox hb; have BK216 := Aside0.mk (hbox); have GW216 := gw_ HB hg; have GE216 := gw_ HB hg; replace HB := bs_ HB hb; clear hb hbox hg) | ((with_reducible refine gate_dst (N := 3) rfl ?_); refine bx_ 3 #[.bool a1_0, .int .u64 a1_1, .int .u64 a1_2, .int .i64 a1_3] 38 ?_; intro gb217 hg w10 hbox hb; have BK217 := Aside0.mk (hbox); have GW217 := gw_ HB hg; have GE217 := gw_ HB hg; have NB216_217 := nl_ BK216 hg; have NB217_216 := ng_ BK216 hg; replace BK216 := bb_ BK216 hb; replace HB := bs_ HB hb; clear hb hbox hg; have hnb11 := NB216_217.out; have hnc11 := NB217_216.out; obtain ⟨hcz12_0, hcz12_1, hcz12_2, hcz12_3, hfz12_0, hfz12_1, hfz12_2, hfz12_3⟩ := c4_ BK216) | ((with_reducible refine gate_callee (f := 36) rfl ?_); refine gl_ (some 6) Tryz.func36 #[.agg #[.bool a0_0, .int .u64 a0_1, .int .u64 a0_2, .int .i64 a0_3]] ?_; (with_reducible refine (prefix_Right.calls a0_0 a0_1 a0_2 a0_3 true _ A3.out).mono ?_); rintro e w13 ⟨rfl, hb⟩; refine ⟨_, rfl, ?_⟩; replace BK216 := bb_ BK216 hb; replace BK217 := bb_ BK217 hb; replace HB := bs_ HB hb; (try clear hb); (try clear hb2); (try clear hk); (try clear hi); obtain ⟨hcz14_0, hcz14_1, hcz14_2, hcz14_3, hfz14_0, hfz14_1, hfz14_2, hfz14_3⟩ := c4_ BK217) | (go_at_call 36; (with_reducible refine (prefix_Right.calls a1_0 a1_1 a1_2 a1_3 true _ A5.out).mono ?_); rintro e w15 ⟨rfl, hb⟩; replace BK216 := bb_ BK216 hb; replace BK217 := bb_ BK217 hb; replace HB := bs_ HB hb; (try clear hb); (try clear hb2); (try clear hk); (try clear hi); obtain ⟨hcz16_0, hcz16_1, hcz16_2, hcz16_3, hfz16_0, hfz16_1, hfz16_2, hfz16_3⟩ := c4_ BK216; obtain ⟨hcz17_0, hcz17_1, hcz17_2, hcz17_3, hfz17_0, hfz17_1, hfz17_2, hfz17_3⟩ := c4_ BK217) | (go_at_call 40; (with_reducible refine (prefix_Has.calls k a1_0 a1_1 a1_2 a1_3 a0_0 a0_1 a0_2 t220 _ A8.out).mono ?_); rintro e w18 ⟨rfl, hb⟩; replace BK216 := bb_ BK216 hb; replace BK217 := bb_ BK217 hb; replace HB := bs_ HB hb; (try clear hb); (try clear hb2); (try clear hk); (try clear hi)))
    go_ret
    exact ⟨by first | rfl | (simp [errW_none, errW_some] <;> rfl) | (simp [*, errW_none, errW_some] <;> rfl), pb_ HB⟩
   ·
    rw [if_neg c7] at H
    have c7b0 : decide (a1_3 ≤ a0_3) = false := decide_eq_false c7
    clear c7
    obtain rfl := Option.some.inj H
    go_enter Tryz.func32, Tryz.ntmps32
    go_wp2_with (first | ((with_reducible refine gate_dst (N := 2) rfl ?_); refine bx_ 2 #[.bool a0_0, .int .u64 a0_1, .int .u64 a0_2, .int .i64 a0_3] 38 ?_; intro gb216 hg w19 hbox hb; have BK216 := Aside0.mk (hbox); have GW216 := gw_ HB hg; have GE216 := gw_ HB hg; replace HB := bs_ HB hb; clear hb hbox hg) | ((with_reducible refine gate_dst (N := 3) rfl ?_); refine bx_ 3 #[.bool a1_0, .int .u64 a1_1, .int .u64 a1_2, .int .i64 a1_3] 38 ?_; intro gb217 hg w20 hbox hb; have BK217 := Aside0.mk (hbox); have GW217 := gw_ HB hg; have GE217 := gw_ HB hg; have NB216_217 := nl_ BK216 hg; have NB217_216 := ng_ BK216 hg; replace BK216 := bb_ BK216 hb; replace HB := bs_ HB hb; clear hb hbox hg; have hnb21 := NB216_217.out; have hnc21 := NB217_216.out; obtain ⟨hcz22_0, hcz22_1, hcz22_2, hcz22_3, hfz22_0, hfz22_1, hfz22_2, hfz22_3⟩ := c4_ BK216) | ((with_reducible refine gate_callee (f := 36) rfl ?_); refine gl_ (some 6) Tryz.func36 #[.agg #[.bool a0_0, .int .u64 a0_1, .int .u64 a0_2, .int .i64 a0_3]] ?_; (with_reducible refine (prefix_Right.calls a0_0 a0_1 a0_2 a0_3 true _ A3.out).mono ?_); rintro e w23 ⟨rfl, hb⟩; refine ⟨_, rfl, ?_⟩; replace BK216 := bb_ BK216 hb; replace BK217 := bb_ BK217 hb; replace HB := bs_ HB hb; (try clear hb); (try clear hb2); (try clear hk); (try clear hi); obtain ⟨hcz24_0, hcz24_1, hcz24_2, hcz24_3, hfz24_0, hfz24_1, hfz24_2, hfz24_3⟩ := c4_ BK217) | (go_at_call 36; (with_reducible refine (prefix_Right.calls a1_0 a1_1 a1_2 a1_3 true _ A5.out).mono ?_); rintro e w25 ⟨rfl, hb⟩; replace BK216 := bb_ BK216 hb; replace BK217 := bb_ BK217 hb; replace HB := bs_ HB hb; (try clear hb); (try clear hb2); (try clear hk); (try clear hi); obtain ⟨hcz26_0, hcz26_1, hcz26_2, hcz26_3, hfz26_0, hfz26_1, hfz26_2, hfz26_3⟩ := c4_ BK216; obtain ⟨hcz27_0, hcz27_1, hcz27_2, hcz27_3, hfz27_0, hfz27_1, hfz27_2, hfz27_3⟩ := c4_ BK217))
    go_ret
    exact ⟨by first | rfl | (simp [errW_none, errW_some] <;> rfl) | (simp [*, errW_none, errW_some] <;> rfl), pb_ HB⟩
  ·
   replace c6 := Bool.eq_false_iff.mpr c6
   subst c6
   have H1 : (some false) = some r := by rw [if_neg (show ¬ (false = true) by decide)] at H; exact H
   clear H
   have H := H1
   clear H1
   obtain rfl := Option.some.inj H
   go_enter Tryz.func32, Tryz.ntmps32
   go_wp2_with (first | ((with_reducible refine gate_dst (N := 2) rfl ?_); refine bx_ 2 #[.bool a0_0, .int .u64 a0_1, .int .u64 a0_2, .int .i64 a0_3] 38 ?_; intro gb216 hg w28 hbox hb; have BK216 := Aside0.mk (hbox); have GW216 := gw_ HB hg; have GE216 := gw_ HB hg; replace HB := bs_ HB hb; clear hb hbox hg) | ((with_reducible refine gate_dst (N := 3) rfl ?_); refine bx_ 3 #[.bool a1_0, .int .u64 a1_1, .int .u64 a1_2, .int .i64 a1_3] 38 ?_; intro gb217 hg w29 hbox hb; have BK217 := Aside0.mk (hbox); have GW217 := gw_ HB hg; have GE217 := gw_ HB hg; have NB216_217 := nl_ BK216 hg; have NB217_216 := ng_ BK216 hg; replace BK216 := bb_ BK216 hb; replace HB := bs_ HB hb; clear hb hbox hg; have hnb30 := NB216_217.out; have hnc30 := NB217_216.out; obtain ⟨hcz31_0, hcz31_1, hcz31_2, hcz31_3, hfz31_0, hfz31_1, hfz31_2, hfz31_3⟩ := c4_ BK216) | ((with_reducible refine gate_callee (f := 36) rfl ?_); refine gl_ (some 6) Tryz.func36 #[.agg #[.bool a0_0, .int .u64 a0_1, .int .u64 a0_2, .int .i64 a0_3]] ?_; (with_reducible refine (prefix_Right.calls a0_0 a0_1 a0_2 a0_3 true _ A3.out).mono ?_); rintro e w32 ⟨rfl, hb⟩; refine ⟨_, rfl, ?_⟩; replace BK216 := bb_ BK216 hb; replace BK217 := bb_ BK217 hb; replace HB := bs_ HB hb; (try clear hb); (try clear hb2); (try clear hk); (try clear hi); obtain ⟨hcz33_0, hcz33_1, hcz33_2, hcz33_3, hfz33_0, hfz33_1, hfz33_2, hfz33_3⟩ := c4_ BK217) | (go_at_call 36; (with_reducible refine (prefix_Right.calls a1_0 a1_1 a1_2 a1_3 false _ A5.out).mono ?_); rintro e w34 ⟨rfl, hb⟩; replace BK216 := bb_ BK216 hb; replace BK217 := bb_ BK217 hb; replace HB := bs_ HB hb; (try clear hb); (try clear hb2); (try clear hk); (try clear hi)))
   go_ret
   exact ⟨by first | rfl | (simp [errW_none, errW_some] <;> rfl) | (simp [*, errW_none, errW_some] <;> rfl), pb_ HB⟩
 ·
  replace c4 := Bool.eq_false_iff.mpr c4
  subst c4
  have H1 : (some false) = some r := by rw [if_neg (show ¬ (false = true) by decide)] at H; exact H
  clear H
  have H := H1
  clear H1
  obtain rfl := Option.some.inj H
  go_enter Tryz.func32, Tryz.ntmps32
  go_wp2_with (first | ((with_reducible refine gate_dst (N := 2) rfl ?_); refine bx_ 2 #[.bool a0_0, .int .u64 a0_1, .int .u64 a0_2, .int .i64 a0_3] 38 ?_; intro gb216 hg w35 hbox hb; have BK216 := Aside0.mk (hbox); have GW216 := gw_ HB hg; have GE216 := gw_ HB hg; replace HB := bs_ HB hb; clear hb hbox hg) | ((with_reducible refine gate_dst (N := 3) rfl ?_); refine bx_ 3 #[.bool a1_0, .int .u64 a1_1, .int .u64 a1_2, .int .i64 a1_3] 38 ?_; intro gb217 hg w36 hbox hb; have BK217 := Aside0.mk (hbox); have GW217 := gw_ HB hg; have GE217 := gw_ HB hg; have NB216_217 := nl_ BK216 hg; have NB217_216 := ng_ BK216 hg; replace BK216 := bb_ BK216 hb; replace HB := bs_ HB hb; clear hb hbox hg; have hnb37 := NB216_217.out; have hnc37 := NB217_216.out; obtain ⟨hcz38_0, hcz38_1, hcz38_2, hcz38_3, hfz38_0, hfz38_1, hfz38_2, hfz38_3⟩ := c4_ BK216) | ((with_reducible refine gate_callee (f := 36) rfl ?_); refine gl_ (some 6) Tryz.func36 #[.agg #[.bool a0_0, .int .u64 a0_1, .int .u64 a0_2, .int .i64 a0_3]] ?_; (with_reducible refine (prefix_Right.calls a0_0 a0_1 a0_2 a0_3 false _ A3.out).mono ?_); rintro e w39 ⟨rfl, hb⟩; refine ⟨_, rfl, ?_⟩; replace BK216 := bb_ BK216 hb; replace BK217 := bb_ BK217 hb; replace HB := bs_ HB hb; (try clear hb); (try clear hb2); (try clear hk); (try clear hi)))
  go_ret
  exact ⟨by first | rfl | (simp [errW_none, errW_some] <;> rfl) | (simp [*, errW_none, errW_some] <;> rfl), pb_ HB⟩

def platbookref03_Of.f (k : Nat) (a0_0 : Bool) (a0_1 : Int) (a0_2 : Int) (a1 : Int) : Option (Bool × Int × Int × Int × Int) := (platbookref02_Right.f a0_0 a0_1 a0_2).bind fun t223 => (if t223 = true then (if a1 < 0 then (some (false, 0, 0, 0, 1)) else ((platbookref02_Width.f a0_0 a0_1 a0_2).bind fun t224 => (if a1 > t224 then (some (false, 0, 0, 0, 1)) else ((platbookref03_Filled.f k a0_0 a0_1 a0_2 a1 0).bind fun bt225 => (some (bt225.1, bt225.2.1, bt225.2.2, a1, 0)))))) else (some (false, 0, 0, 0, 1)))
set_option maxHeartbeats 8000000 in
set_option maxRecDepth 100000 in
theorem platbookref03_Of.calls (k : Nat) (a0_0 : Bool) (a0_1 : Int) (a0_2 : Int) (a1 : Int) (r1 : Bool) (r2 : Int) (r3 : Int) (r4 : Int) (r5 : Int) (w : World) (h : platbookref03_Of.f k a0_0 a0_1 a0_2 a1 = some (r1, r2, r3, r4, r5)) :
  Calls Tryz.prog 35 #[.agg #[.bool a0_0, .int .u64 a0_1, .int .u64 a0_2], .int .i64 a1] w fun e w' => e = .returned (.tuple #[.agg #[.bool r1, .int .u64 r2, .int .u64 r3, .int .i64 r4], .int .i64 r5]) ∧ Below w.heap.size w w' := by
 have hu26 := Tryz.underlying26
 have hu38 := Tryz.underlying38
 have HB := Aside0.mk (Below.refl w.heap.size w)
 have H : ((platbookref02_Right.f a0_0 a0_1 a0_2).bind fun t223 => (if t223 = true then (if a1 < 0 then (some (false, 0, 0, 0, 1)) else ((platbookref02_Width.f a0_0 a0_1 a0_2).bind fun t224 => (if a1 > t224 then (some (false, 0, 0, 0, 1)) else ((platbookref03_Filled.f k a0_0 a0_1 a0_2 a1 0).bind fun bt225 => (some (bt225.1, bt225.2.1, bt225.2.2, a1, 0)))))) else (some (false, 0, 0, 0, 1)))) = some (r1, r2, r3, r4, r5) := h
 clear h
 replace H := Option.bind_eq_some_iff.mp H
 obtain ⟨t223, A30, H⟩ := H
 replace H : (if t223 = true then (if a1 < 0 then (some (false, 0, 0, 0, 1)) else ((platbookref02_Width.f a0_0 a0_1 a0_2).bind fun t224 => (if a1 > t224 then (some (false, 0, 0, 0, 1)) else ((platbookref03_Filled.f k a0_0 a0_1 a0_2 a1 0).bind fun bt225 => (some (bt225.1, bt225.2.1, bt225.2.2, a1, 0)))))) else (some (false, 0, 0, 0, 1))) = some (r1, r2, r3, r4, r5) := H
 have A3 := Aside0.mk A30
 clear A30
 by_cases c4 : t223 = true
 ·
  subst c4
  rw [if_pos rfl] at H
  by_cases c5 : a1 < 0
  ·
   rw [if_pos c5] at H
   have c5b0 : decide (a1 < 0) = true := decide_eq_true c5
   clear c5
   simp only [Option.some.injEq, Prod.mk.injEq] at H
   obtain ⟨rfl, rfl, rfl, rfl, rfl⟩ := H
   go_enter Tryz.func35, Tryz.ntmps35
   go_wp2_with (first | ((with_reducible refine gate_dst (N := 2) rfl ?_); refine bx_ 2 #[.bool a0_0, .int .u64 a0_1, .int .u64 a0_2] 26 ?_; intro gb221 hg w6 hbox hb; have BK221 := Aside0.mk (hbox); have GW221 := gw_ HB hg; have GE221 := gw_ HB hg; replace HB := bs_ HB hb; clear hb hbox hg) | ((with_reducible refine gate_dst (N := 4) rfl ?_); refine bx_ 4 #[.bool false, .int .u64 0, .int .u64 0, .int .i64 0] 38 ?_; intro gb222 hg w7 hbox hb; have BK222 := Aside0.mk (hbox); have GW222 := gw_ HB hg; have GE222 := gw_ HB hg; have NB221_222 := nl_ BK221 hg; have NB222_221 := ng_ BK221 hg; replace BK221 := bb_ BK221 hb; replace HB := bs_ HB hb; clear hb hbox hg; have hnb8 := NB221_222.out; have hnc8 := NB222_221.out; obtain ⟨hcz9_0, hcz9_1, hcz9_2, hfz9_0, hfz9_1, hfz9_2⟩ := c3_ BK221) | ((with_reducible refine gate_callee (f := 19) rfl ?_); refine gl_ (some 7) Tryz.func19 #[.agg #[.bool a0_0, .int .u64 a0_1, .int .u64 a0_2]] ?_; (with_reducible refine (platbookref02_Right.calls a0_0 a0_1 a0_2 true _ A3.out).mono ?_); rintro e w10 ⟨rfl, hb⟩; refine ⟨_, rfl, ?_⟩; replace BK221 := bb_ BK221 hb; replace BK222 := bb_ BK222 hb; replace HB := bs_ HB hb; (try clear hb); (try clear hb2); (try clear hk); (try clear hi); obtain ⟨hcz11_0, hcz11_1, hcz11_2, hcz11_3, hfz11_0, hfz11_1, hfz11_2, hfz11_3⟩ := c4_ BK222))
   refine bodyPost_ret (results_ct rfl _ _ gb222 38 #[.bool false, .int .u64 0, .int .u64 0, .int .i64 0] (0, 0) _ rfl (by refine pw_ ?_; refine blk_put (cs := #[.bool false, .int .u64 0, .int .u64 0, .int .i64 0]) ?_ 3 _ rfl; refine pw_ ?_; refine blk_put (cs := #[.bool false, .int .u64 0, .int .u64 0, .int .i64 0]) ?_ 2 _ rfl; refine pw_ ?_; refine blk_put (cs := #[.bool false, .int .u64 0, .int .u64 0, .int .i64 0]) ?_ 1 _ rfl; refine pw_ ?_; refine blk_put (cs := #[.bool false, .int .u64 0, .int .u64 0, .int .i64 0]) ?_ 0 _ rfl; refine pw_ ?_; exact BK222.out) Tryz.underlying38 rfl (by kernel_rfl)) rfl ?_
   exact ⟨by first | rfl | (simp [errW_none, errW_some] <;> rfl) | (simp [*, errW_none, errW_some] <;> rfl), pb_ HB⟩
  ·
   rw [if_neg c5] at H
   have c5b0 : decide (a1 < 0) = false := decide_eq_false c5
   clear c5
   replace H := Option.bind_eq_some_iff.mp H
   obtain ⟨t224, A120, H⟩ := H
   replace H : (if a1 > t224 then (some (false, 0, 0, 0, 1)) else ((platbookref03_Filled.f k a0_0 a0_1 a0_2 a1 0).bind fun bt225 => (some (bt225.1, bt225.2.1, bt225.2.2, a1, 0)))) = some (r1, r2, r3, r4, r5) := H
   have A12 := Aside0.mk A120
   clear A120
   by_cases c13 : a1 > t224
   ·
    rw [if_pos c13] at H
    have c13b0 : decide (t224 < a1) = true := decide_eq_true c13
    clear c13
    simp only [Option.some.injEq, Prod.mk.injEq] at H
    obtain ⟨rfl, rfl, rfl, rfl, rfl⟩ := H
    go_enter Tryz.func35, Tryz.ntmps35
    go_wp2_with (first | ((with_reducible refine gate_dst (N := 2) rfl ?_); refine bx_ 2 #[.bool a0_0, .int .u64 a0_1, .int .u64 a0_2] 26 ?_; intro gb221 hg w14 hbox hb; have BK221 := Aside0.mk (hbox); have GW221 := gw_ HB hg; have GE221 := gw_ HB hg; replace HB := bs_ HB hb; clear hb hbox hg) | ((with_reducible refine gate_dst (N := 4) rfl ?_); refine bx_ 4 #[.bool false, .int .u64 0, .int .u64 0, .int .i64 0] 38 ?_; intro gb222 hg w15 hbox hb; have BK222 := Aside0.mk (hbox); have GW222 := gw_ HB hg; have GE222 := gw_ HB hg; have NB221_222 := nl_ BK221 hg; have NB222_221 := ng_ BK221 hg; replace BK221 := bb_ BK221 hb; replace HB := bs_ HB hb; clear hb hbox hg; have hnb16 := NB221_222.out; have hnc16 := NB222_221.out; obtain ⟨hcz17_0, hcz17_1, hcz17_2, hfz17_0, hfz17_1, hfz17_2⟩ := c3_ BK221) | ((with_reducible refine gate_callee (f := 19) rfl ?_); refine gl_ (some 7) Tryz.func19 #[.agg #[.bool a0_0, .int .u64 a0_1, .int .u64 a0_2]] ?_; (with_reducible refine (platbookref02_Right.calls a0_0 a0_1 a0_2 true _ A3.out).mono ?_); rintro e w18 ⟨rfl, hb⟩; refine ⟨_, rfl, ?_⟩; replace BK221 := bb_ BK221 hb; replace BK222 := bb_ BK222 hb; replace HB := bs_ HB hb; (try clear hb); (try clear hb2); (try clear hk); (try clear hi); obtain ⟨hcz19_0, hcz19_1, hcz19_2, hfz19_0, hfz19_1, hfz19_2⟩ := c3_ BK221) | (go_at_call 23; (with_reducible refine (platbookref02_Width.calls a0_0 a0_1 a0_2 t224 _ A12.out).mono ?_); rintro e w20 ⟨rfl, hb⟩; replace BK221 := bb_ BK221 hb; replace BK222 := bb_ BK222 hb; replace HB := bs_ HB hb; (try clear hb); (try clear hb2); (try clear hk); (try clear hi); obtain ⟨hcz21_0, hcz21_1, hcz21_2, hcz21_3, hfz21_0, hfz21_1, hfz21_2, hfz21_3⟩ := c4_ BK222))
    refine bodyPost_ret (results_ct rfl _ _ gb222 38 #[.bool false, .int .u64 0, .int .u64 0, .int .i64 0] (0, 0) _ rfl (by refine pw_ ?_; refine blk_put (cs := #[.bool false, .int .u64 0, .int .u64 0, .int .i64 0]) ?_ 3 _ rfl; refine pw_ ?_; refine blk_put (cs := #[.bool false, .int .u64 0, .int .u64 0, .int .i64 0]) ?_ 2 _ rfl; refine pw_ ?_; refine blk_put (cs := #[.bool false, .int .u64 0, .int .u64 0, .int .i64 0]) ?_ 1 _ rfl; refine pw_ ?_; refine blk_put (cs := #[.bool false, .int .u64 0, .int .u64 0, .int .i64 0]) ?_ 0 _ rfl; refine pw_ ?_; exact BK222.out) Tryz.underlying38 rfl (by kernel_rfl)) rfl ?_
    exact ⟨by first | rfl | (simp [errW_none, errW_some] <;> rfl) | (simp [*, errW_none, errW_some] <;> rfl), pb_ HB⟩
   ·
    rw [if_neg c13] at H
    have c13b0 : decide (t224 < a1) = false := decide_eq_false c13
    clear c13
    replace H := Option.bind_eq_some_iff.mp H
    obtain ⟨⟨t225, t226, t227⟩, A220, H⟩ := H
    replace H : (some (t225, t226, t227, a1, 0)) = some (r1, r2, r3, r4, r5) := H
    have A22 := Aside0.mk A220
    clear A220
    simp only [Option.some.injEq, Prod.mk.injEq] at H
    obtain ⟨rfl, rfl, rfl, rfl, rfl⟩ := H
    go_enter Tryz.func35, Tryz.ntmps35
    go_wp2_with (first | ((with_reducible refine gate_dst (N := 2) rfl ?_); refine bx_ 2 #[.bool a0_0, .int .u64 a0_1, .int .u64 a0_2] 26 ?_; intro gb221 hg w23 hbox hb; have BK221 := Aside0.mk (hbox); have GW221 := gw_ HB hg; have GE221 := gw_ HB hg; replace HB := bs_ HB hb; clear hb hbox hg) | ((with_reducible refine gate_dst (N := 4) rfl ?_); refine bx_ 4 #[.bool false, .int .u64 0, .int .u64 0, .int .i64 0] 38 ?_; intro gb222 hg w24 hbox hb; have BK222 := Aside0.mk (hbox); have GW222 := gw_ HB hg; have GE222 := gw_ HB hg; have NB221_222 := nl_ BK221 hg; have NB222_221 := ng_ BK221 hg; replace BK221 := bb_ BK221 hb; replace HB := bs_ HB hb; clear hb hbox hg; have hnb25 := NB221_222.out; have hnc25 := NB222_221.out; obtain ⟨hcz26_0, hcz26_1, hcz26_2, hfz26_0, hfz26_1, hfz26_2⟩ := c3_ BK221) | ((with_reducible refine gate_callee (f := 19) rfl ?_); refine gl_ (some 7) Tryz.func19 #[.agg #[.bool a0_0, .int .u64 a0_1, .int .u64 a0_2]] ?_; (with_reducible refine (platbookref02_Right.calls a0_0 a0_1 a0_2 true _ A3.out).mono ?_); rintro e w27 ⟨rfl, hb⟩; refine ⟨_, rfl, ?_⟩; replace BK221 := bb_ BK221 hb; replace BK222 := bb_ BK222 hb; replace HB := bs_ HB hb; (try clear hb); (try clear hb2); (try clear hk); (try clear hi); obtain ⟨hcz28_0, hcz28_1, hcz28_2, hfz28_0, hfz28_1, hfz28_2⟩ := c3_ BK221) | (go_at_call 23; (with_reducible refine (platbookref02_Width.calls a0_0 a0_1 a0_2 t224 _ A12.out).mono ?_); rintro e w29 ⟨rfl, hb⟩; replace BK221 := bb_ BK221 hb; replace BK222 := bb_ BK222 hb; replace HB := bs_ HB hb; (try clear hb); (try clear hb2); (try clear hk); (try clear hi); obtain ⟨hcz30_0, hcz30_1, hcz30_2, hfz30_0, hfz30_1, hfz30_2⟩ := c3_ BK221) | ((with_reducible refine gate_callee (f := 78) rfl ?_); refine gl_ (some 22) Tryz.func78 #[.agg #[.bool a0_0, .int .u64 a0_1, .int .u64 a0_2], .int .i64 a1, .int .i64 0] ?_; (with_reducible refine (platbookref03_Filled.calls k a0_0 a0_1 a0_2 a1 0 t225 t226 t227 _ A22.out).mono ?_); rintro e w31 ⟨rfl, hb⟩; refine ⟨_, rfl, ?_⟩; replace BK221 := bb_ BK221 hb; replace BK222 := bb_ BK222 hb; replace HB := bs_ HB hb; (try clear hb); (try clear hb2); (try clear hk); (try clear hi); obtain ⟨hcz32_0, hcz32_1, hcz32_2, hcz32_3, hfz32_0, hfz32_1, hfz32_2, hfz32_3⟩ := c4_ BK222))
    refine bodyPost_ret (results_ct rfl _ _ gb222 38 #[.bool t225, .int .u64 t226, .int .u64 t227, .int .i64 a1] (0, 0) _ rfl (by refine pw_ ?_; refine blk_put (cs := #[.bool t225, .int .u64 t226, .int .u64 t227, .int .i64 0]) ?_ 3 _ rfl; refine pw_ ?_; refine blk_put (cs := #[.bool t225, .int .u64 t226, .int .u64 0, .int .i64 0]) ?_ 2 _ rfl; refine pw_ ?_; refine blk_put (cs := #[.bool t225, .int .u64 0, .int .u64 0, .int .i64 0]) ?_ 1 _ rfl; refine pw_ ?_; refine blk_put (cs := #[.bool false, .int .u64 0, .int .u64 0, .int .i64 0]) ?_ 0 _ rfl; refine pw_ ?_; exact BK222.out) Tryz.underlying38 rfl (by kernel_rfl)) rfl ?_
    exact ⟨by first | rfl | (simp [errW_none, errW_some] <;> rfl) | (simp [*, errW_none, errW_some] <;> rfl), pb_ HB⟩
 ·
  replace c4 := Bool.eq_false_iff.mpr c4
  subst c4
  have H1 : (some (false, 0, 0, 0, 1)) = some (r1, r2, r3, r4, r5) := by rw [if_neg (show ¬ (false = true) by decide)] at H; exact H
  clear H
  have H := H1
  clear H1
  simp only [Option.some.injEq, Prod.mk.injEq] at H
  obtain ⟨rfl, rfl, rfl, rfl, rfl⟩ := H
  go_enter Tryz.func35, Tryz.ntmps35
  go_wp2_with (first | ((with_reducible refine gate_dst (N := 2) rfl ?_); refine bx_ 2 #[.bool a0_0, .int .u64 a0_1, .int .u64 a0_2] 26 ?_; intro gb221 hg w33 hbox hb; have BK221 := Aside0.mk (hbox); have GW221 := gw_ HB hg; have GE221 := gw_ HB hg; replace HB := bs_ HB hb; clear hb hbox hg) | ((with_reducible refine gate_dst (N := 4) rfl ?_); refine bx_ 4 #[.bool false, .int .u64 0, .int .u64 0, .int .i64 0] 38 ?_; intro gb222 hg w34 hbox hb; have BK222 := Aside0.mk (hbox); have GW222 := gw_ HB hg; have GE222 := gw_ HB hg; have NB221_222 := nl_ BK221 hg; have NB222_221 := ng_ BK221 hg; replace BK221 := bb_ BK221 hb; replace HB := bs_ HB hb; clear hb hbox hg; have hnb35 := NB221_222.out; have hnc35 := NB222_221.out; obtain ⟨hcz36_0, hcz36_1, hcz36_2, hfz36_0, hfz36_1, hfz36_2⟩ := c3_ BK221) | ((with_reducible refine gate_callee (f := 19) rfl ?_); refine gl_ (some 7) Tryz.func19 #[.agg #[.bool a0_0, .int .u64 a0_1, .int .u64 a0_2]] ?_; (with_reducible refine (platbookref02_Right.calls a0_0 a0_1 a0_2 false _ A3.out).mono ?_); rintro e w37 ⟨rfl, hb⟩; refine ⟨_, rfl, ?_⟩; replace BK221 := bb_ BK221 hb; replace BK222 := bb_ BK222 hb; replace HB := bs_ HB hb; (try clear hb); (try clear hb2); (try clear hk); (try clear hi); obtain ⟨hcz38_0, hcz38_1, hcz38_2, hcz38_3, hfz38_0, hfz38_1, hfz38_2, hfz38_3⟩ := c4_ BK222))
  refine bodyPost_ret (results_ct rfl _ _ gb222 38 #[.bool false, .int .u64 0, .int .u64 0, .int .i64 0] (0, 0) _ rfl (by refine pw_ ?_; refine blk_put (cs := #[.bool false, .int .u64 0, .int .u64 0, .int .i64 0]) ?_ 3 _ rfl; refine pw_ ?_; refine blk_put (cs := #[.bool false, .int .u64 0, .int .u64 0, .int .i64 0]) ?_ 2 _ rfl; refine pw_ ?_; refine blk_put (cs := #[.bool false, .int .u64 0, .int .u64 0, .int .i64 0]) ?_ 1 _ rfl; refine pw_ ?_; refine blk_put (cs := #[.bool false, .int .u64 0, .int .u64 0, .int .i64 0]) ?_ 0 _ rfl; refine pw_ ?_; exact BK222.out) Tryz.underlying38 rfl (by kernel_rfl)) rfl ?_
  exact ⟨by first | rfl | (simp [errW_none, errW_some] <;> rfl) | (simp [*, errW_none, errW_some] <;> rfl), pb_ HB⟩

def prefix_First.f (a0_0 : Bool) (a0_1 : Int) (a0_2 : Int) (a0_3 : Int) : Option (Bool × Int × Int) := (prefix_Right.f a0_0 a0_1 a0_2 a0_3).bind fun t230 => (if t230 = true then (some (a0_0, a0_1, a0_2)) else (some (false, 0, 0)))
set_option maxHeartbeats 8000000 in
set_option maxRecDepth 100000 in
theorem prefix_First.calls (a0_0 : Bool) (a0_1 : Int) (a0_2 : Int) (a0_3 : Int) (r1 : Bool) (r2 : Int) (r3 : Int) (w : World) (h : prefix_First.f a0_0 a0_1 a0_2 a0_3 = some (r1, r2, r3)) :
  Calls Tryz.prog 37 #[.agg #[.bool a0_0, .int .u64 a0_1, .int .u64 a0_2, .int .i64 a0_3]] w fun e w' => e = .returned (.agg #[.bool r1, .int .u64 r2, .int .u64 r3]) ∧ Below w.heap.size w w' := by
 have hu38 := Tryz.underlying38
 have hu26 := Tryz.underlying26
 have HB := Aside0.mk (Below.refl w.heap.size w)
 have H : ((prefix_Right.f a0_0 a0_1 a0_2 a0_3).bind fun t230 => (if t230 = true then (some (a0_0, a0_1, a0_2)) else (some (false, 0, 0)))) = some (r1, r2, r3) := h
 clear h
 replace H := Option.bind_eq_some_iff.mp H
 obtain ⟨t230, A20, H⟩ := H
 replace H : (if t230 = true then (some (a0_0, a0_1, a0_2)) else (some (false, 0, 0))) = some (r1, r2, r3) := H
 have A2 := Aside0.mk A20
 clear A20
 by_cases c3 : t230 = true
 ·
  subst c3
  rw [if_pos rfl] at H
  simp only [Option.some.injEq, Prod.mk.injEq] at H
  obtain ⟨rfl, rfl, rfl⟩ := H
  go_enter Tryz.func37, Tryz.ntmps37
  go_wp2_with (first | ((with_reducible refine gate_dst (N := 1) rfl ?_); refine bx_ 1 #[.bool a0_0, .int .u64 a0_1, .int .u64 a0_2, .int .i64 a0_3] 38 ?_; intro gb228 hg w4 hbox hb; have BK228 := Aside0.mk (hbox); have GW228 := gw_ HB hg; have GE228 := gw_ HB hg; replace HB := bs_ HB hb; clear hb hbox hg) | ((with_reducible refine gate_dst (N := 2) rfl ?_); refine bx_ 2 #[.bool false, .int .u64 0, .int .u64 0] 26 ?_; intro gb229 hg w5 hbox hb; have BK229 := Aside0.mk (hbox); have GW229 := gw_ HB hg; have GE229 := gw_ HB hg; have NB228_229 := nl_ BK228 hg; have NB229_228 := ng_ BK228 hg; replace BK228 := bb_ BK228 hb; replace HB := bs_ HB hb; clear hb hbox hg; have hnb6 := NB228_229.out; have hnc6 := NB229_228.out; obtain ⟨hcz7_0, hcz7_1, hcz7_2, hcz7_3, hfz7_0, hfz7_1, hfz7_2, hfz7_3⟩ := c4_ BK228) | ((with_reducible refine gate_callee (f := 36) rfl ?_); refine gl_ (some 4) Tryz.func36 #[.agg #[.bool a0_0, .int .u64 a0_1, .int .u64 a0_2, .int .i64 a0_3]] ?_; (with_reducible refine (prefix_Right.calls a0_0 a0_1 a0_2 a0_3 true _ A2.out).mono ?_); rintro e w8 ⟨rfl, hb⟩; refine ⟨_, rfl, ?_⟩; replace BK228 := bb_ BK228 hb; replace BK229 := bb_ BK229 hb; replace HB := bs_ HB hb; (try clear hb); (try clear hb2); (try clear hk); (try clear hi); obtain ⟨hcz9_0, hcz9_1, hcz9_2, hcz9_3, hfz9_0, hfz9_1, hfz9_2, hfz9_3⟩ := c4_ BK228; obtain ⟨hcz10_0, hcz10_1, hcz10_2, hfz10_0, hfz10_1, hfz10_2⟩ := c3_ BK229))
  refine bodyPost_ret (results_cell_row rfl _ _ gb229 26 #[.bool a0_0, .int .u64 a0_1, .int .u64 a0_2] (0, 0) _ rfl (by refine pw_ ?_; refine blk_put (cs := #[.bool a0_0, .int .u64 a0_1, .int .u64 0]) ?_ 2 _ rfl; refine pw_ ?_; refine blk_put (cs := #[.bool a0_0, .int .u64 0, .int .u64 0]) ?_ 1 _ rfl; refine pw_ ?_; refine blk_put (cs := #[.bool false, .int .u64 0, .int .u64 0]) ?_ 0 _ rfl; refine pw_ ?_; exact BK229.out) Tryz.underlying26 rfl (by kernel_rfl)) rfl ?_
  exact ⟨by first | rfl | (simp [errW_none, errW_some] <;> rfl) | (simp [*, errW_none, errW_some] <;> rfl), pb_ HB⟩
 ·
  replace c3 := Bool.eq_false_iff.mpr c3
  subst c3
  have H1 : (some (false, 0, 0)) = some (r1, r2, r3) := by rw [if_neg (show ¬ (false = true) by decide)] at H; exact H
  clear H
  have H := H1
  clear H1
  simp only [Option.some.injEq, Prod.mk.injEq] at H
  obtain ⟨rfl, rfl, rfl⟩ := H
  go_enter Tryz.func37, Tryz.ntmps37
  go_wp2_with (first | ((with_reducible refine gate_dst (N := 1) rfl ?_); refine bx_ 1 #[.bool a0_0, .int .u64 a0_1, .int .u64 a0_2, .int .i64 a0_3] 38 ?_; intro gb228 hg w11 hbox hb; have BK228 := Aside0.mk (hbox); have GW228 := gw_ HB hg; have GE228 := gw_ HB hg; replace HB := bs_ HB hb; clear hb hbox hg) | ((with_reducible refine gate_dst (N := 2) rfl ?_); refine bx_ 2 #[.bool false, .int .u64 0, .int .u64 0] 26 ?_; intro gb229 hg w12 hbox hb; have BK229 := Aside0.mk (hbox); have GW229 := gw_ HB hg; have GE229 := gw_ HB hg; have NB228_229 := nl_ BK228 hg; have NB229_228 := ng_ BK228 hg; replace BK228 := bb_ BK228 hb; replace HB := bs_ HB hb; clear hb hbox hg; have hnb13 := NB228_229.out; have hnc13 := NB229_228.out; obtain ⟨hcz14_0, hcz14_1, hcz14_2, hcz14_3, hfz14_0, hfz14_1, hfz14_2, hfz14_3⟩ := c4_ BK228) | ((with_reducible refine gate_callee (f := 36) rfl ?_); refine gl_ (some 4) Tryz.func36 #[.agg #[.bool a0_0, .int .u64 a0_1, .int .u64 a0_2, .int .i64 a0_3]] ?_; (with_reducible refine (prefix_Right.calls a0_0 a0_1 a0_2 a0_3 false _ A2.out).mono ?_); rintro e w15 ⟨rfl, hb⟩; refine ⟨_, rfl, ?_⟩; replace BK228 := bb_ BK228 hb; replace BK229 := bb_ BK229 hb; replace HB := bs_ HB hb; (try clear hb); (try clear hb2); (try clear hk); (try clear hi); obtain ⟨hcz16_0, hcz16_1, hcz16_2, hfz16_0, hfz16_1, hfz16_2⟩ := c3_ BK229))
  refine bodyPost_ret (results_cell_row rfl _ _ gb229 26 #[.bool false, .int .u64 0, .int .u64 0] (0, 0) _ rfl (by refine pw_ ?_; refine blk_put (cs := #[.bool false, .int .u64 0, .int .u64 0]) ?_ 2 _ rfl; refine pw_ ?_; refine blk_put (cs := #[.bool false, .int .u64 0, .int .u64 0]) ?_ 1 _ rfl; refine pw_ ?_; refine blk_put (cs := #[.bool false, .int .u64 0, .int .u64 0]) ?_ 0 _ rfl; refine pw_ ?_; exact BK229.out) Tryz.underlying26 rfl (by kernel_rfl)) rfl ?_
  exact ⟨by first | rfl | (simp [errW_none, errW_some] <;> rfl) | (simp [*, errW_none, errW_some] <;> rfl), pb_ HB⟩

def prefix_Last.f (a0_0 : Bool) (a0_1 : Int) (a0_2 : Int) (a0_3 : Int) : Option (Bool × Int × Int) := (prefix_Right.f a0_0 a0_1 a0_2 a0_3).bind fun t233 => (if t233 = true then ((prefix_free.f a0_0 a0_1 a0_2 a0_3).bind fun bt234 => ((num_Or.f a0_1 a0_2 bt234.1 bt234.2).bind fun bt236 => (some (a0_0, bt236.1, bt236.2)))) else (some (false, 0, 0)))
def prefix_Last.T3 : Bool × List (List Nat × List Nat) := (true, [([], []), ([0], [0]), ([1], [1]), ([], []), ([3], [3]), ([4], [4]), ([], []), ([6], [6]), ([5, 7, 7], [5, 7]), ([2, 8], [2, 8]), ([9, 8, 0, 1, 2, 3, 4, 5, 6, 7, 8, 9], [9])])
def prefix_Last.B3 : List Nat := [0, 1, 3, 0, 8, 24, 0, 64, 248, 511, 1023]
theorem prefix_Last.tab3 : rtab .any (opsOf Tryz.f38 3) = prefix_Last.T3 := by kernel_rfl
theorem prefix_Last.bits3 : waitsOk prefix_Last.T3.2 prefix_Last.B3 = true := by kernel_rfl
set_option maxHeartbeats 8000000 in
set_option maxRecDepth 100000 in
theorem prefix_Last.calls (a0_0 : Bool) (a0_1 : Int) (a0_2 : Int) (a0_3 : Int) (r1 : Bool) (r2 : Int) (r3 : Int) (w : World) (h : prefix_Last.f a0_0 a0_1 a0_2 a0_3 = some (r1, r2, r3)) :
  Calls Tryz.prog 38 #[.agg #[.bool a0_0, .int .u64 a0_1, .int .u64 a0_2, .int .i64 a0_3]] w fun e w' => e = .returned (.agg #[.bool r1, .int .u64 r2, .int .u64 r3]) ∧ Below w.heap.size w w' := by
 have hu38 := Tryz.underlying38
 have hu26 := Tryz.underlying26
 have hu24 := Tryz.underlying24
 have HB := Aside0.mk (Below.refl w.heap.size w)
 have H : ((prefix_Right.f a0_0 a0_1 a0_2 a0_3).bind fun t233 => (if t233 = true then ((prefix_free.f a0_0 a0_1 a0_2 a0_3).bind fun bt234 => ((num_Or.f a0_1 a0_2 bt234.1 bt234.2).bind fun bt236 => (some (a0_0, bt236.1, bt236.2)))) else (some (false, 0, 0)))) = some (r1, r2, r3) := h
 clear h
 replace H := Option.bind_eq_some_iff.mp H
 obtain ⟨t233, A20, H⟩ := H
 replace H : (if t233 = true then ((prefix_free.f a0_0 a0_1 a0_2 a0_3).bind fun bt234 => ((num_Or.f a0_1 a0_2 bt234.1 bt234.2).bind fun bt236 => (some (a0_0, bt236.1, bt236.2)))) else (some (false, 0, 0))) = some (r1, r2, r3) := H
 have A2 := Aside0.mk A20
 clear A20
 by_cases c3 : t233 = true
 ·
  subst c3
  rw [if_pos rfl] at H
  replace H := Option.bind_eq_some_iff.mp H
  obtain ⟨⟨t234, t235⟩, A40, H⟩ := H
  replace H : ((num_Or.f a0_1 a0_2 t234 t235).bind fun bt236 => (some (a0_0, bt236.1, bt236.2))) = some (r1, r2, r3) := H
  have A4 := Aside0.mk A40
  clear A40
  replace H := Option.bind_eq_some_iff.mp H
  obtain ⟨⟨t236, t237⟩, A50, H⟩ := H
  replace H : (some (a0_0, t236, t237)) = some (r1, r2, r3) := H
  have A5 := Aside0.mk A50
  clear A50
  simp only [Option.some.injEq, Prod.mk.injEq] at H
  obtain ⟨rfl, rfl, rfl⟩ := H
  go_enter Tryz.func38, Tryz.ntmps38
  try go_wp2_with (first | ((with_reducible refine gate_dst (N := 1) rfl ?_); refine bx_ 1 #[.bool a0_0, .int .u64 a0_1, .int .u64 a0_2, .int .i64 a0_3] 38 ?_; intro gb231 hg w6 hbox hb; have BK231 := Aside0.mk (hbox); have GW231 := gw_ HB hg; have GE231 := gw_ HB hg; replace HB := bs_ HB hb; clear hb hbox hg) | ((with_reducible refine gate_dst (N := 2) rfl ?_); refine bx_ 2 #[.bool false, .int .u64 0, .int .u64 0] 26 ?_; intro gb232 hg w7 hbox hb; have BK232 := Aside0.mk (hbox); have GW232 := gw_ HB hg; have GE232 := gw_ HB hg; have NB231_232 := nl_ BK231 hg; have NB232_231 := ng_ BK231 hg; replace BK231 := bb_ BK231 hb; replace HB := bs_ HB hb; clear hb hbox hg; have hnb8 := NB231_232.out; have hnc8 := NB232_231.out; obtain ⟨hcz9_0, hcz9_1, hcz9_2, hcz9_3, hfz9_0, hfz9_1, hfz9_2, hfz9_3⟩ := c4_ BK231) | ((with_reducible refine gate_callee (f := 36) rfl ?_); refine gl_ (some 4) Tryz.func36 #[.agg #[.bool a0_0, .int .u64 a0_1, .int .u64 a0_2, .int .i64 a0_3]] ?_; (with_reducible refine (prefix_Right.calls a0_0 a0_1 a0_2 a0_3 true _ A2.out).mono ?_); rintro e w10 ⟨rfl, hb⟩; refine ⟨_, rfl, ?_⟩; replace BK231 := bb_ BK231 hb; replace BK232 := bb_ BK232 hb; replace HB := bs_ HB hb; (try clear hb); (try clear hb2); (try clear hk); (try clear hi)))
  replace BK231 := Aside0.mk (blk_drew BK231.out)
  replace BK232 := Aside0.mk (blk_drew BK232.out)
  replace HB := Aside0.mk (below_drew1 HB.out)
  refine start_ (n := 11) (S := fun w' => w'.cell? ⟨gb231, 0, none⟩ = some (.bool a0_0) ∧ w'.cell? ⟨gb231, 1, none⟩ = some (.int .u64 a0_1) ∧ w'.cell? ⟨gb231, 2, none⟩ = some (.int .u64 a0_2) ∧ w'.cell? ⟨gb231, 3, none⟩ = some (.int .i64 a0_3)) (ds := []) (bm_ 11 0) (by kernel_rfl) rfl rfl ⟨kc_ BK231 0, kc_ BK231 1, kc_ BK231 2, kc_ BK231 3⟩ (fun hHeld => ?_); refine with_tabW prefix_Last.tab3 prefix_Last.bits3 (fun HT_ HW_ => ?_)
  generalize w10.drew = w11 at BK231 BK232 HB hHeld ⊢
  refine pu_ 0 (some 7) (bm_ 11 1) rfl HT_ ⟨by rfl, by intro w'; go_simp; with_reducible rfl⟩ ?_
  refine pu_ 1 (some 8) (bm_ 11 3) rfl HT_ ⟨by rfl, by intro w'; go_simp; with_reducible rfl⟩ ?_
  refine pu_ 3 (some 10) (bm_ 11 11) rfl HT_ ⟨by rfl, by intro w'; go_simp; with_reducible rfl⟩ ?_
  refine pu_ 4 (some 11) (bm_ 11 27) rfl HT_ ⟨by rfl, by intro w'; go_simp; with_reducible rfl⟩ ?_
  refine ta_ 2 (some 9) (bm_ 11 31) rfl HT_ HW_ ⟨by rfl, by rintro w' ⟨s0, s1, s2, s3⟩; go_simp; with_reducible rfl⟩ hHeld ?_
  refine ta_ 5 (some 12) (bm_ 11 63) rfl HT_ HW_ ⟨by rfl, by rintro w' ⟨s0, s1, s2, s3⟩; go_simp; with_reducible rfl⟩ hHeld ?_
  refine ta_ 6 (some 13) (bm_ 11 127) rfl HT_ HW_ ⟨by rfl, by rintro w' ⟨s0, s1, s2, s3⟩; go_simp; with_reducible rfl⟩ hHeld ?_
  refine one_ (i := 7) (N := some 14) (bm_ 11 255) rfl rfl (one_of HT_.out (by kernel_rfl)) (by decide) (fun K hK => ?_)
  refine gr_ Tryz.func85 #[.agg #[.bool a0_0, .int .u64 a0_1, .int .u64 a0_2, .int .i64 a0_3]] ?_
  with_reducible refine (prefix_free.calls a0_0 a0_1 a0_2 a0_3 t234 t235 _ A4.out).mono ?_
  rintro e w12 ⟨rfl, hb⟩
  refine ⟨_, rfl, ?_⟩
  replace BK231 := bb_ BK231 hb
  replace BK232 := bb_ BK232 hb
  replace HB := bs_ HB hb
  (try clear hb)
  (try clear hb2)
  (try clear hk)
  (try clear hi)
  refine hK.out _ _ ⟨kc_ BK231 0, kc_ BK231 1, kc_ BK231 2, kc_ BK231 3⟩ (fun hHeld => ?_)
  clear hK K
  refine norm_ (a' := ?_) ?_ ?_
  rotate_left
  ·
   show Act.put _ (some 14) _ = _
   simp only [Act.put, List.setIfInBounds_toArray, List.set_cons_zero, List.set_cons_succ, i64_w, i32_w]
   rfl
  refine one_ (i := 8) (N := some 15) (bm_ 11 511) rfl rfl (one_of HT_.out (by kernel_rfl)) (by decide) (fun K hK => ?_)
  refine gr_ Tryz.func80 #[.agg #[.int .u64 a0_1, .int .u64 a0_2], .agg #[.int .u64 t234, .int .u64 t235]] ?_
  with_reducible refine (num_Or.calls a0_1 a0_2 t234 t235 t236 t237 _ A5.out).mono ?_
  rintro e w13 ⟨rfl, hb⟩
  refine ⟨_, rfl, ?_⟩
  replace BK231 := bb_ BK231 hb
  replace BK232 := bb_ BK232 hb
  replace HB := bs_ HB hb
  (try clear hb)
  (try clear hb2)
  (try clear hk)
  (try clear hi)
  refine hK.out _ _ ⟨kc_ BK231 0, kc_ BK231 1, kc_ BK231 2, kc_ BK231 3⟩ (fun hHeld => ?_)
  clear hK K
  refine norm_ (a' := ?_) ?_ ?_
  rotate_left
  ·
   show Act.put _ (some 15) _ = _
   simp only [Act.put, List.setIfInBounds_toArray, List.set_cons_zero, List.set_cons_succ, i64_w, i32_w]
   rfl
  refine pu_ 9 (some 16) (bm_ 11 1023) rfl HT_ ⟨by rfl, by intro w'; go_simp; with_reducible rfl⟩ ?_
  refine one_ (i := 10) (N := none) (bm_ 11 2047) rfl rfl (one_of HT_.out (by kernel_rfl)) (by decide) (fun K hK => ?_)
  have hs14 : w13.cell? ⟨gb232, 0, none⟩ = some (.bool false) := kc_ BK232 0
  have hfs14 := blk_frozen BK232.out 0
  have hns14_0 := NB231_232.out
  have hms14_0 := NB232_231.out
  have hs15 : w13.cell? ⟨gb232, 1, none⟩ = some (.int .u64 0) := kc_ BK232 1
  have hfs15 := blk_frozen BK232.out 1
  have hns15_0 := NB231_232.out
  have hms15_0 := NB232_231.out
  have hs16 : w13.cell? ⟨gb232, 2, none⟩ = some (.int .u64 0) := kc_ BK232 2
  have hfs16 := blk_frozen BK232.out 2
  have hns16_0 := NB231_232.out
  have hms16_0 := NB232_231.out
  refine skip_ (w1 := ?_) (by rfl) rfl ?_ ?_
  rotate_left
  ·
   go_simp
   rfl
  refine hK.out _ _ ⟨((cell_far (p := ⟨gb232, _, none⟩) NB231_232.out _).trans (((cell_far (p := ⟨gb232, _, none⟩) NB231_232.out _).trans (((cell_far (p := ⟨gb232, _, none⟩) NB231_232.out _).trans (hHeld.1)))))), ((cell_far (p := ⟨gb232, _, none⟩) NB231_232.out _).trans (((cell_far (p := ⟨gb232, _, none⟩) NB231_232.out _).trans (((cell_far (p := ⟨gb232, _, none⟩) NB231_232.out _).trans (hHeld.2.1)))))), ((cell_far (p := ⟨gb232, _, none⟩) NB231_232.out _).trans (((cell_far (p := ⟨gb232, _, none⟩) NB231_232.out _).trans (((cell_far (p := ⟨gb232, _, none⟩) NB231_232.out _).trans (hHeld.2.2.1)))))), ((cell_far (p := ⟨gb232, _, none⟩) NB231_232.out _).trans (((cell_far (p := ⟨gb232, _, none⟩) NB231_232.out _).trans (((cell_far (p := ⟨gb232, _, none⟩) NB231_232.out _).trans (hHeld.2.2.2))))))⟩ (fun hHeld => ?_)
  clear hK K
  refine done_ (done_of HT_.out (by kernel_rfl)) ?_
  try go_wp2
  refine bodyPost_ret (results_cell_row rfl _ _ gb232 26 #[.bool a0_0, .int .u64 t236, .int .u64 t237] (0, 0) _ rfl (by refine pw_ ?_; refine blk_put (cs := #[.bool a0_0, .int .u64 t236, .int .u64 0]) ?_ 2 _ rfl; refine pw_ ?_; refine blk_put (cs := #[.bool a0_0, .int .u64 0, .int .u64 0]) ?_ 1 _ rfl; refine pw_ ?_; refine blk_put (cs := #[.bool false, .int .u64 0, .int .u64 0]) ?_ 0 _ rfl; refine pw_ ?_; exact BK232.out) Tryz.underlying26 rfl (by kernel_rfl)) rfl ?_
  exact ⟨by first | rfl | (simp [errW_none, errW_some] <;> rfl) | (simp [*, errW_none, errW_some] <;> rfl), pb_ HB⟩
 ·
  replace c3 := Bool.eq_false_iff.mpr c3
  subst c3
  have H1 : (some (false, 0, 0)) = some (r1, r2, r3) := by rw [if_neg (show ¬ (false = true) by decide)] at H; exact H
  clear H
  have H := H1
  clear H1
  simp only [Option.some.injEq, Prod.mk.injEq] at H
  obtain ⟨rfl, rfl, rfl⟩ := H
  go_enter Tryz.func38, Tryz.ntmps38
  go_wp2_with (first | ((with_reducible refine gate_dst (N := 1) rfl ?_); refine bx_ 1 #[.bool a0_0, .int .u64 a0_1, .int .u64 a0_2, .int .i64 a0_3] 38 ?_; intro gb231 hg w17 hbox hb; have BK231 := Aside0.mk (hbox); have GW231 := gw_ HB hg; have GE231 := gw_ HB hg; replace HB := bs_ HB hb; clear hb hbox hg) | ((with_reducible refine gate_dst (N := 2) rfl ?_); refine bx_ 2 #[.bool false, .int .u64 0, .int .u64 0] 26 ?_; intro gb232 hg w18 hbox hb; have BK232 := Aside0.mk (hbox); have GW232 := gw_ HB hg; have GE232 := gw_ HB hg; have NB231_232 := nl_ BK231 hg; have NB232_231 := ng_ BK231 hg; replace BK231 := bb_ BK231 hb; replace HB := bs_ HB hb; clear hb hbox hg; have hnb19 := NB231_232.out; have hnc19 := NB232_231.out; obtain ⟨hcz20_0, hcz20_1, hcz20_2, hcz20_3, hfz20_0, hfz20_1, hfz20_2, hfz20_3⟩ := c4_ BK231) | ((with_reducible refine gate_callee (f := 36) rfl ?_); refine gl_ (some 4) Tryz.func36 #[.agg #[.bool a0_0, .int .u64 a0_1, .int .u64 a0_2, .int .i64 a0_3]] ?_; (with_reducible refine (prefix_Right.calls a0_0 a0_1 a0_2 a0_3 false _ A2.out).mono ?_); rintro e w21 ⟨rfl, hb⟩; refine ⟨_, rfl, ?_⟩; replace BK231 := bb_ BK231 hb; replace BK232 := bb_ BK232 hb; replace HB := bs_ HB hb; (try clear hb); (try clear hb2); (try clear hk); (try clear hi); obtain ⟨hcz22_0, hcz22_1, hcz22_2, hfz22_0, hfz22_1, hfz22_2⟩ := c3_ BK232))
  refine bodyPost_ret (results_cell_row rfl _ _ gb232 26 #[.bool false, .int .u64 0, .int .u64 0] (0, 0) _ rfl (by refine pw_ ?_; refine blk_put (cs := #[.bool false, .int .u64 0, .int .u64 0]) ?_ 2 _ rfl; refine pw_ ?_; refine blk_put (cs := #[.bool false, .int .u64 0, .int .u64 0]) ?_ 1 _ rfl; refine pw_ ?_; refine blk_put (cs := #[.bool false, .int .u64 0, .int .u64 0]) ?_ 0 _ rfl; refine pw_ ?_; exact BK232.out) Tryz.underlying26 rfl (by kernel_rfl)) rfl ?_
  exact ⟨by first | rfl | (simp [errW_none, errW_some] <;> rfl) | (simp [*, errW_none, errW_some] <;> rfl), pb_ HB⟩

def platbookref03_Last.f (k : Nat) (a0_0 : Bool) (a0_1 : Int) (a0_2 : Int) (a0_3 : Int) : Option (Bool × Int × Int) := (platbookref03_Right.f k a0_0 a0_1 a0_2 a0_3).bind fun t240 => (if t240 = true then ((platbookref03_Filled.f k a0_0 a0_1 a0_2 a0_3 1).bind fun bt241 => (some (bt241.1, bt241.2.1, bt241.2.2))) else (some (false, 0, 0)))
set_option maxHeartbeats 8000000 in
set_option maxRecDepth 100000 in
theorem platbookref03_Last.calls (k : Nat) (a0_0 : Bool) (a0_1 : Int) (a0_2 : Int) (a0_3 : Int) (r1 : Bool) (r2 : Int) (r3 : Int) (w : World) (h : platbookref03_Last.f k a0_0 a0_1 a0_2 a0_3 = some (r1, r2, r3)) :
  Calls Tryz.prog 39 #[.agg #[.bool a0_0, .int .u64 a0_1, .int .u64 a0_2, .int .i64 a0_3]] w fun e w' => e = .returned (.agg #[.bool r1, .int .u64 r2, .int .u64 r3]) ∧ Below w.heap.size w w' := by
 have hu38 := Tryz.underlying38
 have hu26 := Tryz.underlying26
 have HB := Aside0.mk (Below.refl w.heap.size w)
 have H : ((platbookref03_Right.f k a0_0 a0_1 a0_2 a0_3).bind fun t240 => (if t240 = true then ((platbookref03_Filled.f k a0_0 a0_1 a0_2 a0_3 1).bind fun bt241 => (some (bt241.1, bt241.2.1, bt241.2.2))) else (some (false, 0, 0)))) = some (r1, r2, r3) := h
 clear h
 replace H := Option.bind_eq_some_iff.mp H
 obtain ⟨t240, A20, H⟩ := H
 replace H : (if t240 = true then ((platbookref03_Filled.f k a0_0 a0_1 a0_2 a0_3 1).bind fun bt241 => (some (bt241.1, bt241.2.1, bt241.2.2))) else (some (false, 0, 0))) = some (r1, r2, r3) := H
 have A2 := Aside0.mk A20
 clear A20
 by_cases c3 : t240 = true
 ·
  subst c3
  rw [if_pos rfl] at H
  replace H := Option.bind_eq_some_iff.mp H
  obtain ⟨⟨t241, t242, t243⟩, A40, H⟩ := H
  replace H : (some (t241, t242, t243)) = some (r1, r2, r3) := H
  have A4 := Aside0.mk A40
  clear A40
  simp only [Option.some.injEq, Prod.mk.injEq] at H
  obtain ⟨rfl, rfl, rfl⟩ := H
  go_enter Tryz.func39, Tryz.ntmps39
  go_wp2_with (first | ((with_reducible refine gate_dst (N := 1) rfl ?_); refine bx_ 1 #[.bool a0_0, .int .u64 a0_1, .int .u64 a0_2, .int .i64 a0_3] 38 ?_; intro gb238 hg w5 hbox hb; have BK238 := Aside0.mk (hbox); have GW238 := gw_ HB hg; have GE238 := gw_ HB hg; replace HB := bs_ HB hb; clear hb hbox hg) | ((with_reducible refine gate_dst (N := 2) rfl ?_); refine bx_ 2 #[.bool false, .int .u64 0, .int .u64 0] 26 ?_; intro gb239 hg w6 hbox hb; have BK239 := Aside0.mk (hbox); have GW239 := gw_ HB hg; have GE239 := gw_ HB hg; have NB238_239 := nl_ BK238 hg; have NB239_238 := ng_ BK238 hg; replace BK238 := bb_ BK238 hb; replace HB := bs_ HB hb; clear hb hbox hg; have hnb7 := NB238_239.out; have hnc7 := NB239_238.out; obtain ⟨hcz8_0, hcz8_1, hcz8_2, hcz8_3, hfz8_0, hfz8_1, hfz8_2, hfz8_3⟩ := c4_ BK238) | ((with_reducible refine gate_callee (f := 29) rfl ?_); refine gl_ (some 4) Tryz.func29 #[.agg #[.bool a0_0, .int .u64 a0_1, .int .u64 a0_2, .int .i64 a0_3]] ?_; (with_reducible refine (platbookref03_Right.calls k a0_0 a0_1 a0_2 a0_3 true _ A2.out).mono ?_); rintro e w9 ⟨rfl, hb⟩; refine ⟨_, rfl, ?_⟩; replace BK238 := bb_ BK238 hb; replace BK239 := bb_ BK239 hb; replace HB := bs_ HB hb; (try clear hb); (try clear hb2); (try clear hk); (try clear hi); obtain ⟨hcz10_0, hcz10_1, hcz10_2, hcz10_3, hfz10_0, hfz10_1, hfz10_2, hfz10_3⟩ := c4_ BK238) | ((with_reducible refine gate_callee (f := 78) rfl ?_); refine gl_ (some 11) Tryz.func78 #[.agg #[.bool a0_0, .int .u64 a0_1, .int .u64 a0_2], .int .i64 a0_3, .int .i64 1] ?_; (with_reducible refine (platbookref03_Filled.calls k a0_0 a0_1 a0_2 a0_3 1 t241 t242 t243 _ A4.out).mono ?_); rintro e w11 ⟨rfl, hb⟩; refine ⟨_, rfl, ?_⟩; replace BK238 := bb_ BK238 hb; replace BK239 := bb_ BK239 hb; replace HB := bs_ HB hb; (try clear hb); (try clear hb2); (try clear hk); (try clear hi); obtain ⟨hcz12_0, hcz12_1, hcz12_2, hfz12_0, hfz12_1, hfz12_2⟩ := c3_ BK239))
  refine bodyPost_ret (results_cell_row rfl _ _ gb239 26 #[.bool t241, .int .u64 t242, .int .u64 t243] (0, 0) _ rfl (by refine pw_ ?_; refine blk_put (cs := #[.bool t241, .int .u64 t242, .int .u64 0]) ?_ 2 _ rfl; refine pw_ ?_; refine blk_put (cs := #[.bool t241, .int .u64 0, .int .u64 0]) ?_ 1 _ rfl; refine pw_ ?_; refine blk_put (cs := #[.bool false, .int .u64 0, .int .u64 0]) ?_ 0 _ rfl; refine pw_ ?_; exact BK239.out) Tryz.underlying26 rfl (by kernel_rfl)) rfl ?_
  exact ⟨by first | rfl | (simp [errW_none, errW_some] <;> rfl) | (simp [*, errW_none, errW_some] <;> rfl), pb_ HB⟩
 ·
  replace c3 := Bool.eq_false_iff.mpr c3
  subst c3
  have H1 : (some (false, 0, 0)) = some (r1, r2, r3) := by rw [if_neg (show ¬ (false = true) by decide)] at H; exact H
  clear H
  have H := H1
  clear H1
  simp only [Option.some.injEq, Prod.mk.injEq] at H
  obtain ⟨rfl, rfl, rfl⟩ := H
  go_enter Tryz.func39, Tryz.ntmps39
  go_wp2_with (first | ((with_reducible refine gate_dst (N := 1) rfl ?_); refine bx_ 1 #[.bool a0_0, .int .u64 a0_1, .int .u64 a0_2, .int .i64 a0_3] 38 ?_; intro gb238 hg w13 hbox hb; have BK238 := Aside0.mk (hbox); have GW238 := gw_ HB hg; have GE238 := gw_ HB hg; replace HB := bs_ HB hb; clear hb hbox hg) | ((with_reducible refine gate_dst (N := 2) rfl ?_); refine bx_ 2 #[.bool false, .int .u64 0, .int .u64 0] 26 ?_; intro gb239 hg w14 hbox hb; have BK239 := Aside0.mk (hbox); have GW239 := gw_ HB hg; have GE239 := gw_ HB hg; have NB238_239 := nl_ BK238 hg; have NB239_238 := ng_ BK238 hg; replace BK238 := bb_ BK238 hb; replace HB := bs_ HB hb; clear hb hbox hg; have hnb15 := NB238_239.out; have hnc15 := NB239_238.out; obtain ⟨hcz16_0, hcz16_1, hcz16_2, hcz16_3, hfz16_0, hfz16_1, hfz16_2, hfz16_3⟩ := c4_ BK238) | ((with_reducible refine gate_callee (f := 29) rfl ?_); refine gl_ (some 4) Tryz.func29 #[.agg #[.bool a0_0, .int .u64 a0_1, .int .u64 a0_2, .int .i64 a0_3]] ?_; (with_reducible refine (platbookref03_Right.calls k a0_0 a0_1 a0_2 a0_3 false _ A2.out).mono ?_); rintro e w17 ⟨rfl, hb⟩; refine ⟨_, rfl, ?_⟩; replace BK238 := bb_ BK238 hb; replace BK239 := bb_ BK239 hb; replace HB := bs_ HB hb; (try clear hb); (try clear hb2); (try clear hk); (try clear hi); obtain ⟨hcz18_0, hcz18_1, hcz18_2, hfz18_0, hfz18_1, hfz18_2⟩ := c3_ BK239))
  refine bodyPost_ret (results_cell_row rfl _ _ gb239 26 #[.bool false, .int .u64 0, .int .u64 0] (0, 0) _ rfl (by refine pw_ ?_; refine blk_put (cs := #[.bool false, .int .u64 0, .int .u64 0]) ?_ 2 _ rfl; refine pw_ ?_; refine blk_put (cs := #[.bool false, .int .u64 0, .int .u64 0]) ?_ 1 _ rfl; refine pw_ ?_; refine blk_put (cs := #[.bool false, .int .u64 0, .int .u64 0]) ?_ 0 _ rfl; refine pw_ ?_; exact BK239.out) Tryz.underlying26 rfl (by kernel_rfl)) rfl ?_
  exact ⟨by first | rfl | (simp [errW_none, errW_some] <;> rfl) | (simp [*, errW_none, errW_some] <;> rfl), pb_ HB⟩

def platbookref03_Alike.l0 : Nat → List Int → List Int → Int → Option (Int)
 | 0, _, _, _ => none
 | k + 1, x0, x1, x5 => if x5 < (x0.length : Int) then (if x5 < (x1.length : Int) then (if 0 ≤ x5 then (if (rd x0 x5) = (rd x1 x5) then (platbookref03_Alike.l0 k x0 x1 (wrap64 (x5 + 1))) else (some x5)) else (none)) else (some x5)) else (some x5)
def platbookref03_Alike.f (k : Nat) (l0 : List Int) (l1 : List Int) : Option (Int) := platbookref03_Alike.l0 k l0 l1 0
set_option maxHeartbeats 8000000 in
set_option maxRecDepth 100000 in
theorem platbookref03_Alike.calls (k : Nat) (A0 : Option Addr) (c0 : Nat) (l0 : List Int) (A1 : Option Addr) (c1 : Nat) (l1 : List Int) (r : Int) (w : World) (hr0 : Kd.C (Kd.int .i64) w A0 l0.length l0) (hc0 : l0.length ≤ c0) (hr1 : Kd.C (Kd.int .i64) w A1 l1.length l1) (hc1 : l1.length ≤ c1) (h : platbookref03_Alike.f k l0 l1 = some r) :
  Calls Tryz.prog 82 #[.slice A0 l0.length c0, .slice A1 l1.length c1] w fun e w' => e = .returned (.int .i64 r) ∧ Drawn0 w w' := by
 have HR0 := Aside0.mk hr0
 have HC0 := Aside0.mk hc0
 clear hr0 hc0
 have HR1 := Aside0.mk hr1
 have HC1 := Aside0.mk hc1
 clear hr1 hc1
 have H : (platbookref03_Alike.l0 k l0 l1 0) = some r := h
 clear h
 have H' := Aside0.mk H
 clear H
 go_enter Tryz.func82, Tryz.ntmps82
 go_wp2
 repeat (go_quiet (fail); try go_wp2)
 go_loopg [5] k (fun kq v5 w' => ∃ (x5_1 : Int), v5 = .int .i64 x5_1 ∧ Aside0 (platbookref03_Alike.l0 kq l0 l1 x5_1 = some r) ∧ Aside0 (kq ≤ k) ∧ Drawn0 w w')
 case atStart => exact ⟨(0), (by first | rfl | (simp; done) | (simp [*]; done)), H', ⟨Nat.le_refl _⟩, by repeat (first | exact Drawn0.refl _ | apply Drawn0.step)⟩
 case round =>
  clear H'
  try clear c1
  try clear p2
  obtain ⟨x5_1, rfl, HA, HK1, ⟨m1, rfl⟩⟩ := hrel
  cases gk with
  | zero => exact absurd HA.out (by simp [platbookref03_Alike.l0])
  | succ k1 =>
   have H := HA.out
   clear HA
   simp only [platbookref03_Alike.l0] at H
   by_cases c3 : x5_1 < (l0.length : Int)
   ·
    rw [if_pos c3] at H
    have c3b0 : decide (x5_1 < (l0.length : Int)) = true := decide_eq_true c3
    clear c3
    by_cases c4 : x5_1 < (l1.length : Int)
    ·
     rw [if_pos c4] at H
     have c4b0 : decide (x5_1 < (l1.length : Int)) = true := decide_eq_true c4
     clear c4
     by_cases c5 : 0 ≤ x5_1
     ·
      rw [if_pos c5] at H
      have c5b0 : decide (0 ≤ x5_1) = true := decide_eq_true c5
      clear c5
      by_cases c6 : (rd l0 x5_1) = (rd l1 x5_1)
      ·
       rw [if_pos c6] at H
       have c6b0 : ((rd l0 x5_1) == (rd l1 x5_1)) = true := beq_iff_eq.mpr c6
       have c6b1 : ((rd l0 x5_1) != (rd l1 x5_1)) = false := bne_eq_false_iff_eq.mpr c6
       clear c6
       have H' := Aside0.mk H
       clear H
       have p244 : 0 ≤ (x5_1 : Int) := of_decide_eq_true (by first | (with_reducible assumption) | assumption)
       have q244 : x5_1 < (l0.length : Int) := of_decide_eq_true (by first | (with_reducible assumption) | assumption)
       obtain ⟨ad244, e244, hx244_0⟩ := Kd.at_int HR0.out x5_1 p244 q244
       cases e244
       replace p244 := eq_true p244
       replace q244 := eq_true q244
       have p245 : 0 ≤ (x5_1 : Int) := of_decide_eq_true (by first | (with_reducible assumption) | assumption)
       have q245 : x5_1 < (l1.length : Int) := of_decide_eq_true (by first | (with_reducible assumption) | assumption)
       obtain ⟨ad245, e245, hx245_0⟩ := Kd.at_int HR1.out x5_1 p245 q245
       cases e245
       replace p245 := eq_true p245
       replace q245 := eq_true q245
       go_wp2
       repeat (go_quiet (fail); try go_wp2)
       go_roundg k1
       case measure => have := HK1.out; omega
       case rel => exact ⟨(wrap64 (x5_1 + 1)), (by first | rfl | (simp; done) | (simp [*]; done)), H', ⟨by have := HK1.out; omega⟩, by repeat (first | exact Drawn0.refl _ | apply Drawn0.step)⟩
      ·
       rw [if_neg c6] at H
       have c6b0 : ((rd l0 x5_1) == (rd l1 x5_1)) = false := beq_eq_false_iff_ne.mpr c6
       have c6b1 : ((rd l0 x5_1) != (rd l1 x5_1)) = true := bne_iff_ne.mpr c6
       obtain rfl := Option.some.inj H
       have p244 : 0 ≤ (x5_1 : Int) := of_decide_eq_true (by first | (with_reducible assumption) | assumption)
       have q244 : x5_1 < (l0.length : Int) := of_decide_eq_true (by first | (with_reducible assumption) | assumption)
       obtain ⟨ad244, e244, hx244_0⟩ := Kd.at_int HR0.out x5_1 p244 q244
       cases e244
       replace p244 := eq_true p244
       replace q244 := eq_true q244
       have p245 : 0 ≤ (x5_1 : Int) := of_decide_eq_true (by first | (with_reducible assumption) | assumption)
       have q245 : x5_1 < (l1.length : Int) := of_decide_eq_true (by first | (with_reducible assumption) | assumption)
       obtain ⟨ad245, e245, hx245_0⟩ := Kd.at_int HR1.out x5_1 p245 q245
       cases e245
       replace p245 := eq_true p245
       replace q245 := eq_true q245
       go_wp2
       repeat (go_quiet (fail); try go_wp2)
       go_ret
       exact ⟨by first | rfl | (simp; done) | (simp [*]; done), by repeat (first | exact Drawn0.refl _ | apply Drawn0.step)⟩
     ·
      rw [if_neg c5] at H
      exact absurd H (by simp)
    ·
     rw [if_neg c4] at H
     have c4b0 : decide (x5_1 < (l1.length : Int)) = false := decide_eq_false c4
     clear c4
     obtain rfl := Option.some.inj H
     go_wp2
     repeat (go_quiet (fail); try go_wp2)
     go_ret
     exact ⟨by first | rfl | (simp; done) | (simp [*]; done), by repeat (first | exact Drawn0.refl _ | apply Drawn0.step)⟩
   ·
    rw [if_neg c3] at H
    have c3b0 : decide (x5_1 < (l0.length : Int)) = false := decide_eq_false c3
    clear c3
    obtain rfl := Option.some.inj H
    go_wp2
    repeat (go_quiet (fail); try go_wp2)
    go_ret
    exact ⟨by first | rfl | (simp; done) | (simp [*]; done), by repeat (first | exact Drawn0.refl _ | apply Drawn0.step)⟩

end Go.Proofs.YtgdgklibilddgaaGreatDoor.PPr

namespace Go.Proofs.YtgdgklibilddgaaGreatDoor.PPr
open Go.RowKit Go.Proofs.YtgdgklibilddgaaGreatDoorW.PrintWords Go.Proofs.YtgdgklibilddgaaGreatDoorW.PrintLast Go.Proofs.YtgdgklibilddgaaGreatDoorW.PrintMore
attribute [local go_sem] max2_int min2_int max_two min_two max_three min_three max_four min_four   -- for this text's walks alone

def platbookref03_Common.j0 : Nat → Bool → Bool → Int → Int → Int → Bool → Int → Int → Int → Option (Bool × Int × Int × Int × Int)
 | 0, _, _, _, _, _, _, _, _, _ => none
 | k + 1, x23, x388000, x388001, x388002, x388003, x389000, x389001, x389002, x389003 => if x23 = true then (some (false, 0, 0, 0, 1)) else ((platbookref03_Row.f k x388000 x388001 x388002).bind fun t392 => ((platbookref03_Row.f k x389000 x389001 x389002).bind fun t395 => ((platbookref03_Alike.f k t392 t395).bind fun t398 => (if x388003 < t398 then (if x389003 < x388003 then ((platbookref03_Of.f k x388000 x388001 x388002 x389003).bind fun bt399 => (some (bt399.1, bt399.2.1, bt399.2.2.1, bt399.2.2.2.1, bt399.2.2.2.2))) else ((platbookref03_Of.f k x388000 x388001 x388002 x388003).bind fun bt404 => (some (bt404.1, bt404.2.1, bt404.2.2.1, bt404.2.2.2.1, bt404.2.2.2.2)))) else (if x389003 < t398 then ((platbookref03_Of.f k x388000 x388001 x388002 x389003).bind fun bt409 => (some (bt409.1, bt409.2.1, bt409.2.2.1, bt409.2.2.2.1, bt409.2.2.2.2))) else ((platbookref03_Of.f k x388000 x388001 x388002 t398).bind fun bt414 => (some (bt414.1, bt414.2.1, bt414.2.2.1, bt414.2.2.2.1, bt414.2.2.2.2))))))))
def platbookref03_Common.f (k : Nat) (a0_0 : Bool) (a0_1 : Int) (a0_2 : Int) (a0_3 : Int) (a1_0 : Bool) (a1_1 : Int) (a1_2 : Int) (a1_3 : Int) : Option (Bool × Int × Int × Int × Int) := (platbookref03_Right.f k a0_0 a0_1 a0_2 a0_3).bind fun t390 => (if t390 = true then ((platbookref03_Right.f k a1_0 a1_1 a1_2 a1_3).bind fun t391 => (if t391 = true then (platbookref03_Common.j0 k (a0_0 != a1_0) a0_0 a0_1 a0_2 a0_3 a1_0 a1_1 a1_2 a1_3) else (platbookref03_Common.j0 k true a0_0 a0_1 a0_2 a0_3 a1_0 a1_1 a1_2 a1_3))) else (platbookref03_Common.j0 k true a0_0 a0_1 a0_2 a0_3 a1_0 a1_1 a1_2 a1_3))
def platbookref03_Common.T3 : Bool × List (List Nat × List Nat) := (true, [([], []), ([0], [0]), ([1], [1]), ([], []), ([3], [3]), ([4, 2], [4]), ([2, 5, 5], [2, 5]), ([6, 6, 0, 1, 2, 3, 4, 5, 6], [6])])
def platbookref03_Common.B3 : List Nat := [0, 1, 3, 0, 8, 31, 63, 127]
theorem platbookref03_Common.tab3 : rtab .any (opsOf Tryz.f31 3) = platbookref03_Common.T3 := by kernel_rfl
theorem platbookref03_Common.bits3 : waitsOk platbookref03_Common.T3.2 platbookref03_Common.B3 = true := by kernel_rfl
set_option maxHeartbeats 8000000 in
set_option maxRecDepth 100000 in
theorem platbookref03_Common.calls (k : Nat) (a0_0 : Bool) (a0_1 : Int) (a0_2 : Int) (a0_3 : Int) (a1_0 : Bool) (a1_1 : Int) (a1_2 : Int) (a1_3 : Int) (r1 : Bool) (r2 : Int) (r3 : Int) (r4 : Int) (r5 : Int) (w : World) (h : platbookref03_Common.f k a0_0 a0_1 a0_2 a0_3 a1_0 a1_1 a1_2 a1_3 = some (r1, r2, r3, r4, r5)) :
  Calls Tryz.prog 31 #[.agg #[.bool a0_0, .int .u64 a0_1, .int .u64 a0_2, .int .i64 a0_3], .agg #[.bool a1_0, .int .u64 a1_1, .int .u64 a1_2, .int .i64 a1_3]] w fun e w' => e = .returned (.tuple #[.agg #[.bool r1, .int .u64 r2, .int .u64 r3, .int .i64 r4], .int .i64 r5]) ∧ Below w.heap.size w w' := by
 have hu38 := Tryz.underlying38
 have hu26 := Tryz.underlying26
 have HB := Aside0.mk (Below.refl w.heap.size w)
 have H : ((platbookref03_Right.f k a0_0 a0_1 a0_2 a0_3).bind fun t390 => (if t390 = true then ((platbookref03_Right.f k a1_0 a1_1 a1_2 a1_3).bind fun t391 => (if t391 = true then (platbookref03_Common.j0 k (a0_0 != a1_0) a0_0 a0_1 a0_2 a0_3 a1_0 a1_1 a1_2 a1_3) else (platbookref03_Common.j0 k true a0_0 a0_1 a0_2 a0_3 a1_0 a1_1 a1_2 a1_3))) else (platbookref03_Common.j0 k true a0_0 a0_1 a0_2 a0_3 a1_0 a1_1 a1_2 a1_3))) = some (r1, r2, r3, r4, r5) := h
 clear h
 have HC3 := Aside0.mk H
 clear H
 go_enter Tryz.func31, Tryz.ntmps31
 go_upto_region 1 with (first | ((with_reducible refine gate_dst (N := 2) rfl ?_); refine bx_ 2 #[.bool a0_0, .int .u64 a0_1, .int .u64 a0_2, .int .i64 a0_3] 38 ?_; intro gb387 hg w4 hbox hb; have BK387 := Aside0.mk (hbox); have GW387 := gw_ HB hg; have GE387 := gw_ HB hg; replace HB := bs_ HB hb; clear hb hbox hg) | ((with_reducible refine gate_dst (N := 3) rfl ?_); refine bx_ 3 #[.bool a1_0, .int .u64 a1_1, .int .u64 a1_2, .int .i64 a1_3] 38 ?_; intro gb388 hg w5 hbox hb; have BK388 := Aside0.mk (hbox); have GW388 := gw_ HB hg; have GE388 := gw_ HB hg; have NB387_388 := nl_ BK387 hg; have NB388_387 := ng_ BK387 hg; replace BK387 := bb_ BK387 hb; replace HB := bs_ HB hb; clear hb hbox hg) | ((with_reducible refine gate_dst (N := 4) rfl ?_); refine bx_ 4 #[.bool false, .int .u64 0, .int .u64 0, .int .i64 0] 38 ?_; intro gb389 hg w6 hbox hb; have BK389 := Aside0.mk (hbox); have GW389 := gw_ HB hg; have GE389 := gw_ HB hg; have NB387_389 := nl_ BK387 hg; have NB389_387 := ng_ BK387 hg; have NB388_389 := nl_ BK388 hg; have NB389_388 := ng_ BK388 hg; replace BK387 := bb_ BK387 hb; replace BK388 := bb_ BK388 hb; replace HB := bs_ HB hb; clear hb hbox hg))
 (try simp only [Act.put, List.setIfInBounds_toArray, List.set_cons_zero, List.set_cons_succ])
 go_cut [23] (fun v23 wc => ∃ (kq : Nat) (x23_2 : Bool), v23 = .bool x23_2 ∧ Aside0 (platbookref03_Common.j0 kq x23_2 a0_0 a0_1 a0_2 a0_3 a1_0 a1_1 a1_2 a1_3 = some (r1, r2, r3, r4, r5)) ∧ Aside0 (kq ≤ k) ∧ Aside0 (wc.heap[gb387]? = some (.cells #[.bool a0_0, .int .u64 a0_1, .int .u64 a0_2, .int .i64 a0_3] 38 (0, 0))) ∧ Aside0 (wc.heap[gb388]? = some (.cells #[.bool a1_0, .int .u64 a1_1, .int .u64 a1_2, .int .i64 a1_3] 38 (0, 0))) ∧ Aside0 (wc.heap[gb389]? = some (.cells #[.bool false, .int .u64 0, .int .u64 0, .int .i64 0] 38 (0, 0))) ∧ Aside0 (Below w.heap.size w wc))
 case first =>
  have H := HC3.out
  clear HC3
  replace H := Option.bind_eq_some_iff.mp H
  obtain ⟨t390, A70, H⟩ := H
  replace H : (if t390 = true then ((platbookref03_Right.f k a1_0 a1_1 a1_2 a1_3).bind fun t391 => (if t391 = true then (platbookref03_Common.j0 k (a0_0 != a1_0) a0_0 a0_1 a0_2 a0_3 a1_0 a1_1 a1_2 a1_3) else (platbookref03_Common.j0 k true a0_0 a0_1 a0_2 a0_3 a1_0 a1_1 a1_2 a1_3))) else (platbookref03_Common.j0 k true a0_0 a0_1 a0_2 a0_3 a1_0 a1_1 a1_2 a1_3)) = some (r1, r2, r3, r4, r5) := H
  have A7 := Aside0.mk A70
  clear A70
  by_cases c8 : t390 = true
  ·
   subst c8
   rw [if_pos rfl] at H
   replace H := Option.bind_eq_some_iff.mp H
   obtain ⟨t391, A90, H⟩ := H
   replace H : (if t391 = true then (platbookref03_Common.j0 k (a0_0 != a1_0) a0_0 a0_1 a0_2 a0_3 a1_0 a1_1 a1_2 a1_3) else (platbookref03_Common.j0 k true a0_0 a0_1 a0_2 a0_3 a1_0 a1_1 a1_2 a1_3)) = some (r1, r2, r3, r4, r5) := H
   have A9 := Aside0.mk A90
   clear A90
   by_cases c10 : t391 = true
   ·
    subst c10
    rw [if_pos rfl] at H
    have H' := Aside0.mk H
    clear H
    have hnb11 := NB387_388.out
    have hnc11 := NB388_387.out
    have hnb12 := NB387_389.out
    have hnc12 := NB389_387.out
    obtain ⟨hcz13_0, hcz13_1, hcz13_2, hcz13_3, hfz13_0, hfz13_1, hfz13_2, hfz13_3⟩ := c4_ BK387
    go_wp2_with (first | ((with_reducible refine gate_callee (f := 29) rfl ?_); refine gl_ (some 8) Tryz.func29 #[.agg #[.bool a0_0, .int .u64 a0_1, .int .u64 a0_2, .int .i64 a0_3]] ?_; (with_reducible refine (platbookref03_Right.calls k a0_0 a0_1 a0_2 a0_3 true _ A7.out).mono ?_); rintro e w14 ⟨rfl, hb⟩; refine ⟨_, rfl, ?_⟩; replace BK387 := bb_ BK387 hb; replace BK388 := bb_ BK388 hb; replace BK389 := bb_ BK389 hb; replace HB := bs_ HB hb; (try clear hb); (try clear hb2); (try clear hk); (try clear hi); have hnb15 := NB388_389.out; have hnc15 := NB389_388.out; obtain ⟨hcz16_0, hcz16_1, hcz16_2, hcz16_3, hfz16_0, hfz16_1, hfz16_2, hfz16_3⟩ := c4_ BK388) | (go_at_call 29; (with_reducible refine (platbookref03_Right.calls k a1_0 a1_1 a1_2 a1_3 true _ A9.out).mono ?_); rintro e w17 ⟨rfl, hb⟩; replace BK387 := bb_ BK387 hb; replace BK388 := bb_ BK388 hb; replace BK389 := bb_ BK389 hb; replace HB := bs_ HB hb; (try clear hb); (try clear hb2); (try clear hk); (try clear hi); obtain ⟨hcz18_0, hcz18_1, hcz18_2, hcz18_3, hfz18_0, hfz18_1, hfz18_2, hfz18_3⟩ := c4_ BK387; obtain ⟨hcz19_0, hcz19_1, hcz19_2, hcz19_3, hfz19_0, hfz19_1, hfz19_2, hfz19_3⟩ := c4_ BK388))
    go_meet
    case rel => exact ⟨_, ((a0_0 != a1_0)), (by first | rfl | (simp; done) | (simp [*]; done)), H', ⟨by first | omega | exact Nat.le_refl _⟩, ⟨by refine pw_ ?_; exact BK387.out⟩, ⟨by refine pw_ ?_; exact BK388.out⟩, ⟨by refine pw_ ?_; exact BK389.out⟩, ⟨pb_ HB⟩⟩
   ·
    replace c10 := Bool.eq_false_iff.mpr c10
    subst c10
    have H1 : (platbookref03_Common.j0 k true a0_0 a0_1 a0_2 a0_3 a1_0 a1_1 a1_2 a1_3) = some (r1, r2, r3, r4, r5) := by rw [if_neg (show ¬ (false = true) by decide)] at H; exact H
    clear H
    have H := H1
    clear H1
    have H' := Aside0.mk H
    clear H
    have hnb20 := NB387_388.out
    have hnc20 := NB388_387.out
    have hnb21 := NB387_389.out
    have hnc21 := NB389_387.out
    obtain ⟨hcz22_0, hcz22_1, hcz22_2, hcz22_3, hfz22_0, hfz22_1, hfz22_2, hfz22_3⟩ := c4_ BK387
    go_wp2_with (first | ((with_reducible refine gate_callee (f := 29) rfl ?_); refine gl_ (some 8) Tryz.func29 #[.agg #[.bool a0_0, .int .u64 a0_1, .int .u64 a0_2, .int .i64 a0_3]] ?_; (with_reducible refine (platbookref03_Right.calls k a0_0 a0_1 a0_2 a0_3 true _ A7.out).mono ?_); rintro e w23 ⟨rfl, hb⟩; refine ⟨_, rfl, ?_⟩; replace BK387 := bb_ BK387 hb; replace BK388 := bb_ BK388 hb; replace BK389 := bb_ BK389 hb; replace HB := bs_ HB hb; (try clear hb); (try clear hb2); (try clear hk); (try clear hi); have hnb24 := NB388_389.out; have hnc24 := NB389_388.out; obtain ⟨hcz25_0, hcz25_1, hcz25_2, hcz25_3, hfz25_0, hfz25_1, hfz25_2, hfz25_3⟩ := c4_ BK388) | (go_at_call 29; (with_reducible refine (platbookref03_Right.calls k a1_0 a1_1 a1_2 a1_3 false _ A9.out).mono ?_); rintro e w26 ⟨rfl, hb⟩; replace BK387 := bb_ BK387 hb; replace BK388 := bb_ BK388 hb; replace BK389 := bb_ BK389 hb; replace HB := bs_ HB hb; (try clear hb); (try clear hb2); (try clear hk); (try clear hi)))
    go_meet
    case rel => exact ⟨_, (true), (by first | rfl | (simp; done) | (simp [*]; done)), H', ⟨by first | omega | exact Nat.le_refl _⟩, ⟨by refine pw_ ?_; exact BK387.out⟩, ⟨by refine pw_ ?_; exact BK388.out⟩, ⟨by refine pw_ ?_; exact BK389.out⟩, ⟨pb_ HB⟩⟩
  ·
   replace c8 := Bool.eq_false_iff.mpr c8
   subst c8
   have H1 : (platbookref03_Common.j0 k true a0_0 a0_1 a0_2 a0_3 a1_0 a1_1 a1_2 a1_3) = some (r1, r2, r3, r4, r5) := by rw [if_neg (show ¬ (false = true) by decide)] at H; exact H
   clear H
   have H := H1
   clear H1
   have H' := Aside0.mk H
   clear H
   have hnb27 := NB387_388.out
   have hnc27 := NB388_387.out
   have hnb28 := NB387_389.out
   have hnc28 := NB389_387.out
   obtain ⟨hcz29_0, hcz29_1, hcz29_2, hcz29_3, hfz29_0, hfz29_1, hfz29_2, hfz29_3⟩ := c4_ BK387
   go_wp2_with (first | ((with_reducible refine gate_callee (f := 29) rfl ?_); refine gl_ (some 8) Tryz.func29 #[.agg #[.bool a0_0, .int .u64 a0_1, .int .u64 a0_2, .int .i64 a0_3]] ?_; (with_reducible refine (platbookref03_Right.calls k a0_0 a0_1 a0_2 a0_3 false _ A7.out).mono ?_); rintro e w30 ⟨rfl, hb⟩; refine ⟨_, rfl, ?_⟩; replace BK387 := bb_ BK387 hb; replace BK388 := bb_ BK388 hb; replace BK389 := bb_ BK389 hb; replace HB := bs_ HB hb; (try clear hb); (try clear hb2); (try clear hk); (try clear hi)))
   go_meet
   case rel => exact ⟨_, (true), (by first | rfl | (simp; done) | (simp [*]; done)), H', ⟨by first | omega | exact Nat.le_refl _⟩, ⟨by refine pw_ ?_; exact BK387.out⟩, ⟨by refine pw_ ?_; exact BK388.out⟩, ⟨by refine pw_ ?_; exact BK389.out⟩, ⟨pb_ HB⟩⟩
 case rest =>
  clear HC3
  try clear c1
  try clear c2
  try clear p2
  try clear c3
  try clear c8
  try clear c10
  try clear c11
  try clear c12
  try clear c15
  try clear c20
  try clear c21
  try clear c24
  try clear c27
  try clear c28
  try clear c29
  try clear hcz13_0
  try clear hcz13_1
  try clear hcz13_2
  try clear hcz13_3
  try clear hcz16_0
  try clear hcz16_1
  try clear hcz16_2
  try clear hcz16_3
  try clear hcz18_0
  try clear hcz18_1
  try clear hcz18_2
  try clear hcz18_3
  try clear hcz19_0
  try clear hcz19_1
  try clear hcz19_2
  try clear hcz19_3
  try clear hcz22_0
  try clear hcz22_1
  try clear hcz22_2
  try clear hcz22_3
  try clear hcz25_0
  try clear hcz25_1
  try clear hcz25_2
  try clear hcz25_3
  try clear hcz29_0
  try clear hcz29_1
  try clear hcz29_2
  try clear hcz29_3
  try clear hfz13_0
  try clear hfz13_1
  try clear hfz13_2
  try clear hfz13_3
  try clear hfz16_0
  try clear hfz16_1
  try clear hfz16_2
  try clear hfz16_3
  try clear hfz18_0
  try clear hfz18_1
  try clear hfz18_2
  try clear hfz18_3
  try clear hfz19_0
  try clear hfz19_1
  try clear hfz19_2
  try clear hfz19_3
  try clear hfz22_0
  try clear hfz22_1
  try clear hfz22_2
  try clear hfz22_3
  try clear hfz25_0
  try clear hfz25_1
  try clear hfz25_2
  try clear hfz25_3
  try clear hfz29_0
  try clear hfz29_1
  try clear hfz29_2
  try clear hfz29_3
  obtain ⟨kq, x23_2, rfl, HA, HJ2, BK387, BK388, BK389, HB⟩ := hcut
  cases kq with
  | zero => exact absurd HA.out (by simp [platbookref03_Common.j0])
  | succ kj2 =>
   have H := HA.out
   clear HA
   simp only [platbookref03_Common.j0] at H
   by_cases c31 : x23_2 = true
   ·
    subst c31
    rw [if_pos rfl] at H
    simp only [Option.some.injEq, Prod.mk.injEq] at H
    obtain ⟨rfl, rfl, rfl, rfl, rfl⟩ := H
    have hnb32 := NB389_387.out
    have hnc32 := NB387_389.out
    have hnb33 := NB389_388.out
    have hnc33 := NB388_389.out
    obtain ⟨hcz34_0, hcz34_1, hcz34_2, hcz34_3, hfz34_0, hfz34_1, hfz34_2, hfz34_3⟩ := c4_ BK389
    go_wp2
    refine bodyPost_ret (results_ct rfl _ _ gb389 38 #[.bool false, .int .u64 0, .int .u64 0, .int .i64 0] (0, 0) _ rfl (by refine pw_ ?_; refine blk_put (cs := #[.bool false, .int .u64 0, .int .u64 0, .int .i64 0]) ?_ 3 _ rfl; refine pw_ ?_; refine blk_put (cs := #[.bool false, .int .u64 0, .int .u64 0, .int .i64 0]) ?_ 2 _ rfl; refine pw_ ?_; refine blk_put (cs := #[.bool false, .int .u64 0, .int .u64 0, .int .i64 0]) ?_ 1 _ rfl; refine pw_ ?_; refine blk_put (cs := #[.bool false, .int .u64 0, .int .u64 0, .int .i64 0]) ?_ 0 _ rfl; refine pw_ ?_; exact BK389.out) Tryz.underlying38 rfl (by kernel_rfl)) rfl ?_
    exact ⟨by first | rfl | (simp [errW_none, errW_some] <;> rfl) | (simp [*, errW_none, errW_some] <;> rfl), pb_ HB⟩
   ·
    replace c31 := Bool.eq_false_iff.mpr c31
    subst c31
    have H1 : ((platbookref03_Row.f kj2 a0_0 a0_1 a0_2).bind fun t392 => ((platbookref03_Row.f kj2 a1_0 a1_1 a1_2).bind fun t395 => ((platbookref03_Alike.f kj2 t392 t395).bind fun t398 => (if a0_3 < t398 then (if a1_3 < a0_3 then ((platbookref03_Of.f kj2 a0_0 a0_1 a0_2 a1_3).bind fun bt399 => (some (bt399.1, bt399.2.1, bt399.2.2.1, bt399.2.2.2.1, bt399.2.2.2.2))) else ((platbookref03_Of.f kj2 a0_0 a0_1 a0_2 a0_3).bind fun bt404 => (some (bt404.1, bt404.2.1, bt404.2.2.1, bt404.2.2.2.1, bt404.2.2.2.2)))) else (if a1_3 < t398 then ((platbookref03_Of.f kj2 a0_0 a0_1 a0_2 a1_3).bind fun bt409 => (some (bt409.1, bt409.2.1, bt409.2.2.1, bt409.2.2.2.1, bt409.2.2.2.2))) else ((platbookref03_Of.f kj2 a0_0 a0_1 a0_2 t398).bind fun bt414 => (some (bt414.1, bt414.2.1, bt414.2.2.1, bt414.2.2.2.1, bt414.2.2.2.2)))))))) = some (r1, r2, r3, r4, r5) := by rw [if_neg (show ¬ (false = true) by decide)] at H; exact H
    clear H
    have H := H1
    clear H1
    replace H := Option.bind_eq_some_iff.mp H
    obtain ⟨t392, A350, H⟩ := H
    replace H : ((platbookref03_Row.f kj2 a1_0 a1_1 a1_2).bind fun t395 => ((platbookref03_Alike.f kj2 t392 t395).bind fun t398 => (if a0_3 < t398 then (if a1_3 < a0_3 then ((platbookref03_Of.f kj2 a0_0 a0_1 a0_2 a1_3).bind fun bt399 => (some (bt399.1, bt399.2.1, bt399.2.2.1, bt399.2.2.2.1, bt399.2.2.2.2))) else ((platbookref03_Of.f kj2 a0_0 a0_1 a0_2 a0_3).bind fun bt404 => (some (bt404.1, bt404.2.1, bt404.2.2.1, bt404.2.2.2.1, bt404.2.2.2.2)))) else (if a1_3 < t398 then ((platbookref03_Of.f kj2 a0_0 a0_1 a0_2 a1_3).bind fun bt409 => (some (bt409.1, bt409.2.1, bt409.2.2.1, bt409.2.2.2.1, bt409.2.2.2.2))) else ((platbookref03_Of.f kj2 a0_0 a0_1 a0_2 t398).bind fun bt414 => (some (bt414.1, bt414.2.1, bt414.2.2.1, bt414.2.2.2.1, bt414.2.2.2.2))))))) = some (r1, r2, r3, r4, r5) := H
    have A35 := Aside0.mk A350
    clear A350
    replace H := Option.bind_eq_some_iff.mp H
    obtain ⟨t395, A360, H⟩ := H
    replace H : ((platbookref03_Alike.f kj2 t392 t395).bind fun t398 => (if a0_3 < t398 then (if a1_3 < a0_3 then ((platbookref03_Of.f kj2 a0_0 a0_1 a0_2 a1_3).bind fun bt399 => (some (bt399.1, bt399.2.1, bt399.2.2.1, bt399.2.2.2.1, bt399.2.2.2.2))) else ((platbookref03_Of.f kj2 a0_0 a0_1 a0_2 a0_3).bind fun bt404 => (some (bt404.1, bt404.2.1, bt404.2.2.1, bt404.2.2.2.1, bt404.2.2.2.2)))) else (if a1_3 < t398 then ((platbookref03_Of.f kj2 a0_0 a0_1 a0_2 a1_3).bind fun bt409 => (some (bt409.1, bt409.2.1, bt409.2.2.1, bt409.2.2.2.1, bt409.2.2.2.2))) else ((platbookref03_Of.f kj2 a0_0 a0_1 a0_2 t398).bind fun bt414 => (some (bt414.1, bt414.2.1, bt414.2.2.1, bt414.2.2.2.1, bt414.2.2.2.2)))))) = some (r1, r2, r3, r4, r5) := H
    have A36 := Aside0.mk A360
    clear A360
    replace H := Option.bind_eq_some_iff.mp H
    obtain ⟨t398, A370, H⟩ := H
    replace H : (if a0_3 < t398 then (if a1_3 < a0_3 then ((platbookref03_Of.f kj2 a0_0 a0_1 a0_2 a1_3).bind fun bt399 => (some (bt399.1, bt399.2.1, bt399.2.2.1, bt399.2.2.2.1, bt399.2.2.2.2))) else ((platbookref03_Of.f kj2 a0_0 a0_1 a0_2 a0_3).bind fun bt404 => (some (bt404.1, bt404.2.1, bt404.2.2.1, bt404.2.2.2.1, bt404.2.2.2.2)))) else (if a1_3 < t398 then ((platbookref03_Of.f kj2 a0_0 a0_1 a0_2 a1_3).bind fun bt409 => (some (bt409.1, bt409.2.1, bt409.2.2.1, bt409.2.2.2.1, bt409.2.2.2.2))) else ((platbookref03_Of.f kj2 a0_0 a0_1 a0_2 t398).bind fun bt414 => (some (bt414.1, bt414.2.1, bt414.2.2.1, bt414.2.2.2.1, bt414.2.2.2.2))))) = some (r1, r2, r3, r4, r5) := H
    have A37 := Aside0.mk A370
    clear A370
    by_cases c38 : a0_3 < t398
    ·
     rw [if_pos c38] at H
     have c38b0 : decide (a0_3 < t398) = true := decide_eq_true c38
     clear c38
     by_cases c39 : a1_3 < a0_3
     ·
      rw [if_pos c39] at H
      have c39b0 : decide (a1_3 < a0_3) = true := decide_eq_true c39
      clear c39
      replace H := Option.bind_eq_some_iff.mp H
      obtain ⟨⟨t399, t400, t401, t402, t403⟩, A400, H⟩ := H
      replace H : (some (t399, t400, t401, t402, t403)) = some (r1, r2, r3, r4, r5) := H
      have A40 := Aside0.mk A400
      clear A400
      simp only [Option.some.injEq, Prod.mk.injEq] at H
      obtain ⟨rfl, rfl, rfl, rfl, rfl⟩ := H
      try go_wp2
      replace BK387 := Aside0.mk (blk_drew BK387.out)
      replace BK388 := Aside0.mk (blk_drew BK388.out)
      replace BK389 := Aside0.mk (blk_drew BK389.out)
      replace HB := Aside0.mk (below_drew1 HB.out)
      refine start_ (n := 8) (S := fun w' => w'.cell? ⟨gb387, 0, none⟩ = some (.bool a0_0) ∧ w'.cell? ⟨gb387, 1, none⟩ = some (.int .u64 a0_1) ∧ w'.cell? ⟨gb387, 2, none⟩ = some (.int .u64 a0_2) ∧ w'.cell? ⟨gb387, 3, none⟩ = some (.int .i64 a0_3) ∧ w'.cell? ⟨gb388, 0, none⟩ = some (.bool a1_0) ∧ w'.cell? ⟨gb388, 1, none⟩ = some (.int .u64 a1_1) ∧ w'.cell? ⟨gb388, 2, none⟩ = some (.int .u64 a1_2) ∧ w'.cell? ⟨gb388, 3, none⟩ = some (.int .i64 a1_3)) (ds := []) (bm_ 8 0) (by kernel_rfl) rfl rfl ⟨kc_ BK387 0, kc_ BK387 1, kc_ BK387 2, kc_ BK387 3, kc_ BK388 0, kc_ BK388 1, kc_ BK388 2, kc_ BK388 3⟩ (fun hHeld => ?_); refine with_tabW platbookref03_Common.tab3 platbookref03_Common.bits3 (fun HT_ HW_ => ?_)
      generalize wc.drew = w41 at BK387 BK388 BK389 HB hHeld ⊢
      refine pu_ 0 (some 25) (bm_ 8 1) rfl HT_ ⟨by rfl, by intro w'; go_simp; with_reducible rfl⟩ ?_
      refine pu_ 3 (some 28) (bm_ 8 9) rfl HT_ ⟨by rfl, by intro w'; go_simp; with_reducible rfl⟩ ?_
      refine ta_ 1 (some 26) (bm_ 8 11) rfl HT_ HW_ ⟨by rfl, by rintro w' ⟨s0, s1, s2, s3, s4, s5, s6, s7⟩; go_simp; with_reducible rfl⟩ hHeld ?_
      refine ta_ 4 (some 29) (bm_ 8 27) rfl HT_ HW_ ⟨by rfl, by rintro w' ⟨s0, s1, s2, s3, s4, s5, s6, s7⟩; go_simp; with_reducible rfl⟩ hHeld ?_
      refine one_ (i := 2) (N := some 27) (bm_ 8 31) rfl rfl (one_of HT_.out (by kernel_rfl)) (by decide) (fun K hK => ?_)
      refine gr_ Tryz.func83 #[.agg #[.bool a0_0, .int .u64 a0_1, .int .u64 a0_2]] ?_
      with_reducible refine (platbookref03_Row.calls kj2 a0_0 a0_1 a0_2 t392 _ A35.out).mono ?_
      rintro e w42 ⟨v393, rfl, ho0, hb⟩
      refine ⟨_, rfl, ?_⟩
      have HO394 := Aside0.mk (Kd.R_lower ho0 (below_size (pb_ HB)))
      replace BK387 := bb_ BK387 hb
      replace BK388 := bb_ BK388 hb
      replace BK389 := bb_ BK389 hb
      replace HB := bs_ HB hb
      (try clear hb)
      (try clear hb2)
      (try clear hk)
      (try clear hi)
      (try clear ho0)
      refine hK.out _ _ ⟨kc_ BK387 0, kc_ BK387 1, kc_ BK387 2, kc_ BK387 3, kc_ BK388 0, kc_ BK388 1, kc_ BK388 2, kc_ BK388 3⟩ (fun hHeld => ?_)
      clear hK K
      refine norm_ (a' := ?_) ?_ ?_
      rotate_left
      ·
       show Act.put _ (some 27) _ = _
       simp only [Act.put, List.setIfInBounds_toArray, List.set_cons_zero, List.set_cons_succ, i64_w, i32_w]
       rfl
      refine one_ (i := 5) (N := some 30) (bm_ 8 63) rfl rfl (one_of HT_.out (by kernel_rfl)) (by decide) (fun K hK => ?_)
      refine gr_ Tryz.func83 #[.agg #[.bool a1_0, .int .u64 a1_1, .int .u64 a1_2]] ?_
      with_reducible refine (platbookref03_Row.calls kj2 a1_0 a1_1 a1_2 t395 _ A36.out).mono ?_
      rintro e w43 ⟨v396, rfl, ho0, hb⟩
      refine ⟨_, rfl, ?_⟩
      have HO397 := Aside0.mk (Kd.R_lower (Kd.R_new' ho0 (Kd.R_lt (by (with_reducible repeat (first | apply Kd.R_alloc | apply Kd.R_drewN | apply Kd.R_drew)); exact HO394.out))) (below_size (pb_ HB)))
      replace HO394 := Aside0.mk (Kd.R_elder' (by (with_reducible repeat (first | apply Kd.R_alloc | apply Kd.R_drewN | apply Kd.R_drew)); exact HO394.out) (Kd.R_base ho0) hb)
      replace BK387 := bb_ BK387 hb
      replace BK388 := bb_ BK388 hb
      replace BK389 := bb_ BK389 hb
      replace HB := bs_ HB hb
      (try clear hb)
      (try clear hb2)
      (try clear hk)
      (try clear hi)
      (try clear ho0)
      obtain ⟨Ao44, co44, eo44⟩ := Kd.R_slice HO394.out
      (first | subst eo44 | (injection eo44 with f1_ f2_ f3_; have f4_ := f1_.symm; have f5_ := f3_.symm; clear f1_ f2_ f3_; subst f4_; subst f5_))
      obtain ⟨Ao45, co45, eo45⟩ := Kd.R_slice HO397.out
      (first | subst eo45 | (injection eo45 with f1_ f2_ f3_; have f4_ := f1_.symm; have f5_ := f3_.symm; clear f1_ f2_ f3_; subst f4_; subst f5_))
      refine hK.out _ _ ⟨kc_ BK387 0, kc_ BK387 1, kc_ BK387 2, kc_ BK387 3, kc_ BK388 0, kc_ BK388 1, kc_ BK388 2, kc_ BK388 3⟩ (fun hHeld => ?_)
      clear hK K
      refine norm_ (a' := ?_) ?_ ?_
      rotate_left
      ·
       show Act.put _ (some 30) _ = _
       simp only [Act.put, List.setIfInBounds_toArray, List.set_cons_zero, List.set_cons_succ, i64_w, i32_w]
       rfl
      refine one_ (i := 6) (N := some 31) (bm_ 8 127) rfl rfl (one_of HT_.out (by kernel_rfl)) (by decide) (fun K hK => ?_)
      refine gr_ Tryz.func82 #[.slice Ao44 t392.length co44, .slice Ao45 t395.length co45] ?_
      with_reducible refine (platbookref03_Alike.calls kj2 _ _ t392 _ _ t395 t398 _ ?side1 ?side2 ?side3 ?side4 A37.out).mono ?_
      (case side1 => repeat (first | exact (Kd.R_reads' HO394.out).2.2 | (with_reducible refine Kd.C_alloc ?_ _) | (with_reducible refine Kd.C_drewN ?_ _) | (with_reducible refine Kd.C_drew ?_)))
      (case side2 => exact (Kd.R_reads' HO394.out).2.1)
      (case side3 => repeat (first | exact (Kd.R_reads' HO397.out).2.2 | (with_reducible refine Kd.C_alloc ?_ _) | (with_reducible refine Kd.C_drewN ?_ _) | (with_reducible refine Kd.C_drew ?_)))
      (case side4 => exact (Kd.R_reads' HO397.out).2.1)
      rintro e w' ⟨rfl, ⟨nd, rfl⟩⟩
      refine ⟨_, rfl, ?_⟩
      refine hK.out _ _ ⟨kc_ BK387 0, kc_ BK387 1, kc_ BK387 2, kc_ BK387 3, kc_ BK388 0, kc_ BK388 1, kc_ BK388 2, kc_ BK388 3⟩ (fun hHeld => ?_)
      clear hK K
      refine norm_ (a' := ?_) ?_ ?_
      rotate_left
      ·
       show Act.put _ (some 31) _ = _
       simp only [Act.put, List.setIfInBounds_toArray, List.set_cons_zero, List.set_cons_succ, i64_w, i32_w]
       rfl
      refine pu_ 7 (some 6) (bm_ 8 255) rfl HT_ ⟨by rfl, by intro w'; go_simp; with_reducible rfl⟩ ?_
      refine done_ (done_of HT_.out (by kernel_rfl)) ?_
      have hnb46 := NB387_388.out
      have hnc46 := NB388_387.out
      have hnb47 := NB387_389.out
      have hnc47 := NB389_387.out
      obtain ⟨hcz48_0, hcz48_1, hcz48_2, hcz48_3, hfz48_0, hfz48_1, hfz48_2, hfz48_3⟩ := c4_ BK387
      have hnb49 := NB388_389.out
      have hnc49 := NB389_388.out
      obtain ⟨hcz50_0, hcz50_1, hcz50_2, hcz50_3, hfz50_0, hfz50_1, hfz50_2, hfz50_3⟩ := c4_ BK388
      try go_wp2_with (first | ((with_reducible refine gate_callee (f := 35) rfl ?_); refine gl_ (some 47) Tryz.func35 #[.agg #[.bool a0_0, .int .u64 a0_1, .int .u64 a0_2], .int .i64 a1_3] ?_; (with_reducible refine (platbookref03_Of.calls kj2 a0_0 a0_1 a0_2 a1_3 t399 t400 t401 t402 t403 _ A40.out).mono ?_); rintro e w51 ⟨rfl, hb⟩; refine ⟨_, rfl, ?_⟩; replace HO394 := Aside0.mk (Kd.R_below (by (with_reducible repeat (first | apply Kd.R_alloc | apply Kd.R_drewN | apply Kd.R_drew)); exact HO394.out) hb); replace HO397 := Aside0.mk (Kd.R_below (by (with_reducible repeat (first | apply Kd.R_alloc | apply Kd.R_drewN | apply Kd.R_drew)); exact HO397.out) hb); replace BK387 := bb_ BK387 hb; replace BK388 := bb_ BK388 hb; replace BK389 := bb_ BK389 hb; replace HB := bs_ HB hb; (try clear hb); (try clear hb2); (try clear hk); (try clear hi); obtain ⟨hcz52_0, hcz52_1, hcz52_2, hcz52_3, hfz52_0, hfz52_1, hfz52_2, hfz52_3⟩ := c4_ BK389))
      refine bodyPost_ret (results_ct rfl _ _ gb389 38 #[.bool t399, .int .u64 t400, .int .u64 t401, .int .i64 t402] (0, 0) _ rfl (by refine pw_ ?_; refine blk_put (cs := #[.bool t399, .int .u64 t400, .int .u64 t401, .int .i64 0]) ?_ 3 _ rfl; refine pw_ ?_; refine blk_put (cs := #[.bool t399, .int .u64 t400, .int .u64 0, .int .i64 0]) ?_ 2 _ rfl; refine pw_ ?_; refine blk_put (cs := #[.bool t399, .int .u64 0, .int .u64 0, .int .i64 0]) ?_ 1 _ rfl; refine pw_ ?_; refine blk_put (cs := #[.bool false, .int .u64 0, .int .u64 0, .int .i64 0]) ?_ 0 _ rfl; refine pw_ ?_; exact BK389.out) Tryz.underlying38 rfl (by kernel_rfl)) rfl ?_
      exact ⟨by first | rfl | (simp [errW_none, errW_some] <;> rfl) | (simp [*, errW_none, errW_some] <;> rfl), pb_ HB⟩
     ·
      rw [if_neg c39] at H
      have c39b0 : decide (a1_3 < a0_3) = false := decide_eq_false c39
      clear c39
      replace H := Option.bind_eq_some_iff.mp H
      obtain ⟨⟨t404, t405, t406, t407, t408⟩, A530, H⟩ := H
      replace H : (some (t404, t405, t406, t407, t408)) = some (r1, r2, r3, r4, r5) := H
      have A53 := Aside0.mk A530
      clear A530
      simp only [Option.some.injEq, Prod.mk.injEq] at H
      obtain ⟨rfl, rfl, rfl, rfl, rfl⟩ := H
      try go_wp2
      replace BK387 := Aside0.mk (blk_drew BK387.out)
      replace BK388 := Aside0.mk (blk_drew BK388.out)
      replace BK389 := Aside0.mk (blk_drew BK389.out)
      replace HB := Aside0.mk (below_drew1 HB.out)
      refine start_ (n := 8) (S := fun w' => w'.cell? ⟨gb387, 0, none⟩ = some (.bool a0_0) ∧ w'.cell? ⟨gb387, 1, none⟩ = some (.int .u64 a0_1) ∧ w'.cell? ⟨gb387, 2, none⟩ = some (.int .u64 a0_2) ∧ w'.cell? ⟨gb387, 3, none⟩ = some (.int .i64 a0_3) ∧ w'.cell? ⟨gb388, 0, none⟩ = some (.bool a1_0) ∧ w'.cell? ⟨gb388, 1, none⟩ = some (.int .u64 a1_1) ∧ w'.cell? ⟨gb388, 2, none⟩ = some (.int .u64 a1_2) ∧ w'.cell? ⟨gb388, 3, none⟩ = some (.int .i64 a1_3)) (ds := []) (bm_ 8 0) (by kernel_rfl) rfl rfl ⟨kc_ BK387 0, kc_ BK387 1, kc_ BK387 2, kc_ BK387 3, kc_ BK388 0, kc_ BK388 1, kc_ BK388 2, kc_ BK388 3⟩ (fun hHeld => ?_); refine with_tabW platbookref03_Common.tab3 platbookref03_Common.bits3 (fun HT_ HW_ => ?_)
      generalize wc.drew = w54 at BK387 BK388 BK389 HB hHeld ⊢
      refine pu_ 0 (some 25) (bm_ 8 1) rfl HT_ ⟨by rfl, by intro w'; go_simp; with_reducible rfl⟩ ?_
      refine pu_ 3 (some 28) (bm_ 8 9) rfl HT_ ⟨by rfl, by intro w'; go_simp; with_reducible rfl⟩ ?_
      refine ta_ 1 (some 26) (bm_ 8 11) rfl HT_ HW_ ⟨by rfl, by rintro w' ⟨s0, s1, s2, s3, s4, s5, s6, s7⟩; go_simp; with_reducible rfl⟩ hHeld ?_
      refine ta_ 4 (some 29) (bm_ 8 27) rfl HT_ HW_ ⟨by rfl, by rintro w' ⟨s0, s1, s2, s3, s4, s5, s6, s7⟩; go_simp; with_reducible rfl⟩ hHeld ?_
      refine one_ (i := 2) (N := some 27) (bm_ 8 31) rfl rfl (one_of HT_.out (by kernel_rfl)) (by decide) (fun K hK => ?_)
      refine gr_ Tryz.func83 #[.agg #[.bool a0_0, .int .u64 a0_1, .int .u64 a0_2]] ?_
      with_reducible refine (platbookref03_Row.calls kj2 a0_0 a0_1 a0_2 t392 _ A35.out).mono ?_
      rintro e w55 ⟨v393, rfl, ho0, hb⟩
      refine ⟨_, rfl, ?_⟩
      have HO394 := Aside0.mk (Kd.R_lower ho0 (below_size (pb_ HB)))
      replace BK387 := bb_ BK387 hb
      replace BK388 := bb_ BK388 hb
      replace BK389 := bb_ BK389 hb
      replace HB := bs_ HB hb
      (try clear hb)
      (try clear hb2)
      (try clear hk)
      (try clear hi)
      (try clear ho0)
      refine hK.out _ _ ⟨kc_ BK387 0, kc_ BK387 1, kc_ BK387 2, kc_ BK387 3, kc_ BK388 0, kc_ BK388 1, kc_ BK388 2, kc_ BK388 3⟩ (fun hHeld => ?_)
      clear hK K
      refine norm_ (a' := ?_) ?_ ?_
      rotate_left
      ·
       show Act.put _ (some 27) _ = _
       simp only [Act.put, List.setIfInBounds_toArray, List.set_cons_zero, List.set_cons_succ, i64_w, i32_w]
       rfl
      refine one_ (i := 5) (N := some 30) (bm_ 8 63) rfl rfl (one_of HT_.out (by kernel_rfl)) (by decide) (fun K hK => ?_)
      refine gr_ Tryz.func83 #[.agg #[.bool a1_0, .int .u64 a1_1, .int .u64 a1_2]] ?_
      with_reducible refine (platbookref03_Row.calls kj2 a1_0 a1_1 a1_2 t395 _ A36.out).mono ?_
      rintro e w56 ⟨v396, rfl, ho0, hb⟩
      refine ⟨_, rfl, ?_⟩
      have HO397 := Aside0.mk (Kd.R_lower (Kd.R_new' ho0 (Kd.R_lt (by (with_reducible repeat (first | apply Kd.R_alloc | apply Kd.R_drewN | apply Kd.R_drew)); exact HO394.out))) (below_size (pb_ HB)))
      replace HO394 := Aside0.mk (Kd.R_elder' (by (with_reducible repeat (first | apply Kd.R_alloc | apply Kd.R_drewN | apply Kd.R_drew)); exact HO394.out) (Kd.R_base ho0) hb)
      replace BK387 := bb_ BK387 hb
      replace BK388 := bb_ BK388 hb
      replace BK389 := bb_ BK389 hb
      replace HB := bs_ HB hb
      (try clear hb)
      (try clear hb2)
      (try clear hk)
      (try clear hi)
      (try clear ho0)
      obtain ⟨Ao57, co57, eo57⟩ := Kd.R_slice HO394.out
      (first | subst eo57 | (injection eo57 with f1_ f2_ f3_; have f4_ := f1_.symm; have f5_ := f3_.symm; clear f1_ f2_ f3_; subst f4_; subst f5_))
      obtain ⟨Ao58, co58, eo58⟩ := Kd.R_slice HO397.out
      (first | subst eo58 | (injection eo58 with f1_ f2_ f3_; have f4_ := f1_.symm; have f5_ := f3_.symm; clear f1_ f2_ f3_; subst f4_; subst f5_))
      refine hK.out _ _ ⟨kc_ BK387 0, kc_ BK387 1, kc_ BK387 2, kc_ BK387 3, kc_ BK388 0, kc_ BK388 1, kc_ BK388 2, kc_ BK388 3⟩ (fun hHeld => ?_)
      clear hK K
      refine norm_ (a' := ?_) ?_ ?_
      rotate_left
      ·
       show Act.put _ (some 30) _ = _
       simp only [Act.put, List.setIfInBounds_toArray, List.set_cons_zero, List.set_cons_succ, i64_w, i32_w]
       rfl
      refine one_ (i := 6) (N := some 31) (bm_ 8 127) rfl rfl (one_of HT_.out (by kernel_rfl)) (by decide) (fun K hK => ?_)
      refine gr_ Tryz.func82 #[.slice Ao57 t392.length co57, .slice Ao58 t395.length co58] ?_
      with_reducible refine (platbookref03_Alike.calls kj2 _ _ t392 _ _ t395 t398 _ ?side1 ?side2 ?side3 ?side4 A37.out).mono ?_
      (case side1 => repeat (first | exact (Kd.R_reads' HO394.out).2.2 | (with_reducible refine Kd.C_alloc ?_ _) | (with_reducible refine Kd.C_drewN ?_ _) | (with_reducible refine Kd.C_drew ?_)))
      (case side2 => exact (Kd.R_reads' HO394.out).2.1)
      (case side3 => repeat (first | exact (Kd.R_reads' HO397.out).2.2 | (with_reducible refine Kd.C_alloc ?_ _) | (with_reducible refine Kd.C_drewN ?_ _) | (with_reducible refine Kd.C_drew ?_)))
      (case side4 => exact (Kd.R_reads' HO397.out).2.1)
      rintro e w' ⟨rfl, ⟨nd, rfl⟩⟩
      refine ⟨_, rfl, ?_⟩
      refine hK.out _ _ ⟨kc_ BK387 0, kc_ BK387 1, kc_ BK387 2, kc_ BK387 3, kc_ BK388 0, kc_ BK388 1, kc_ BK388 2, kc_ BK388 3⟩ (fun hHeld => ?_)
      clear hK K
      refine norm_ (a' := ?_) ?_ ?_
      rotate_left
      ·
       show Act.put _ (some 31) _ = _
       simp only [Act.put, List.setIfInBounds_toArray, List.set_cons_zero, List.set_cons_succ, i64_w, i32_w]
       rfl
      refine pu_ 7 (some 6) (bm_ 8 255) rfl HT_ ⟨by rfl, by intro w'; go_simp; with_reducible rfl⟩ ?_
      refine done_ (done_of HT_.out (by kernel_rfl)) ?_
      have hnb59 := NB387_388.out
      have hnc59 := NB388_387.out
      have hnb60 := NB387_389.out
      have hnc60 := NB389_387.out
      obtain ⟨hcz61_0, hcz61_1, hcz61_2, hcz61_3, hfz61_0, hfz61_1, hfz61_2, hfz61_3⟩ := c4_ BK387
      have hnb62 := NB388_389.out
      have hnc62 := NB389_388.out
      obtain ⟨hcz63_0, hcz63_1, hcz63_2, hcz63_3, hfz63_0, hfz63_1, hfz63_2, hfz63_3⟩ := c4_ BK388
      try go_wp2_with (first | ((with_reducible refine gate_callee (f := 35) rfl ?_); refine gl_ (some 47) Tryz.func35 #[.agg #[.bool a0_0, .int .u64 a0_1, .int .u64 a0_2], .int .i64 a0_3] ?_; (with_reducible refine (platbookref03_Of.calls kj2 a0_0 a0_1 a0_2 a0_3 t404 t405 t406 t407 t408 _ A53.out).mono ?_); rintro e w64 ⟨rfl, hb⟩; refine ⟨_, rfl, ?_⟩; replace HO394 := Aside0.mk (Kd.R_below (by (with_reducible repeat (first | apply Kd.R_alloc | apply Kd.R_drewN | apply Kd.R_drew)); exact HO394.out) hb); replace HO397 := Aside0.mk (Kd.R_below (by (with_reducible repeat (first | apply Kd.R_alloc | apply Kd.R_drewN | apply Kd.R_drew)); exact HO397.out) hb); replace BK387 := bb_ BK387 hb; replace BK388 := bb_ BK388 hb; replace BK389 := bb_ BK389 hb; replace HB := bs_ HB hb; (try clear hb); (try clear hb2); (try clear hk); (try clear hi); obtain ⟨hcz65_0, hcz65_1, hcz65_2, hcz65_3, hfz65_0, hfz65_1, hfz65_2, hfz65_3⟩ := c4_ BK389))
      refine bodyPost_ret (results_ct rfl _ _ gb389 38 #[.bool t404, .int .u64 t405, .int .u64 t406, .int .i64 t407] (0, 0) _ rfl (by refine pw_ ?_; refine blk_put (cs := #[.bool t404, .int .u64 t405, .int .u64 t406, .int .i64 0]) ?_ 3 _ rfl; refine pw_ ?_; refine blk_put (cs := #[.bool t404, .int .u64 t405, .int .u64 0, .int .i64 0]) ?_ 2 _ rfl; refine pw_ ?_; refine blk_put (cs := #[.bool t404, .int .u64 0, .int .u64 0, .int .i64 0]) ?_ 1 _ rfl; refine pw_ ?_; refine blk_put (cs := #[.bool false, .int .u64 0, .int .u64 0, .int .i64 0]) ?_ 0 _ rfl; refine pw_ ?_; exact BK389.out) Tryz.underlying38 rfl (by kernel_rfl)) rfl ?_
      exact ⟨by first | rfl | (simp [errW_none, errW_some] <;> rfl) | (simp [*, errW_none, errW_some] <;> rfl), pb_ HB⟩
    ·
     rw [if_neg c38] at H
     have c38b0 : decide (a0_3 < t398) = false := decide_eq_false c38
     clear c38
     by_cases c66 : a1_3 < t398
     ·
      rw [if_pos c66] at H
      have c66b0 : decide (a1_3 < t398) = true := decide_eq_true c66
      clear c66
      replace H := Option.bind_eq_some_iff.mp H
      obtain ⟨⟨t409, t410, t411, t412, t413⟩, A670, H⟩ := H
      replace H : (some (t409, t410, t411, t412, t413)) = some (r1, r2, r3, r4, r5) := H
      have A67 := Aside0.mk A670
      clear A670
      simp only [Option.some.injEq, Prod.mk.injEq] at H
      obtain ⟨rfl, rfl, rfl, rfl, rfl⟩ := H
      try go_wp2
      replace BK387 := Aside0.mk (blk_drew BK387.out)
      replace BK388 := Aside0.mk (blk_drew BK388.out)
      replace BK389 := Aside0.mk (blk_drew BK389.out)
      replace HB := Aside0.mk (below_drew1 HB.out)
      refine start_ (n := 8) (S := fun w' => w'.cell? ⟨gb387, 0, none⟩ = some (.bool a0_0) ∧ w'.cell? ⟨gb387, 1, none⟩ = some (.int .u64 a0_1) ∧ w'.cell? ⟨gb387, 2, none⟩ = some (.int .u64 a0_2) ∧ w'.cell? ⟨gb387, 3, none⟩ = some (.int .i64 a0_3) ∧ w'.cell? ⟨gb388, 0, none⟩ = some (.bool a1_0) ∧ w'.cell? ⟨gb388, 1, none⟩ = some (.int .u64 a1_1) ∧ w'.cell? ⟨gb388, 2, none⟩ = some (.int .u64 a1_2) ∧ w'.cell? ⟨gb388, 3, none⟩ = some (.int .i64 a1_3)) (ds := []) (bm_ 8 0) (by kernel_rfl) rfl rfl ⟨kc_ BK387 0, kc_ BK387 1, kc_ BK387 2, kc_ BK387 3, kc_ BK388 0, kc_ BK388 1, kc_ BK388 2, kc_ BK388 3⟩ (fun hHeld => ?_); refine with_tabW platbookref03_Common.tab3 platbookref03_Common.bits3 (fun HT_ HW_ => ?_)
      generalize wc.drew = w68 at BK387 BK388 BK389 HB hHeld ⊢
      refine pu_ 0 (some 25) (bm_ 8 1) rfl HT_ ⟨by rfl, by intro w'; go_simp; with_reducible rfl⟩ ?_
      refine pu_ 3 (some 28) (bm_ 8 9) rfl HT_ ⟨by rfl, by intro w'; go_simp; with_reducible rfl⟩ ?_
      refine ta_ 1 (some 26) (bm_ 8 11) rfl HT_ HW_ ⟨by rfl, by rintro w' ⟨s0, s1, s2, s3, s4, s5, s6, s7⟩; go_simp; with_reducible rfl⟩ hHeld ?_
      refine ta_ 4 (some 29) (bm_ 8 27) rfl HT_ HW_ ⟨by rfl, by rintro w' ⟨s0, s1, s2, s3, s4, s5, s6, s7⟩; go_simp; with_reducible rfl⟩ hHeld ?_
      refine one_ (i := 2) (N := some 27) (bm_ 8 31) rfl rfl (one_of HT_.out (by kernel_rfl)) (by decide) (fun K hK => ?_)
      refine gr_ Tryz.func83 #[.agg #[.bool a0_0, .int .u64 a0_1, .int .u64 a0_2]] ?_
      with_reducible refine (platbookref03_Row.calls kj2 a0_0 a0_1 a0_2 t392 _ A35.out).mono ?_
      rintro e w69 ⟨v393, rfl, ho0, hb⟩
      refine ⟨_, rfl, ?_⟩
      have HO394 := Aside0.mk (Kd.R_lower ho0 (below_size (pb_ HB)))
      replace BK387 := bb_ BK387 hb
      replace BK388 := bb_ BK388 hb
      replace BK389 := bb_ BK389 hb
      replace HB := bs_ HB hb
      (try clear hb)
      (try clear hb2)
      (try clear hk)
      (try clear hi)
      (try clear ho0)
      refine hK.out _ _ ⟨kc_ BK387 0, kc_ BK387 1, kc_ BK387 2, kc_ BK387 3, kc_ BK388 0, kc_ BK388 1, kc_ BK388 2, kc_ BK388 3⟩ (fun hHeld => ?_)
      clear hK K
      refine norm_ (a' := ?_) ?_ ?_
      rotate_left
      ·
       show Act.put _ (some 27) _ = _
       simp only [Act.put, List.setIfInBounds_toArray, List.set_cons_zero, List.set_cons_succ, i64_w, i32_w]
       rfl
      refine one_ (i := 5) (N := some 30) (bm_ 8 63) rfl rfl (one_of HT_.out (by kernel_rfl)) (by decide) (fun K hK => ?_)
      refine gr_ Tryz.func83 #[.agg #[.bool a1_0, .int .u64 a1_1, .int .u64 a1_2]] ?_
      with_reducible refine (platbookref03_Row.calls kj2 a1_0 a1_1 a1_2 t395 _ A36.out).mono ?_
      rintro e w70 ⟨v396, rfl, ho0, hb⟩
      refine ⟨_, rfl, ?_⟩
      have HO397 := Aside0.mk (Kd.R_lower (Kd.R_new' ho0 (Kd.R_lt (by (with_reducible repeat (first | apply Kd.R_alloc | apply Kd.R_drewN | apply Kd.R_drew)); exact HO394.out))) (below_size (pb_ HB)))
      replace HO394 := Aside0.mk (Kd.R_elder' (by (with_reducible repeat (first | apply Kd.R_alloc | apply Kd.R_drewN | apply Kd.R_drew)); exact HO394.out) (Kd.R_base ho0) hb)
      replace BK387 := bb_ BK387 hb
      replace BK388 := bb_ BK388 hb
      replace BK389 := bb_ BK389 hb
      replace HB := bs_ HB hb
      (try clear hb)
      (try clear hb2)
      (try clear hk)
      (try clear hi)
      (try clear ho0)
      obtain ⟨Ao71, co71, eo71⟩ := Kd.R_slice HO394.out
      (first | subst eo71 | (injection eo71 with f1_ f2_ f3_; have f4_ := f1_.symm; have f5_ := f3_.symm; clear f1_ f2_ f3_; subst f4_; subst f5_))
      obtain ⟨Ao72, co72, eo72⟩ := Kd.R_slice HO397.out
      (first | subst eo72 | (injection eo72 with f1_ f2_ f3_; have f4_ := f1_.symm; have f5_ := f3_.symm; clear f1_ f2_ f3_; subst f4_; subst f5_))
      refine hK.out _ _ ⟨kc_ BK387 0, kc_ BK387 1, kc_ BK387 2, kc_ BK387 3, kc_ BK388 0, kc_ BK388 1, kc_ BK388 2, kc_ BK388 3⟩ (fun hHeld => ?_)
      clear hK K
      refine norm_ (a' := ?_) ?_ ?_
      rotate_left
      ·
       show Act.put _ (some 30) _ = _
       simp only [Act.put, List.setIfInBounds_toArray, List.set_cons_zero, List.set_cons_succ, i64_w, i32_w]
       rfl
      refine one_ (i := 6) (N := some 31) (bm_ 8 127) rfl rfl (one_of HT_.out (by kernel_rfl)) (by decide) (fun K hK => ?_)
      refine gr_ Tryz.func82 #[.slice Ao71 t392.length co71, .slice Ao72 t395.length co72] ?_
      with_reducible refine (platbookref03_Alike.calls kj2 _ _ t392 _ _ t395 t398 _ ?side1 ?side2 ?side3 ?side4 A37.out).mono ?_
      (case side1 => repeat (first | exact (Kd.R_reads' HO394.out).2.2 | (with_reducible refine Kd.C_alloc ?_ _) | (with_reducible refine Kd.C_drewN ?_ _) | (with_reducible refine Kd.C_drew ?_)))
      (case side2 => exact (Kd.R_reads' HO394.out).2.1)
      (case side3 => repeat (first | exact (Kd.R_reads' HO397.out).2.2 | (with_reducible refine Kd.C_alloc ?_ _) | (with_reducible refine Kd.C_drewN ?_ _) | (with_reducible refine Kd.C_drew ?_)))
      (case side4 => exact (Kd.R_reads' HO397.out).2.1)
      rintro e w' ⟨rfl, ⟨nd, rfl⟩⟩
      refine ⟨_, rfl, ?_⟩
      refine hK.out _ _ ⟨kc_ BK387 0, kc_ BK387 1, kc_ BK387 2, kc_ BK387 3, kc_ BK388 0, kc_ BK388 1, kc_ BK388 2, kc_ BK388 3⟩ (fun hHeld => ?_)
      clear hK K
      refine norm_ (a' := ?_) ?_ ?_
      rotate_left
      ·
       show Act.put _ (some 31) _ = _
       simp only [Act.put, List.setIfInBounds_toArray, List.set_cons_zero, List.set_cons_succ, i64_w, i32_w]
       rfl
      refine pu_ 7 (some 6) (bm_ 8 255) rfl HT_ ⟨by rfl, by intro w'; go_simp; with_reducible rfl⟩ ?_
      refine done_ (done_of HT_.out (by kernel_rfl)) ?_
      have hnb73 := NB387_388.out
      have hnc73 := NB388_387.out
      have hnb74 := NB387_389.out
      have hnc74 := NB389_387.out
      obtain ⟨hcz75_0, hcz75_1, hcz75_2, hcz75_3, hfz75_0, hfz75_1, hfz75_2, hfz75_3⟩ := c4_ BK387
      have hnb76 := NB388_389.out
      have hnc76 := NB389_388.out
      obtain ⟨hcz77_0, hcz77_1, hcz77_2, hcz77_3, hfz77_0, hfz77_1, hfz77_2, hfz77_3⟩ := c4_ BK388
      try go_wp2_with (first | ((with_reducible refine gate_callee (f := 35) rfl ?_); refine gl_ (some 47) Tryz.func35 #[.agg #[.bool a0_0, .int .u64 a0_1, .int .u64 a0_2], .int .i64 a1_3] ?_; (with_reducible refine (platbookref03_Of.calls kj2 a0_0 a0_1 a0_2 a1_3 t409 t410 t411 t412 t413 _ A67.out).mono ?_); rintro e w78 ⟨rfl, hb⟩; refine ⟨_, rfl, ?_⟩; replace HO394 := Aside0.mk (Kd.R_below (by (with_reducible repeat (first | apply Kd.R_alloc | apply Kd.R_drewN | apply Kd.R_drew)); exact HO394.out) hb); replace HO397 := Aside0.mk (Kd.R_below (by (with_reducible repeat (first | apply Kd.R_alloc | apply Kd.R_drewN | apply Kd.R_drew)); exact HO397.out) hb); replace BK387 := bb_ BK387 hb; replace BK388 := bb_ BK388 hb; replace BK389 := bb_ BK389 hb; replace HB := bs_ HB hb; (try clear hb); (try clear hb2); (try clear hk); (try clear hi); obtain ⟨hcz79_0, hcz79_1, hcz79_2, hcz79_3, hfz79_0, hfz79_1, hfz79_2, hfz79_3⟩ := c4_ BK389))
      refine bodyPost_ret (results_ct rfl _ _ gb389 38 #[.bool t409, .int .u64 t410, .int .u64 t411, .int .i64 t412] (0, 0) _ rfl (by refine pw_ ?_; refine blk_put (cs := #[.bool t409, .int .u64 t410, .int .u64 t411, .int .i64 0]) ?_ 3 _ rfl; refine pw_ ?_; refine blk_put (cs := #[.bool t409, .int .u64 t410, .int .u64 0, .int .i64 0]) ?_ 2 _ rfl; refine pw_ ?_; refine blk_put (cs := #[.bool t409, .int .u64 0, .int .u64 0, .int .i64 0]) ?_ 1 _ rfl; refine pw_ ?_; refine blk_put (cs := #[.bool false, .int .u64 0, .int .u64 0, .int .i64 0]) ?_ 0 _ rfl; refine pw_ ?_; exact BK389.out) Tryz.underlying38 rfl (by kernel_rfl)) rfl ?_
      exact ⟨by first | rfl | (simp [errW_none, errW_some] <;> rfl) | (simp [*, errW_none, errW_some] <;> rfl), pb_ HB⟩
     ·
      rw [if_neg c66] at H
      have c66b0 : decide (a1_3 < t398) = false := decide_eq_false c66
      clear c66
      replace H := Option.bind_eq_some_iff.mp H
      obtain ⟨⟨t414, t415, t416, t417, t418⟩, A800, H⟩ := H
      replace H : (some (t414, t415, t416, t417, t418)) = some (r1, r2, r3, r4, r5) := H
      have A80 := Aside0.mk A800
      clear A800
      simp only [Option.some.injEq, Prod.mk.injEq] at H
      obtain ⟨rfl, rfl, rfl, rfl, rfl⟩ := H
      try go_wp2
      replace BK387 := Aside0.mk (blk_drew BK387.out)
      replace BK388 := Aside0.mk (blk_drew BK388.out)
      replace BK389 := Aside0.mk (blk_drew BK389.out)
      replace HB := Aside0.mk (below_drew1 HB.out)
      refine start_ (n := 8) (S := fun w' => w'.cell? ⟨gb387, 0, none⟩ = some (.bool a0_0) ∧ w'.cell? ⟨gb387, 1, none⟩ = some (.int .u64 a0_1) ∧ w'.cell? ⟨gb387, 2, none⟩ = some (.int .u64 a0_2) ∧ w'.cell? ⟨gb387, 3, none⟩ = some (.int .i64 a0_3) ∧ w'.cell? ⟨gb388, 0, none⟩ = some (.bool a1_0) ∧ w'.cell? ⟨gb388, 1, none⟩ = some (.int .u64 a1_1) ∧ w'.cell? ⟨gb388, 2, none⟩ = some (.int .u64 a1_2) ∧ w'.cell? ⟨gb388, 3, none⟩ = some (.int .i64 a1_3)) (ds := []) (bm_ 8 0) (by kernel_rfl) rfl rfl ⟨kc_ BK387 0, kc_ BK387 1, kc_ BK387 2, kc_ BK387 3, kc_ BK388 0, kc_ BK388 1, kc_ BK388 2, kc_ BK388 3⟩ (fun hHeld => ?_); refine with_tabW platbookref03_Common.tab3 platbookref03_Common.bits3 (fun HT_ HW_ => ?_)
      generalize wc.drew = w81 at BK387 BK388 BK389 HB hHeld ⊢
      refine pu_ 0 (some 25) (bm_ 8 1) rfl HT_ ⟨by rfl, by intro w'; go_simp; with_reducible rfl⟩ ?_
      refine pu_ 3 (some 28) (bm_ 8 9) rfl HT_ ⟨by rfl, by intro w'; go_simp; with_reducible rfl⟩ ?_
      refine ta_ 1 (some 26) (bm_ 8 11) rfl HT_ HW_ ⟨by rfl, by rintro w' ⟨s0, s1, s2, s3, s4, s5, s6, s7⟩; go_simp; with_reducible rfl⟩ hHeld ?_
      refine ta_ 4 (some 29) (bm_ 8 27) rfl HT_ HW_ ⟨by rfl, by rintro w' ⟨s0, s1, s2, s3, s4, s5, s6, s7⟩; go_simp; with_reducible rfl⟩ hHeld ?_
      refine one_ (i := 2) (N := some 27) (bm_ 8 31) rfl rfl (one_of HT_.out (by kernel_rfl)) (by decide) (fun K hK => ?_)
      refine gr_ Tryz.func83 #[.agg #[.bool a0_0, .int .u64 a0_1, .int .u64 a0_2]] ?_
      with_reducible refine (platbookref03_Row.calls kj2 a0_0 a0_1 a0_2 t392 _ A35.out).mono ?_
      rintro e w82 ⟨v393, rfl, ho0, hb⟩
      refine ⟨_, rfl, ?_⟩
      have HO394 := Aside0.mk (Kd.R_lower ho0 (below_size (pb_ HB)))
      replace BK387 := bb_ BK387 hb
      replace BK388 := bb_ BK388 hb
      replace BK389 := bb_ BK389 hb
      replace HB := bs_ HB hb
      (try clear hb)
      (try clear hb2)
      (try clear hk)
      (try clear hi)
      (try clear ho0)
      refine hK.out _ _ ⟨kc_ BK387 0, kc_ BK387 1, kc_ BK387 2, kc_ BK387 3, kc_ BK388 0, kc_ BK388 1, kc_ BK388 2, kc_ BK388 3⟩ (fun hHeld => ?_)
      clear hK K
      refine norm_ (a' := ?_) ?_ ?_
      rotate_left
      ·
       show Act.put _ (some 27) _ = _
       simp only [Act.put, List.setIfInBounds_toArray, List.set_cons_zero, List.set_cons_succ, i64_w, i32_w]
       rfl
      refine one_ (i := 5) (N := some 30) (bm_ 8 63) rfl rfl (one_of HT_.out (by kernel_rfl)) (by decide) (fun K hK => ?_)
      refine gr_ Tryz.func83 #[.agg #[.bool a1_0, .int .u64 a1_1, .int .u64 a1_2]] ?_
      with_reducible refine (platbookref03_Row.calls kj2 a1_0 a1_1 a1_2 t395 _ A36.out).mono ?_
      rintro e w83 ⟨v396, rfl, ho0, hb⟩
      refine ⟨_, rfl, ?_⟩
      have HO397 := Aside0.mk (Kd.R_lower (Kd.R_new' ho0 (Kd.R_lt (by (with_reducible repeat (first | apply Kd.R_alloc | apply Kd.R_drewN | apply Kd.R_drew)); exact HO394.out))) (below_size (pb_ HB)))
      replace HO394 := Aside0.mk (Kd.R_elder' (by (with_reducible repeat (first | apply Kd.R_alloc | apply Kd.R_drewN | apply Kd.R_drew)); exact HO394.out) (Kd.R_base ho0) hb)
      replace BK387 := bb_ BK387 hb
      replace BK388 := bb_ BK388 hb
      replace BK389 := bb_ BK389 hb
      replace HB := bs_ HB hb
      (try clear hb)
      (try clear hb2)
      (try clear hk)
      (try clear hi)
      (try clear ho0)
      obtain ⟨Ao84, co84, eo84⟩ := Kd.R_slice HO394.out
      (first | subst eo84 | (injection eo84 with f1_ f2_ f3_; have f4_ := f1_.symm; have f5_ := f3_.symm; clear f1_ f2_ f3_; subst f4_; subst f5_))
      obtain ⟨Ao85, co85, eo85⟩ := Kd.R_slice HO397.out
      (first | subst eo85 | (injection eo85 with f1_ f2_ f3_; have f4_ := f1_.symm; have f5_ := f3_.symm; clear f1_ f2_ f3_; subst f4_; subst f5_))
      refine hK.out _ _ ⟨kc_ BK387 0, kc_ BK387 1, kc_ BK387 2, kc_ BK387 3, kc_ BK388 0, kc_ BK388 1, kc_ BK388 2, kc_ BK388 3⟩ (fun hHeld => ?_)
      clear hK K
      refine norm_ (a' := ?_) ?_ ?_
      rotate_left
      ·
       show Act.put _ (some 30) _ = _
       simp only [Act.put, List.setIfInBounds_toArray, List.set_cons_zero, List.set_cons_succ, i64_w, i32_w]
       rfl
      refine one_ (i := 6) (N := some 31) (bm_ 8 127) rfl rfl (one_of HT_.out (by kernel_rfl)) (by decide) (fun K hK => ?_)
      refine gr_ Tryz.func82 #[.slice Ao84 t392.length co84, .slice Ao85 t395.length co85] ?_
      with_reducible refine (platbookref03_Alike.calls kj2 _ _ t392 _ _ t395 t398 _ ?side1 ?side2 ?side3 ?side4 A37.out).mono ?_
      (case side1 => repeat (first | exact (Kd.R_reads' HO394.out).2.2 | (with_reducible refine Kd.C_alloc ?_ _) | (with_reducible refine Kd.C_drewN ?_ _) | (with_reducible refine Kd.C_drew ?_)))
      (case side2 => exact (Kd.R_reads' HO394.out).2.1)
      (case side3 => repeat (first | exact (Kd.R_reads' HO397.out).2.2 | (with_reducible refine Kd.C_alloc ?_ _) | (with_reducible refine Kd.C_drewN ?_ _) | (with_reducible refine Kd.C_drew ?_)))
      (case side4 => exact (Kd.R_reads' HO397.out).2.1)
      rintro e w' ⟨rfl, ⟨nd, rfl⟩⟩
      refine ⟨_, rfl, ?_⟩
      refine hK.out _ _ ⟨kc_ BK387 0, kc_ BK387 1, kc_ BK387 2, kc_ BK387 3, kc_ BK388 0, kc_ BK388 1, kc_ BK388 2, kc_ BK388 3⟩ (fun hHeld => ?_)
      clear hK K
      refine norm_ (a' := ?_) ?_ ?_
      rotate_left
      ·
       show Act.put _ (some 31) _ = _
       simp only [Act.put, List.setIfInBounds_toArray, List.set_cons_zero, List.set_cons_succ, i64_w, i32_w]
       rfl
      refine pu_ 7 (some 6) (bm_ 8 255) rfl HT_ ⟨by rfl, by intro w'; go_simp; with_reducible rfl⟩ ?_
      refine done_ (done_of HT_.out (by kernel_rfl)) ?_
      have hnb86 := NB387_388.out
      have hnc86 := NB388_387.out
      have hnb87 := NB387_389.out
      have hnc87 := NB389_387.out
      obtain ⟨hcz88_0, hcz88_1, hcz88_2, hcz88_3, hfz88_0, hfz88_1, hfz88_2, hfz88_3⟩ := c4_ BK387
      have hnb89 := NB388_389.out
      have hnc89 := NB389_388.out
      obtain ⟨hcz90_0, hcz90_1, hcz90_2, hcz90_3, hfz90_0, hfz90_1, hfz90_2, hfz90_3⟩ := c4_ BK388
      try go_wp2_with (first | ((with_reducible refine gate_callee (f := 35) rfl ?_); refine gl_ (some 47) Tryz.func35 #[.agg #[.bool a0_0, .int .u64 a0_1, .int .u64 a0_2], .int .i64 t398] ?_; (with_reducible refine (platbookref03_Of.calls kj2 a0_0 a0_1 a0_2 t398 t414 t415 t416 t417 t418 _ A80.out).mono ?_); rintro e w91 ⟨rfl, hb⟩; refine ⟨_, rfl, ?_⟩; replace HO394 := Aside0.mk (Kd.R_below (by (with_reducible repeat (first | apply Kd.R_alloc | apply Kd.R_drewN | apply Kd.R_drew)); exact HO394.out) hb); replace HO397 := Aside0.mk (Kd.R_below (by (with_reducible repeat (first | apply Kd.R_alloc | apply Kd.R_drewN | apply Kd.R_drew)); exact HO397.out) hb); replace BK387 := bb_ BK387 hb; replace BK388 := bb_ BK388 hb; replace BK389 := bb_ BK389 hb; replace HB := bs_ HB hb; (try clear hb); (try clear hb2); (try clear hk); (try clear hi); obtain ⟨hcz92_0, hcz92_1, hcz92_2, hcz92_3, hfz92_0, hfz92_1, hfz92_2, hfz92_3⟩ := c4_ BK389))
      refine bodyPost_ret (results_ct rfl _ _ gb389 38 #[.bool t414, .int .u64 t415, .int .u64 t416, .int .i64 t417] (0, 0) _ rfl (by refine pw_ ?_; refine blk_put (cs := #[.bool t414, .int .u64 t415, .int .u64 t416, .int .i64 0]) ?_ 3 _ rfl; refine pw_ ?_; refine blk_put (cs := #[.bool t414, .int .u64 t415, .int .u64 0, .int .i64 0]) ?_ 2 _ rfl; refine pw_ ?_; refine blk_put (cs := #[.bool t414, .int .u64 0, .int .u64 0, .int .i64 0]) ?_ 1 _ rfl; refine pw_ ?_; refine blk_put (cs := #[.bool false, .int .u64 0, .int .u64 0, .int .i64 0]) ?_ 0 _ rfl; refine pw_ ?_; exact BK389.out) Tryz.underlying38 rfl (by kernel_rfl)) rfl ?_
      exact ⟨by first | rfl | (simp [errW_none, errW_some] <;> rfl) | (simp [*, errW_none, errW_some] <;> rfl), pb_ HB⟩

end Go.Proofs.YtgdgklibilddgaaGreatDoor.PPr

namespace Go.Proofs.YtgdgklibilddgaaGreatDoor.PPr
open Go.RowKit Go.Proofs.YtgdgklibilddgaaGreatDoorW.PrintWords Go.Proofs.YtgdgklibilddgaaGreatDoorW.PrintLast Go.Proofs.YtgdgklibilddgaaGreatDoorW.PrintMore
attribute [local go_sem] max2_int min2_int max_two min_two max_three min_three max_four min_four   -- for this text's walks alone

attribute [local go_sem high] eqA38
mutual
def platbooklaw03_PrefixCommon.j0 : Nat → Int → Bool → Bool → Int → Int → Int → Bool → Int → Int → Int → Bool → Int → Int → Int → Option (Bool)
 | 0, _, _, _, _, _, _, _, _, _, _, _, _, _, _ => none
 | k + 1, x6, x33, x420000, x420001, x420002, x420003, x421000, x421001, x421002, x421003, x428000, x428001, x428002, x428003 => if x33 = true then (some false) else (if x6 = 0 then ((prefix_Within.f k x420000 x420001 x420002 x420003 x428000 x428001 x428002 x428003).bind fun t434 => (if t434 = true then ((prefix_Within.f k x421000 x421001 x421002 x421003 x428000 x428001 x428002 x428003).bind fun t435 => (platbooklaw03_PrefixCommon.j1 k (!t435) x420000 x420001 x420002 x420003 x421000 x421001 x421002 x421003 x428000 x428001 x428002 x428003)) else (platbooklaw03_PrefixCommon.j1 k true x420000 x420001 x420002 x420003 x421000 x421001 x421002 x421003 x428000 x428001 x428002 x428003))) else (some true))
def platbooklaw03_PrefixCommon.j1 : Nat → Bool → Bool → Int → Int → Int → Bool → Int → Int → Int → Bool → Int → Int → Int → Option (Bool)
 | 0, _, _, _, _, _, _, _, _, _, _, _, _, _ => none
 | k + 1, x45, x420000, x420001, x420002, x420003, x421000, x421001, x421002, x421003, x428000, x428001, x428002, x428003 => if x45 = true then (some false) else (if ((x428000 == x420000 && ((x428001 == x420001 && (x428002 == x420002)))) && (x428003 == x420003)) = true then (platbooklaw03_PrefixCommon.j2 k true x420000 x420001 x420002 x420003 x421000 x421001 x421002 x421003 x428000 x428001 x428002 x428003) else (platbooklaw03_PrefixCommon.j2 k ((x428000 == x421000 && ((x428001 == x421001 && (x428002 == x421002)))) && (x428003 == x421003)) x420000 x420001 x420002 x420003 x421000 x421001 x421002 x421003 x428000 x428001 x428002 x428003))
def platbooklaw03_PrefixCommon.j2 : Nat → Bool → Bool → Int → Int → Int → Bool → Int → Int → Int → Bool → Int → Int → Int → Option (Bool)
 | 0, _, _, _, _, _, _, _, _, _, _, _, _, _ => none
 | k + 1, x53, x420000, x420001, x420002, x420003, x421000, x421001, x421002, x421003, x428000, x428001, x428002, x428003 => if x53 = true then (some true) else ((prefix_Halves.f x428000 x428001 x428002 x428003).bind fun bt436 => (if bt436.2.2.2.2.2.2.2.2 = 0 then ((prefix_Within.f k x420000 x420001 x420002 x420003 bt436.1 bt436.2.1 bt436.2.2.1 bt436.2.2.2.1).bind fun t447 => (if t447 = true then ((prefix_Within.f k x421000 x421001 x421002 x421003 bt436.2.2.2.2.1 bt436.2.2.2.2.2.1 bt436.2.2.2.2.2.2.1 bt436.2.2.2.2.2.2.2.1).bind fun t448 => (if t448 = true then (some true) else ((prefix_Within.f k x421000 x421001 x421002 x421003 bt436.1 bt436.2.1 bt436.2.2.1 bt436.2.2.2.1).bind fun t449 => (if t449 = true then ((prefix_Within.f k x420000 x420001 x420002 x420003 bt436.2.2.2.2.1 bt436.2.2.2.2.2.1 bt436.2.2.2.2.2.2.1 bt436.2.2.2.2.2.2.2.1).bind fun t450 => (some t450)) else (some false))))) else ((prefix_Within.f k x421000 x421001 x421002 x421003 bt436.1 bt436.2.1 bt436.2.2.1 bt436.2.2.2.1).bind fun t451 => (if t451 = true then ((prefix_Within.f k x420000 x420001 x420002 x420003 bt436.2.2.2.2.1 bt436.2.2.2.2.2.1 bt436.2.2.2.2.2.2.1 bt436.2.2.2.2.2.2.2.1).bind fun t452 => (some t452)) else (some false))))) else (some false)))
end
def platbooklaw03_PrefixCommon.f (k : Nat) (a0_0 : Bool) (a0_1 : Int) (a0_2 : Int) (a0_3 : Int) (a1_0 : Bool) (a1_1 : Int) (a1_2 : Int) (a1_3 : Int) : Option (Bool) := (platbooklaw03_awake.f).bind fun t421 => (if t421 = true then ((prefix_Common.f k a0_0 a0_1 a0_2 a0_3 a1_0 a1_1 a1_2 a1_3).bind fun bt422 => ((platbookref03_Common.f k a0_0 a0_1 a0_2 a0_3 a1_0 a1_1 a1_2 a1_3).bind fun bt428 => (if ((!(bt422.1 == bt428.1) || ((!(bt422.2.1 == bt428.2.1) || (!(bt422.2.2.1 == bt428.2.2.1))))) || (!(bt422.2.2.2.1 == bt428.2.2.2.1))) = true then (platbooklaw03_PrefixCommon.j0 k bt422.2.2.2.2 true a0_0 a0_1 a0_2 a0_3 a1_0 a1_1 a1_2 a1_3 bt422.1 bt422.2.1 bt422.2.2.1 bt422.2.2.2.1) else (platbooklaw03_PrefixCommon.j0 k bt422.2.2.2.2 (bt422.2.2.2.2 != bt428.2.2.2.2) a0_0 a0_1 a0_2 a0_3 a1_0 a1_1 a1_2 a1_3 bt422.1 bt422.2.1 bt422.2.2.1 bt422.2.2.2.1)))) else (some false))
set_option maxHeartbeats 8000000 in
set_option maxRecDepth 100000 in
theorem platbooklaw03_PrefixCommon.calls (k : Nat) (a0_0 : Bool) (a0_1 : Int) (a0_2 : Int) (a0_3 : Int) (a1_0 : Bool) (a1_1 : Int) (a1_2 : Int) (a1_3 : Int) (r : Bool) (w : World) (hG : Glob w) (hrt : r = true) (h : platbooklaw03_PrefixCommon.f k a0_0 a0_1 a0_2 a0_3 a1_0 a1_1 a1_2 a1_3 = some r) :
  Calls Tryz.prog 5 #[.agg #[.bool a0_0, .int .u64 a0_1, .int .u64 a0_2, .int .i64 a0_3], .agg #[.bool a1_0, .int .u64 a1_1, .int .u64 a1_2, .int .i64 a1_3]] w fun e w' => e = .returned (.bool r) ∧ Below w.heap.size w w' := by
 have hu38 := Tryz.underlying38
 have HGLB := Aside0.mk hG
 clear hG
 have HRT := Aside0.mk hrt
 clear hrt
 have HB := Aside0.mk (Below.refl w.heap.size w)
 have H : ((platbooklaw03_awake.f).bind fun t421 => (if t421 = true then ((prefix_Common.f k a0_0 a0_1 a0_2 a0_3 a1_0 a1_1 a1_2 a1_3).bind fun bt422 => ((platbookref03_Common.f k a0_0 a0_1 a0_2 a0_3 a1_0 a1_1 a1_2 a1_3).bind fun bt428 => (if ((!(bt422.1 == bt428.1) || ((!(bt422.2.1 == bt428.2.1) || (!(bt422.2.2.1 == bt428.2.2.1))))) || (!(bt422.2.2.2.1 == bt428.2.2.2.1))) = true then (platbooklaw03_PrefixCommon.j0 k bt422.2.2.2.2 true a0_0 a0_1 a0_2 a0_3 a1_0 a1_1 a1_2 a1_3 bt422.1 bt422.2.1 bt422.2.2.1 bt422.2.2.2.1) else (platbooklaw03_PrefixCommon.j0 k bt422.2.2.2.2 (bt422.2.2.2.2 != bt428.2.2.2.2) a0_0 a0_1 a0_2 a0_3 a1_0 a1_1 a1_2 a1_3 bt422.1 bt422.2.1 bt422.2.2.1 bt422.2.2.2.1)))) else (some false))) = some r := h
 clear h
 replace H := Option.bind_eq_some_iff.mp H
 obtain ⟨t421, A30, H⟩ := H
 replace H : (if t421 = true then ((prefix_Common.f k a0_0 a0_1 a0_2 a0_3 a1_0 a1_1 a1_2 a1_3).bind fun bt422 => ((platbookref03_Common.f k a0_0 a0_1 a0_2 a0_3 a1_0 a1_1 a1_2 a1_3).bind fun bt428 => (if ((!(bt422.1 == bt428.1) || ((!(bt422.2.1 == bt428.2.1) || (!(bt422.2.2.1 == bt428.2.2.1))))) || (!(bt422.2.2.2.1 == bt428.2.2.2.1))) = true then (platbooklaw03_PrefixCommon.j0 k bt422.2.2.2.2 true a0_0 a0_1 a0_2 a0_3 a1_0 a1_1 a1_2 a1_3 bt422.1 bt422.2.1 bt422.2.2.1 bt422.2.2.2.1) else (platbooklaw03_PrefixCommon.j0 k bt422.2.2.2.2 (bt422.2.2.2.2 != bt428.2.2.2.2) a0_0 a0_1 a0_2 a0_3 a1_0 a1_1 a1_2 a1_3 bt422.1 bt422.2.1 bt422.2.2.1 bt422.2.2.2.1)))) else (some false)) = some r := H
 have A3 := Aside0.mk A30
 clear A30
 by_cases c4 : t421 = true
 ·
  subst c4
  rw [if_pos rfl] at H
  replace H := Option.bind_eq_some_iff.mp H
  obtain ⟨⟨t422, t423, t424, t425, t426⟩, A50, H⟩ := H
  replace H : ((platbookref03_Common.f k a0_0 a0_1 a0_2 a0_3 a1_0 a1_1 a1_2 a1_3).bind fun bt428 => (if ((!(t422 == bt428.1) || ((!(t423 == bt428.2.1) || (!(t424 == bt428.2.2.1))))) || (!(t425 == bt428.2.2.2.1))) = true then (platbooklaw03_PrefixCommon.j0 k t426 true a0_0 a0_1 a0_2 a0_3 a1_0 a1_1 a1_2 a1_3 t422 t423 t424 t425) else (platbooklaw03_PrefixCommon.j0 k t426 (t426 != bt428.2.2.2.2) a0_0 a0_1 a0_2 a0_3 a1_0 a1_1 a1_2 a1_3 t422 t423 t424 t425))) = some r := H
  have A5 := Aside0.mk A50
  clear A50
  replace H := Option.bind_eq_some_iff.mp H
  obtain ⟨⟨t428, t429, t430, t431, t432⟩, A60, H⟩ := H
  replace H : (if ((!(t422 == t428) || ((!(t423 == t429) || (!(t424 == t430))))) || (!(t425 == t431))) = true then (platbooklaw03_PrefixCommon.j0 k t426 true a0_0 a0_1 a0_2 a0_3 a1_0 a1_1 a1_2 a1_3 t422 t423 t424 t425) else (platbooklaw03_PrefixCommon.j0 k t426 (t426 != t432) a0_0 a0_1 a0_2 a0_3 a1_0 a1_1 a1_2 a1_3 t422 t423 t424 t425)) = some r := H
  have A6 := Aside0.mk A60
  clear A60
  have HC7 := Aside0.mk H
  clear H
  go_enter Tryz.func5, Tryz.ntmps5
  go_upto_region 5 with (first | ((with_reducible refine gate_dst (N := 2) rfl ?_); refine bx_ 2 #[.bool a0_0, .int .u64 a0_1, .int .u64 a0_2, .int .i64 a0_3] 38 ?_; intro gb419 hg w8 hbox hb; have BK419 := Aside0.mk (hbox); have GW419 := gw_ HB hg; have GE419 := gw_ HB hg; replace HB := bs_ HB hb; clear hb hbox hg) | ((with_reducible refine gate_dst (N := 3) rfl ?_); refine bx_ 3 #[.bool a1_0, .int .u64 a1_1, .int .u64 a1_2, .int .i64 a1_3] 38 ?_; intro gb420 hg w9 hbox hb; have BK420 := Aside0.mk (hbox); have GW420 := gw_ HB hg; have GE420 := gw_ HB hg; have NB419_420 := nl_ BK419 hg; have NB420_419 := ng_ BK419 hg; replace BK419 := bb_ BK419 hb; replace HB := bs_ HB hb; clear hb hbox hg) | ((with_reducible refine gate_callee (f := 24) rfl ?_); refine gl_ (some 12) Tryz.func24 #[] ?_; (with_reducible refine (platbooklaw03_awake.calls  true _ ?side1 rfl A3.out).mono ?_); (case side1 => exact glob_keep HGLB.out (pb_ HB)); rintro e w10 ⟨rfl, hb⟩; refine ⟨_, rfl, ?_⟩; replace BK419 := bb_ BK419 hb; replace BK420 := bb_ BK420 hb; replace HB := bs_ HB hb; (try clear hb); (try clear hb2); (try clear hk); (try clear hi); have hnb11 := NB419_420.out; have hnc11 := NB420_419.out; obtain ⟨hcz12_0, hcz12_1, hcz12_2, hcz12_3, hfz12_0, hfz12_1, hfz12_2, hfz12_3⟩ := c4_ BK419; obtain ⟨hcz13_0, hcz13_1, hcz13_2, hcz13_3, hfz13_0, hfz13_1, hfz13_2, hfz13_3⟩ := c4_ BK420) | ((with_reducible refine gate_callee (f := 30) rfl ?_); refine gl_ (some 17) Tryz.func30 #[.agg #[.bool a0_0, .int .u64 a0_1, .int .u64 a0_2, .int .i64 a0_3], .agg #[.bool a1_0, .int .u64 a1_1, .int .u64 a1_2, .int .i64 a1_3]] ?_; (with_reducible refine (prefix_Common.calls k a0_0 a0_1 a0_2 a0_3 a1_0 a1_1 a1_2 a1_3 t422 t423 t424 t425 t426 _ A5.out).mono ?_); rintro e w14 ⟨rfl, hb⟩; refine ⟨_, rfl, ?_⟩; replace BK419 := bb_ BK419 hb; replace BK420 := bb_ BK420 hb; replace HB := bs_ HB hb; (try clear hb); (try clear hb2); (try clear hk); (try clear hi)) | ((with_reducible refine gate_dst (N := 5) rfl ?_); refine bx_ 5 #[.bool false, .int .u64 0, .int .u64 0, .int .i64 0] 38 ?_; intro gb427 hg w15 hbox hb; have BK427 := Aside0.mk (hbox); have GW427 := gw_ HB hg; have GE427 := gw_ HB hg; have NB419_427 := nl_ BK419 hg; have NB427_419 := ng_ BK419 hg; have NB420_427 := nl_ BK420 hg; have NB427_420 := ng_ BK420 hg; replace BK419 := bb_ BK419 hb; replace BK420 := bb_ BK420 hb; replace HB := bs_ HB hb; clear hb hbox hg; have hnb16 := NB427_419.out; have hnc16 := NB419_427.out; have hnb17 := NB427_420.out; have hnc17 := NB420_427.out; obtain ⟨hcz18_0, hcz18_1, hcz18_2, hcz18_3, hfz18_0, hfz18_1, hfz18_2, hfz18_3⟩ := c4_ BK427; obtain ⟨hcz19_0, hcz19_1, hcz19_2, hcz19_3, hfz19_0, hfz19_1, hfz19_2, hfz19_3⟩ := c4_ BK419; obtain ⟨hcz20_0, hcz20_1, hcz20_2, hcz20_3, hfz20_0, hfz20_1, hfz20_2, hfz20_3⟩ := c4_ BK420) | ((with_reducible refine gate_callee (f := 31) rfl ?_); refine gl_ (some 23) Tryz.func31 #[.agg #[.bool a0_0, .int .u64 a0_1, .int .u64 a0_2, .int .i64 a0_3], .agg #[.bool a1_0, .int .u64 a1_1, .int .u64 a1_2, .int .i64 a1_3]] ?_; (with_reducible refine (platbookref03_Common.calls k a0_0 a0_1 a0_2 a0_3 a1_0 a1_1 a1_2 a1_3 t428 t429 t430 t431 t432 _ A6.out).mono ?_); rintro e w21 ⟨rfl, hb⟩; refine ⟨_, rfl, ?_⟩; replace BK419 := Aside0.mk (blk_below (g := gb419) (o := .cells #[.bool a0_0, .int .u64 a0_1, .int .u64 a0_2, .int .i64 a0_3] 38 (0, 0)) (by refine pw_ ?_; refine blk_far ?_ NB419_427.out _; refine pw_ ?_; refine blk_far ?_ NB419_427.out _; refine pw_ ?_; refine blk_far ?_ NB419_427.out _; refine pw_ ?_; refine blk_far ?_ NB419_427.out _; refine pw_ ?_; exact BK419.out) hb); replace BK420 := Aside0.mk (blk_below (g := gb420) (o := .cells #[.bool a1_0, .int .u64 a1_1, .int .u64 a1_2, .int .i64 a1_3] 38 (0, 0)) (by refine pw_ ?_; refine blk_far ?_ NB420_427.out _; refine pw_ ?_; refine blk_far ?_ NB420_427.out _; refine pw_ ?_; refine blk_far ?_ NB420_427.out _; refine pw_ ?_; refine blk_far ?_ NB420_427.out _; refine pw_ ?_; exact BK420.out) hb); replace BK427 := Aside0.mk (blk_below (g := gb427) (o := .cells #[.bool t422, .int .u64 t423, .int .u64 t424, .int .i64 t425] 38 (0, 0)) (by refine pw_ ?_; refine blk_put (cs := #[.bool t422, .int .u64 t423, .int .u64 t424, .int .i64 0]) ?_ 3 _ rfl; refine pw_ ?_; refine blk_put (cs := #[.bool t422, .int .u64 t423, .int .u64 0, .int .i64 0]) ?_ 2 _ rfl; refine pw_ ?_; refine blk_put (cs := #[.bool t422, .int .u64 0, .int .u64 0, .int .i64 0]) ?_ 1 _ rfl; refine pw_ ?_; refine blk_put (cs := #[.bool false, .int .u64 0, .int .u64 0, .int .i64 0]) ?_ 0 _ rfl; refine pw_ ?_; exact BK427.out) hb); replace HB := bs_ HB hb; (try clear hb); (try clear hb2); (try clear hk); (try clear hi)) | ((with_reducible refine gate_dst (N := 7) rfl ?_); refine bx_ 7 #[.bool false, .int .u64 0, .int .u64 0, .int .i64 0] 38 ?_; intro gb433 hg w22 hbox hb; have BK433 := Aside0.mk (hbox); have GW433 := gw_ HB hg; have GE433 := gw_ HB hg; have NB419_433 := nl_ BK419 hg; have NB433_419 := ng_ BK419 hg; have NB420_433 := nl_ BK420 hg; have NB433_420 := ng_ BK420 hg; have NB427_433 := nl_ BK427 hg; have NB433_427 := ng_ BK427 hg; replace BK419 := bb_ BK419 hb; replace BK420 := bb_ BK420 hb; replace BK427 := bb_ BK427 hb; replace HB := bs_ HB hb; clear hb hbox hg; have hnb23 := NB433_419.out; have hnc23 := NB419_433.out; have hnb24 := NB433_420.out; have hnc24 := NB420_433.out; have hnb25 := NB433_427.out; have hnc25 := NB427_433.out; obtain ⟨hcz26_0, hcz26_1, hcz26_2, hcz26_3, hfz26_0, hfz26_1, hfz26_2, hfz26_3⟩ := c4_ BK433))
  (try simp only [Act.put, List.setIfInBounds_toArray, List.set_cons_zero, List.set_cons_succ])
  go_cut [33] (fun v33 wc => ∃ (kq : Nat) (x33_6 : Bool), v33 = .bool x33_6 ∧ Aside0 (platbooklaw03_PrefixCommon.j0 kq t426 x33_6 a0_0 a0_1 a0_2 a0_3 a1_0 a1_1 a1_2 a1_3 t422 t423 t424 t425 = some r) ∧ Aside0 (kq ≤ k) ∧ Aside0 (wc.heap[gb419]? = some (.cells #[.bool a0_0, .int .u64 a0_1, .int .u64 a0_2, .int .i64 a0_3] 38 (0, 0))) ∧ Aside0 (wc.heap[gb420]? = some (.cells #[.bool a1_0, .int .u64 a1_1, .int .u64 a1_2, .int .i64 a1_3] 38 (0, 0))) ∧ Aside0 (wc.heap[gb427]? = some (.cells #[.bool t422, .int .u64 t423, .int .u64 t424, .int .i64 t425] 38 (0, 0))) ∧ Aside0 (wc.heap[gb433]? = some (.cells #[.bool t428, .int .u64 t429, .int .u64 t430, .int .i64 t431] 38 (0, 0))) ∧ Aside0 (Below w.heap.size w wc))
  case first =>
   have H := HC7.out
   clear HC7
   by_cases c27 : ((!(t422 == t428) || ((!(t423 == t429) || (!(t424 == t430))))) || (!(t425 == t431))) = true
   ·
    rw [if_pos c27] at H
    have c27b0 : ((!(t422 == t428) || ((!(t423 == t429) || (!(t424 == t430))))) || (!(t425 == t431))) = true := c27
    clear c27
    (first | rw [c27b0] | (simp only [i64_w, i32_w]; rw [c27b0]) | skip)
    have H' := Aside0.mk H
    clear H
    have hnb28 := NB427_419.out
    have hnc28 := NB419_427.out
    have hnb29 := NB427_420.out
    have hnc29 := NB420_427.out
    have hnb30 := NB427_433.out
    have hnc30 := NB433_427.out
    obtain ⟨hcz31_0, hcz31_1, hcz31_2, hcz31_3, hfz31_0, hfz31_1, hfz31_2, hfz31_3⟩ := c4_ BK427
    have hnb32 := NB433_419.out
    have hnc32 := NB419_433.out
    have hnb33 := NB433_420.out
    have hnc33 := NB420_433.out
    obtain ⟨hcz34_0, hcz34_1, hcz34_2, hcz34_3, hfz34_0, hfz34_1, hfz34_2, hfz34_3⟩ := c4_ BK433
    go_wp2
    go_meet
    case rel => exact ⟨_, (true), (by first | rfl | (simp; done) | (simp [*]; done)), H', ⟨by first | omega | exact Nat.le_refl _⟩, ⟨by refine pw_ ?_; refine blk_far ?_ NB419_433.out _; refine pw_ ?_; refine blk_far ?_ NB419_433.out _; refine pw_ ?_; refine blk_far ?_ NB419_433.out _; refine pw_ ?_; refine blk_far ?_ NB419_433.out _; refine pw_ ?_; exact BK419.out⟩, ⟨by refine pw_ ?_; refine blk_far ?_ NB420_433.out _; refine pw_ ?_; refine blk_far ?_ NB420_433.out _; refine pw_ ?_; refine blk_far ?_ NB420_433.out _; refine pw_ ?_; refine blk_far ?_ NB420_433.out _; refine pw_ ?_; exact BK420.out⟩, ⟨by refine pw_ ?_; refine blk_far ?_ NB427_433.out _; refine pw_ ?_; refine blk_far ?_ NB427_433.out _; refine pw_ ?_; refine blk_far ?_ NB427_433.out _; refine pw_ ?_; refine blk_far ?_ NB427_433.out _; refine pw_ ?_; exact BK427.out⟩, ⟨by refine pw_ ?_; refine blk_put (cs := #[.bool t428, .int .u64 t429, .int .u64 t430, .int .i64 0]) ?_ 3 _ rfl; refine pw_ ?_; refine blk_put (cs := #[.bool t428, .int .u64 t429, .int .u64 0, .int .i64 0]) ?_ 2 _ rfl; refine pw_ ?_; refine blk_put (cs := #[.bool t428, .int .u64 0, .int .u64 0, .int .i64 0]) ?_ 1 _ rfl; refine pw_ ?_; refine blk_put (cs := #[.bool false, .int .u64 0, .int .u64 0, .int .i64 0]) ?_ 0 _ rfl; refine pw_ ?_; exact BK433.out⟩, ⟨pb_ HB⟩⟩
   ·
    rw [if_neg c27] at H
    have c27b0 : ((!(t422 == t428) || ((!(t423 == t429) || (!(t424 == t430))))) || (!(t425 == t431))) = false := by simpa using c27
    clear c27
    (first | rw [c27b0] | (simp only [i64_w, i32_w]; rw [c27b0]) | skip)
    have H' := Aside0.mk H
    clear H
    have hnb35 := NB427_419.out
    have hnc35 := NB419_427.out
    have hnb36 := NB427_420.out
    have hnc36 := NB420_427.out
    have hnb37 := NB427_433.out
    have hnc37 := NB433_427.out
    obtain ⟨hcz38_0, hcz38_1, hcz38_2, hcz38_3, hfz38_0, hfz38_1, hfz38_2, hfz38_3⟩ := c4_ BK427
    have hnb39 := NB433_419.out
    have hnc39 := NB419_433.out
    have hnb40 := NB433_420.out
    have hnc40 := NB420_433.out
    obtain ⟨hcz41_0, hcz41_1, hcz41_2, hcz41_3, hfz41_0, hfz41_1, hfz41_2, hfz41_3⟩ := c4_ BK433
    go_wp2
    go_meet
    case rel => exact ⟨_, ((t426 != t432)), (by first | rfl | (simp; done) | (simp [*]; done)), H', ⟨by first | omega | exact Nat.le_refl _⟩, ⟨by refine pw_ ?_; refine blk_far ?_ NB419_433.out _; refine pw_ ?_; refine blk_far ?_ NB419_433.out _; refine pw_ ?_; refine blk_far ?_ NB419_433.out _; refine pw_ ?_; refine blk_far ?_ NB419_433.out _; refine pw_ ?_; exact BK419.out⟩, ⟨by refine pw_ ?_; refine blk_far ?_ NB420_433.out _; refine pw_ ?_; refine blk_far ?_ NB420_433.out _; refine pw_ ?_; refine blk_far ?_ NB420_433.out _; refine pw_ ?_; refine blk_far ?_ NB420_433.out _; refine pw_ ?_; exact BK420.out⟩, ⟨by refine pw_ ?_; refine blk_far ?_ NB427_433.out _; refine pw_ ?_; refine blk_far ?_ NB427_433.out _; refine pw_ ?_; refine blk_far ?_ NB427_433.out _; refine pw_ ?_; refine blk_far ?_ NB427_433.out _; refine pw_ ?_; exact BK427.out⟩, ⟨by refine pw_ ?_; refine blk_put (cs := #[.bool t428, .int .u64 t429, .int .u64 t430, .int .i64 0]) ?_ 3 _ rfl; refine pw_ ?_; refine blk_put (cs := #[.bool t428, .int .u64 t429, .int .u64 0, .int .i64 0]) ?_ 2 _ rfl; refine pw_ ?_; refine blk_put (cs := #[.bool t428, .int .u64 0, .int .u64 0, .int .i64 0]) ?_ 1 _ rfl; refine pw_ ?_; refine blk_put (cs := #[.bool false, .int .u64 0, .int .u64 0, .int .i64 0]) ?_ 0 _ rfl; refine pw_ ?_; exact BK433.out⟩, ⟨pb_ HB⟩⟩
  case rest =>
   clear HC7
   try clear c1
   try clear c2
   try clear p2
   try clear c3
   try clear c4
   try clear c5
   try clear c11
   try clear c16
   try clear c17
   try clear c23
   try clear c24
   try clear c25
   try clear c27
   try clear c27b0
   try clear c28
   try clear c29
   try clear c30
   try clear c31
   try clear c32
   try clear c33
   try clear c35
   try clear c36
   try clear c37
   try clear c39
   try clear c40
   try clear hcz12_0
   try clear hcz12_1
   try clear hcz12_2
   try clear hcz12_3
   try clear hcz13_0
   try clear hcz13_1
   try clear hcz13_2
   try clear hcz13_3
   try clear hcz18_0
   try clear hcz18_1
   try clear hcz18_2
   try clear hcz18_3
   try clear hcz19_0
   try clear hcz19_1
   try clear hcz19_2
   try clear hcz19_3
   try clear hcz20_0
   try clear hcz20_1
   try clear hcz20_2
   try clear hcz20_3
   try clear hcz26_0
   try clear hcz26_1
   try clear hcz26_2
   try clear hcz26_3
   try clear hcz31_0
   try clear hcz31_1
   try clear hcz31_2
   try clear hcz31_3
   try clear hcz34_0
   try clear hcz34_1
   try clear hcz34_2
   try clear hcz34_3
   try clear hcz38_0
   try clear hcz38_1
   try clear hcz38_2
   try clear hcz38_3
   try clear hcz41_0
   try clear hcz41_1
   try clear hcz41_2
   try clear hcz41_3
   try clear hfz12_0
   try clear hfz12_1
   try clear hfz12_2
   try clear hfz12_3
   try clear hfz13_0
   try clear hfz13_1
   try clear hfz13_2
   try clear hfz13_3
   try clear hfz18_0
   try clear hfz18_1
   try clear hfz18_2
   try clear hfz18_3
   try clear hfz19_0
   try clear hfz19_1
   try clear hfz19_2
   try clear hfz19_3
   try clear hfz20_0
   try clear hfz20_1
   try clear hfz20_2
   try clear hfz20_3
   try clear hfz26_0
   try clear hfz26_1
   try clear hfz26_2
   try clear hfz26_3
   try clear hfz31_0
   try clear hfz31_1
   try clear hfz31_2
   try clear hfz31_3
   try clear hfz34_0
   try clear hfz34_1
   try clear hfz34_2
   try clear hfz34_3
   try clear hfz38_0
   try clear hfz38_1
   try clear hfz38_2
   try clear hfz38_3
   try clear hfz41_0
   try clear hfz41_1
   try clear hfz41_2
   try clear hfz41_3
   obtain ⟨kq, x33_6, rfl, HA, HJ6, BK419, BK420, BK427, BK433, HB⟩ := hcut
   cases kq with
   | zero => exact absurd HA.out (by simp [platbooklaw03_PrefixCommon.j0])
   | succ kj6 =>
    have H := HA.out
    clear HA
    simp only [platbooklaw03_PrefixCommon.j0] at H
    by_cases c42 : x33_6 = true
    ·
     subst c42
     rw [if_pos rfl] at H
     obtain rfl := Option.some.inj H
     exact absurd HRT.out (by decide)
    ·
     replace c42 := Bool.eq_false_iff.mpr c42
     subst c42
     have H1 : (if t426 = 0 then ((prefix_Within.f kj6 a0_0 a0_1 a0_2 a0_3 t422 t423 t424 t425).bind fun t434 => (if t434 = true then ((prefix_Within.f kj6 a1_0 a1_1 a1_2 a1_3 t422 t423 t424 t425).bind fun t435 => (platbooklaw03_PrefixCommon.j1 kj6 (!t435) a0_0 a0_1 a0_2 a0_3 a1_0 a1_1 a1_2 a1_3 t422 t423 t424 t425)) else (platbooklaw03_PrefixCommon.j1 kj6 true a0_0 a0_1 a0_2 a0_3 a1_0 a1_1 a1_2 a1_3 t422 t423 t424 t425))) else (some true)) = some r := by rw [if_neg (show ¬ (false = true) by decide)] at H; exact H
     clear H
     have H := H1
     clear H1
     by_cases c43 : t426 = 0
     ·
      rw [if_pos c43] at H
      have c43b0 : (t426 == 0) = true := beq_iff_eq.mpr c43
      have c43b1 : (t426 != 0) = false := bne_eq_false_iff_eq.mpr c43
      clear c43
      have HC44 := Aside0.mk H
      clear H
      go_upto_region 9 with (fail)
      go_cut [45] (fun v45 wc => ∃ (kq : Nat) (x45_43 : Bool), v45 = .bool x45_43 ∧ Aside0 (platbooklaw03_PrefixCommon.j1 kq x45_43 a0_0 a0_1 a0_2 a0_3 a1_0 a1_1 a1_2 a1_3 t422 t423 t424 t425 = some r) ∧ Aside0 (kq ≤ kj6) ∧ Aside0 (wc.heap[gb419]? = some (.cells #[.bool a0_0, .int .u64 a0_1, .int .u64 a0_2, .int .i64 a0_3] 38 (0, 0))) ∧ Aside0 (wc.heap[gb420]? = some (.cells #[.bool a1_0, .int .u64 a1_1, .int .u64 a1_2, .int .i64 a1_3] 38 (0, 0))) ∧ Aside0 (wc.heap[gb427]? = some (.cells #[.bool t422, .int .u64 t423, .int .u64 t424, .int .i64 t425] 38 (0, 0))) ∧ Aside0 (wc.heap[gb433]? = some (.cells #[.bool t428, .int .u64 t429, .int .u64 t430, .int .i64 t431] 38 (0, 0))) ∧ Aside0 (Below w.heap.size w wc))
      case first =>
       have H := HC44.out
       clear HC44
       replace H := Option.bind_eq_some_iff.mp H
       obtain ⟨t434, A450, H⟩ := H
       replace H : (if t434 = true then ((prefix_Within.f kj6 a1_0 a1_1 a1_2 a1_3 t422 t423 t424 t425).bind fun t435 => (platbooklaw03_PrefixCommon.j1 kj6 (!t435) a0_0 a0_1 a0_2 a0_3 a1_0 a1_1 a1_2 a1_3 t422 t423 t424 t425)) else (platbooklaw03_PrefixCommon.j1 kj6 true a0_0 a0_1 a0_2 a0_3 a1_0 a1_1 a1_2 a1_3 t422 t423 t424 t425)) = some r := H
       have A45 := Aside0.mk A450
       clear A450
       by_cases c46 : t434 = true
       ·
        subst c46
        rw [if_pos rfl] at H
        replace H := Option.bind_eq_some_iff.mp H
        obtain ⟨t435, A470, H⟩ := H
        replace H : (platbooklaw03_PrefixCommon.j1 kj6 (!t435) a0_0 a0_1 a0_2 a0_3 a1_0 a1_1 a1_2 a1_3 t422 t423 t424 t425) = some r := H
        have A47 := Aside0.mk A470
        clear A470
        have H' := Aside0.mk H
        clear H
        have hnb48 := NB419_420.out
        have hnc48 := NB420_419.out
        have hnb49 := NB419_427.out
        have hnc49 := NB427_419.out
        have hnb50 := NB419_433.out
        have hnc50 := NB433_419.out
        obtain ⟨hcz51_0, hcz51_1, hcz51_2, hcz51_3, hfz51_0, hfz51_1, hfz51_2, hfz51_3⟩ := c4_ BK419
        have hnb52 := NB427_420.out
        have hnc52 := NB420_427.out
        have hnb53 := NB427_433.out
        have hnc53 := NB433_427.out
        obtain ⟨hcz54_0, hcz54_1, hcz54_2, hcz54_3, hfz54_0, hfz54_1, hfz54_2, hfz54_3⟩ := c4_ BK427
        go_wp2_with (first | ((with_reducible refine gate_callee (f := 32) rfl ?_); refine gl_ (some 38) Tryz.func32 #[.agg #[.bool a0_0, .int .u64 a0_1, .int .u64 a0_2, .int .i64 a0_3], .agg #[.bool t422, .int .u64 t423, .int .u64 t424, .int .i64 t425]] ?_; (with_reducible refine (prefix_Within.calls kj6 a0_0 a0_1 a0_2 a0_3 t422 t423 t424 t425 true _ A45.out).mono ?_); rintro e w55 ⟨rfl, hb⟩; refine ⟨_, rfl, ?_⟩; replace BK419 := bb_ BK419 hb; replace BK420 := bb_ BK420 hb; replace BK427 := bb_ BK427 hb; replace BK433 := bb_ BK433 hb; replace HB := bs_ HB hb; (try clear hb); (try clear hb2); (try clear hk); (try clear hi); have hnb56 := NB420_433.out; have hnc56 := NB433_420.out; obtain ⟨hcz57_0, hcz57_1, hcz57_2, hcz57_3, hfz57_0, hfz57_1, hfz57_2, hfz57_3⟩ := c4_ BK420; obtain ⟨hcz58_0, hcz58_1, hcz58_2, hcz58_3, hfz58_0, hfz58_1, hfz58_2, hfz58_3⟩ := c4_ BK427) | (go_at_call 32; (with_reducible refine (prefix_Within.calls kj6 a1_0 a1_1 a1_2 a1_3 t422 t423 t424 t425 t435 _ A47.out).mono ?_); rintro e w59 ⟨rfl, hb⟩; replace BK419 := bb_ BK419 hb; replace BK420 := bb_ BK420 hb; replace BK427 := bb_ BK427 hb; replace BK433 := bb_ BK433 hb; replace HB := bs_ HB hb; (try clear hb); (try clear hb2); (try clear hk); (try clear hi)))
        go_meet
        case rel => exact ⟨_, (!t435), (by first | rfl | (simp; done) | (simp [*]; done)), H', ⟨by have := HJ6.out; first | omega | exact Nat.le_refl _⟩, ⟨by refine pw_ ?_; exact BK419.out⟩, ⟨by refine pw_ ?_; exact BK420.out⟩, ⟨by refine pw_ ?_; exact BK427.out⟩, ⟨by refine pw_ ?_; exact BK433.out⟩, ⟨pb_ HB⟩⟩
       ·
        replace c46 := Bool.eq_false_iff.mpr c46
        subst c46
        have H1 : (platbooklaw03_PrefixCommon.j1 kj6 true a0_0 a0_1 a0_2 a0_3 a1_0 a1_1 a1_2 a1_3 t422 t423 t424 t425) = some r := by rw [if_neg (show ¬ (false = true) by decide)] at H; exact H
        clear H
        have H := H1
        clear H1
        have H' := Aside0.mk H
        clear H
        have hnb60 := NB419_420.out
        have hnc60 := NB420_419.out
        have hnb61 := NB419_427.out
        have hnc61 := NB427_419.out
        have hnb62 := NB419_433.out
        have hnc62 := NB433_419.out
        obtain ⟨hcz63_0, hcz63_1, hcz63_2, hcz63_3, hfz63_0, hfz63_1, hfz63_2, hfz63_3⟩ := c4_ BK419
        have hnb64 := NB427_420.out
        have hnc64 := NB420_427.out
        have hnb65 := NB427_433.out
        have hnc65 := NB433_427.out
        obtain ⟨hcz66_0, hcz66_1, hcz66_2, hcz66_3, hfz66_0, hfz66_1, hfz66_2, hfz66_3⟩ := c4_ BK427
        go_wp2_with (first | ((with_reducible refine gate_callee (f := 32) rfl ?_); refine gl_ (some 38) Tryz.func32 #[.agg #[.bool a0_0, .int .u64 a0_1, .int .u64 a0_2, .int .i64 a0_3], .agg #[.bool t422, .int .u64 t423, .int .u64 t424, .int .i64 t425]] ?_; (with_reducible refine (prefix_Within.calls kj6 a0_0 a0_1 a0_2 a0_3 t422 t423 t424 t425 false _ A45.out).mono ?_); rintro e w67 ⟨rfl, hb⟩; refine ⟨_, rfl, ?_⟩; replace BK419 := bb_ BK419 hb; replace BK420 := bb_ BK420 hb; replace BK427 := bb_ BK427 hb; replace BK433 := bb_ BK433 hb; replace HB := bs_ HB hb; (try clear hb); (try clear hb2); (try clear hk); (try clear hi)))
        go_meet
        case rel => exact ⟨_, (true), (by first | rfl | (simp; done) | (simp [*]; done)), H', ⟨by have := HJ6.out; first | omega | exact Nat.le_refl _⟩, ⟨by refine pw_ ?_; exact BK419.out⟩, ⟨by refine pw_ ?_; exact BK420.out⟩, ⟨by refine pw_ ?_; exact BK427.out⟩, ⟨by refine pw_ ?_; exact BK433.out⟩, ⟨pb_ HB⟩⟩
      case rest =>
       clear HC44
       try clear c1
       try clear c2
       try clear p2
       try clear c3
       try clear c4
       try clear c5
       try clear c6
       try clear c11
       try clear c16
       try clear c17
       try clear c23
       try clear c24
       try clear c25
       try clear c27
       try clear c27b0
       try clear c28
       try clear c29
       try clear c30
       try clear c31
       try clear c32
       try clear c33
       try clear c35
       try clear c36
       try clear c37
       try clear c39
       try clear c40
       try clear c42
       try clear c43
       try clear c43b0
       try clear c43b1
       try clear c46
       try clear c48
       try clear c49
       try clear c50
       try clear c52
       try clear c53
       try clear c56
       try clear c60
       try clear c61
       try clear c62
       try clear c64
       try clear c65
       try clear hcz12_0
       try clear hcz12_1
       try clear hcz12_2
       try clear hcz12_3
       try clear hcz13_0
       try clear hcz13_1
       try clear hcz13_2
       try clear hcz13_3
       try clear hcz18_0
       try clear hcz18_1
       try clear hcz18_2
       try clear hcz18_3
       try clear hcz19_0
       try clear hcz19_1
       try clear hcz19_2
       try clear hcz19_3
       try clear hcz20_0
       try clear hcz20_1
       try clear hcz20_2
       try clear hcz20_3
       try clear hcz26_0
       try clear hcz26_1
       try clear hcz26_2
       try clear hcz26_3
       try clear hcz31_0
       try clear hcz31_1
       try clear hcz31_2
       try clear hcz31_3
       try clear hcz34_0
       try clear hcz34_1
       try clear hcz34_2
       try clear hcz34_3
       try clear hcz38_0
       try clear hcz38_1
       try clear hcz38_2
       try clear hcz38_3
       try clear hcz41_0
       try clear hcz41_1
       try clear hcz41_2
       try clear hcz41_3
       try clear hcz51_0
       try clear hcz51_1
       try clear hcz51_2
       try clear hcz51_3
       try clear hcz54_0
       try clear hcz54_1
       try clear hcz54_2
       try clear hcz54_3
       try clear hcz57_0
       try clear hcz57_1
       try clear hcz57_2
       try clear hcz57_3
       try clear hcz58_0
       try clear hcz58_1
       try clear hcz58_2
       try clear hcz58_3
       try clear hcz63_0
       try clear hcz63_1
       try clear hcz63_2
       try clear hcz63_3
       try clear hcz66_0
       try clear hcz66_1
       try clear hcz66_2
       try clear hcz66_3
       try clear hfz12_0
       try clear hfz12_1
       try clear hfz12_2
       try clear hfz12_3
       try clear hfz13_0
       try clear hfz13_1
       try clear hfz13_2
       try clear hfz13_3
       try clear hfz18_0
       try clear hfz18_1
       try clear hfz18_2
       try clear hfz18_3
       try clear hfz19_0
       try clear hfz19_1
       try clear hfz19_2
       try clear hfz19_3
       try clear hfz20_0
       try clear hfz20_1
       try clear hfz20_2
       try clear hfz20_3
       try clear hfz26_0
       try clear hfz26_1
       try clear hfz26_2
       try clear hfz26_3
       try clear hfz31_0
       try clear hfz31_1
       try clear hfz31_2
       try clear hfz31_3
       try clear hfz34_0
       try clear hfz34_1
       try clear hfz34_2
       try clear hfz34_3
       try clear hfz38_0
       try clear hfz38_1
       try clear hfz38_2
       try clear hfz38_3
       try clear hfz41_0
       try clear hfz41_1
       try clear hfz41_2
       try clear hfz41_3
       try clear hfz51_0
       try clear hfz51_1
       try clear hfz51_2
       try clear hfz51_3
       try clear hfz54_0
       try clear hfz54_1
       try clear hfz54_2
       try clear hfz54_3
       try clear hfz57_0
       try clear hfz57_1
       try clear hfz57_2
       try clear hfz57_3
       try clear hfz58_0
       try clear hfz58_1
       try clear hfz58_2
       try clear hfz58_3
       try clear hfz63_0
       try clear hfz63_1
       try clear hfz63_2
       try clear hfz63_3
       try clear hfz66_0
       try clear hfz66_1
       try clear hfz66_2
       try clear hfz66_3
       try clear p2
       obtain ⟨kq, x45_43, rfl, HA, HJ43, BK419, BK420, BK427, BK433, HB⟩ := hcut
       cases kq with
       | zero => exact absurd HA.out (by simp [platbooklaw03_PrefixCommon.j1])
       | succ kj43 =>
        have H := HA.out
        clear HA
        simp only [platbooklaw03_PrefixCommon.j1] at H
        by_cases c68 : x45_43 = true
        ·
         subst c68
         rw [if_pos rfl] at H
         obtain rfl := Option.some.inj H
         exact absurd HRT.out (by decide)
        ·
         replace c68 := Bool.eq_false_iff.mpr c68
         subst c68
         have H1 : (if ((t422 == a0_0 && ((t423 == a0_1 && (t424 == a0_2)))) && (t425 == a0_3)) = true then (platbooklaw03_PrefixCommon.j2 kj43 true a0_0 a0_1 a0_2 a0_3 a1_0 a1_1 a1_2 a1_3 t422 t423 t424 t425) else (platbooklaw03_PrefixCommon.j2 kj43 ((t422 == a1_0 && ((t423 == a1_1 && (t424 == a1_2)))) && (t425 == a1_3)) a0_0 a0_1 a0_2 a0_3 a1_0 a1_1 a1_2 a1_3 t422 t423 t424 t425)) = some r := by rw [if_neg (show ¬ (false = true) by decide)] at H; exact H
         clear H
         have H := H1
         clear H1
         have HC69 := Aside0.mk H
         clear H
         go_upto_region 11 with (fail)
         go_cut [53] (fun v53 wc => ∃ (kq : Nat) (x53_68 : Bool), v53 = .bool x53_68 ∧ Aside0 (platbooklaw03_PrefixCommon.j2 kq x53_68 a0_0 a0_1 a0_2 a0_3 a1_0 a1_1 a1_2 a1_3 t422 t423 t424 t425 = some r) ∧ Aside0 (kq ≤ kj43) ∧ Aside0 (wc.heap[gb419]? = some (.cells #[.bool a0_0, .int .u64 a0_1, .int .u64 a0_2, .int .i64 a0_3] 38 (0, 0))) ∧ Aside0 (wc.heap[gb420]? = some (.cells #[.bool a1_0, .int .u64 a1_1, .int .u64 a1_2, .int .i64 a1_3] 38 (0, 0))) ∧ Aside0 (wc.heap[gb427]? = some (.cells #[.bool t422, .int .u64 t423, .int .u64 t424, .int .i64 t425] 38 (0, 0))) ∧ Aside0 (wc.heap[gb433]? = some (.cells #[.bool t428, .int .u64 t429, .int .u64 t430, .int .i64 t431] 38 (0, 0))) ∧ Aside0 (Below w.heap.size w wc))
         case first =>
          have H := HC69.out
          clear HC69
          by_cases c70 : ((t422 == a0_0 && ((t423 == a0_1 && (t424 == a0_2)))) && (t425 == a0_3)) = true
          ·
           rw [if_pos c70] at H
           have c70b0 : ((t422 == a0_0 && ((t423 == a0_1 && (t424 == a0_2)))) && (t425 == a0_3)) = true := c70
           clear c70
           (first | rw [c70b0] | (simp only [i64_w, i32_w]; rw [c70b0]) | skip)
           have H' := Aside0.mk H
           clear H
           have hnb71 := NB427_419.out
           have hnc71 := NB419_427.out
           have hnb72 := NB427_420.out
           have hnc72 := NB420_427.out
           have hnb73 := NB427_433.out
           have hnc73 := NB433_427.out
           obtain ⟨hcz74_0, hcz74_1, hcz74_2, hcz74_3, hfz74_0, hfz74_1, hfz74_2, hfz74_3⟩ := c4_ BK427
           have hnb75 := NB419_420.out
           have hnc75 := NB420_419.out
           have hnb76 := NB419_433.out
           have hnc76 := NB433_419.out
           obtain ⟨hcz77_0, hcz77_1, hcz77_2, hcz77_3, hfz77_0, hfz77_1, hfz77_2, hfz77_3⟩ := c4_ BK419
           go_wp2
           go_meet
           case rel => exact ⟨_, (true), (by first | rfl | (simp; done) | (simp [*]; done)), H', ⟨by have := HJ6.out; have := HJ43.out; first | omega | exact Nat.le_refl _⟩, ⟨by refine pw_ ?_; exact BK419.out⟩, ⟨by refine pw_ ?_; exact BK420.out⟩, ⟨by refine pw_ ?_; exact BK427.out⟩, ⟨by refine pw_ ?_; exact BK433.out⟩, ⟨pb_ HB⟩⟩
          ·
           rw [if_neg c70] at H
           have c70b0 : ((t422 == a0_0 && ((t423 == a0_1 && (t424 == a0_2)))) && (t425 == a0_3)) = false := by simpa using c70
           clear c70
           (first | rw [c70b0] | (simp only [i64_w, i32_w]; rw [c70b0]) | skip)
           have H' := Aside0.mk H
           clear H
           have hnb78 := NB427_419.out
           have hnc78 := NB419_427.out
           have hnb79 := NB427_420.out
           have hnc79 := NB420_427.out
           have hnb80 := NB427_433.out
           have hnc80 := NB433_427.out
           obtain ⟨hcz81_0, hcz81_1, hcz81_2, hcz81_3, hfz81_0, hfz81_1, hfz81_2, hfz81_3⟩ := c4_ BK427
           have hnb82 := NB419_420.out
           have hnc82 := NB420_419.out
           have hnb83 := NB419_433.out
           have hnc83 := NB433_419.out
           obtain ⟨hcz84_0, hcz84_1, hcz84_2, hcz84_3, hfz84_0, hfz84_1, hfz84_2, hfz84_3⟩ := c4_ BK419
           have hnb85 := NB420_433.out
           have hnc85 := NB433_420.out
           obtain ⟨hcz86_0, hcz86_1, hcz86_2, hcz86_3, hfz86_0, hfz86_1, hfz86_2, hfz86_3⟩ := c4_ BK420
           go_wp2
           go_meet
           case rel => exact ⟨_, (((t422 == a1_0 && ((t423 == a1_1 && (t424 == a1_2)))) && (t425 == a1_3))), (by first | rfl | (simp; done) | (simp [*]; done)), H', ⟨by have := HJ6.out; have := HJ43.out; first | omega | exact Nat.le_refl _⟩, ⟨by refine pw_ ?_; exact BK419.out⟩, ⟨by refine pw_ ?_; exact BK420.out⟩, ⟨by refine pw_ ?_; exact BK427.out⟩, ⟨by refine pw_ ?_; exact BK433.out⟩, ⟨pb_ HB⟩⟩
         case rest =>
          clear HC69
          try clear c1
          try clear c2
          try clear p2
          try clear c3
          try clear c4
          try clear c5
          try clear c6
          try clear c7
          try clear c8
          try clear c11
          try clear c16
          try clear c17
          try clear c23
          try clear c24
          try clear c25
          try clear c27
          try clear c27b0
          try clear c28
          try clear c29
          try clear c30
          try clear c31
          try clear c32
          try clear c33
          try clear c35
          try clear c36
          try clear c37
          try clear c39
          try clear c40
          try clear c42
          try clear c43
          try clear c43b0
          try clear c43b1
          try clear c46
          try clear c48
          try clear c49
          try clear c50
          try clear c52
          try clear c53
          try clear c56
          try clear c60
          try clear c61
          try clear c62
          try clear c64
          try clear c65
          try clear c68
          try clear c70
          try clear c70b0
          try clear c71
          try clear c72
          try clear c73
          try clear c75
          try clear c76
          try clear c78
          try clear c79
          try clear c80
          try clear c82
          try clear c83
          try clear c85
          try clear hcz12_0
          try clear hcz12_1
          try clear hcz12_2
          try clear hcz12_3
          try clear hcz13_0
          try clear hcz13_1
          try clear hcz13_2
          try clear hcz13_3
          try clear hcz18_0
          try clear hcz18_1
          try clear hcz18_2
          try clear hcz18_3
          try clear hcz19_0
          try clear hcz19_1
          try clear hcz19_2
          try clear hcz19_3
          try clear hcz20_0
          try clear hcz20_1
          try clear hcz20_2
          try clear hcz20_3
          try clear hcz26_0
          try clear hcz26_1
          try clear hcz26_2
          try clear hcz26_3
          try clear hcz31_0
          try clear hcz31_1
          try clear hcz31_2
          try clear hcz31_3
          try clear hcz34_0
          try clear hcz34_1
          try clear hcz34_2
          try clear hcz34_3
          try clear hcz38_0
          try clear hcz38_1
          try clear hcz38_2
          try clear hcz38_3
          try clear hcz41_0
          try clear hcz41_1
          try clear hcz41_2
          try clear hcz41_3
          try clear hcz51_0
          try clear hcz51_1
          try clear hcz51_2
          try clear hcz51_3
          try clear hcz54_0
          try clear hcz54_1
          try clear hcz54_2
          try clear hcz54_3
          try clear hcz57_0
          try clear hcz57_1
          try clear hcz57_2
          try clear hcz57_3
          try clear hcz58_0
          try clear hcz58_1
          try clear hcz58_2
          try clear hcz58_3
          try clear hcz63_0
          try clear hcz63_1
          try clear hcz63_2
          try clear hcz63_3
          try clear hcz66_0
          try clear hcz66_1
          try clear hcz66_2
          try clear hcz66_3
          try clear hcz74_0
          try clear hcz74_1
          try clear hcz74_2
          try clear hcz74_3
          try clear hcz77_0
          try clear hcz77_1
          try clear hcz77_2
          try clear hcz77_3
          try clear hcz81_0
          try clear hcz81_1
          try clear hcz81_2
          try clear hcz81_3
          try clear hcz84_0
          try clear hcz84_1
          try clear hcz84_2
          try clear hcz84_3
          try clear hcz86_0
          try clear hcz86_1
          try clear hcz86_2
          try clear hcz86_3
          try clear hfz12_0
          try clear hfz12_1
          try clear hfz12_2
          try clear hfz12_3
          try clear hfz13_0
          try clear hfz13_1
          try clear hfz13_2
          try clear hfz13_3
          try clear hfz18_0
          try clear hfz18_1
          try clear hfz18_2
          try clear hfz18_3
          try clear hfz19_0
          try clear hfz19_1
          try clear hfz19_2
          try clear hfz19_3
          try clear hfz20_0
          try clear hfz20_1
          try clear hfz20_2
          try clear hfz20_3
          try clear hfz26_0
          try clear hfz26_1
          try clear hfz26_2
          try clear hfz26_3
          try clear hfz31_0
          try clear hfz31_1
          try clear hfz31_2
          try clear hfz31_3
          try clear hfz34_0
          try clear hfz34_1
          try clear hfz34_2
          try clear hfz34_3
          try clear hfz38_0
          try clear hfz38_1
          try clear hfz38_2
          try clear hfz38_3
          try clear hfz41_0
          try clear hfz41_1
          try clear hfz41_2
          try clear hfz41_3
          try clear hfz51_0
          try clear hfz51_1
          try clear hfz51_2
          try clear hfz51_3
          try clear hfz54_0
          try clear hfz54_1
          try clear hfz54_2
          try clear hfz54_3
          try clear hfz57_0
          try clear hfz57_1
          try clear hfz57_2
          try clear hfz57_3
          try clear hfz58_0
          try clear hfz58_1
          try clear hfz58_2
          try clear hfz58_3
          try clear hfz63_0
          try clear hfz63_1
          try clear hfz63_2
          try clear hfz63_3
          try clear hfz66_0
          try clear hfz66_1
          try clear hfz66_2
          try clear hfz66_3
          try clear hfz74_0
          try clear hfz74_1
          try clear hfz74_2
          try clear hfz74_3
          try clear hfz77_0
          try clear hfz77_1
          try clear hfz77_2
          try clear hfz77_3
          try clear hfz81_0
          try clear hfz81_1
          try clear hfz81_2
          try clear hfz81_3
          try clear hfz84_0
          try clear hfz84_1
          try clear hfz84_2
          try clear hfz84_3
          try clear hfz86_0
          try clear hfz86_1
          try clear hfz86_2
          try clear hfz86_3
          try clear p2
          obtain ⟨kq, x53_68, rfl, HA, HJ68, BK419, BK420, BK427, BK433, HB⟩ := hcut
          cases kq with
          | zero => exact absurd HA.out (by simp [platbooklaw03_PrefixCommon.j2])
          | succ kj68 =>
           have H := HA.out
           clear HA
           simp only [platbooklaw03_PrefixCommon.j2] at H
           by_cases c87 : x53_68 = true
           ·
            subst c87
            rw [if_pos rfl] at H
            obtain rfl := Option.some.inj H
            go_wp2
            go_ret
            exact ⟨by first | rfl | (simp [errW_none, errW_some] <;> rfl) | (simp [*, errW_none, errW_some] <;> rfl), pb_ HB⟩
           ·
            replace c87 := Bool.eq_false_iff.mpr c87
            subst c87
            have H1 : ((prefix_Halves.f t422 t423 t424 t425).bind fun bt436 => (if bt436.2.2.2.2.2.2.2.2 = 0 then ((prefix_Within.f kj68 a0_0 a0_1 a0_2 a0_3 bt436.1 bt436.2.1 bt436.2.2.1 bt436.2.2.2.1).bind fun t447 => (if t447 = true then ((prefix_Within.f kj68 a1_0 a1_1 a1_2 a1_3 bt436.2.2.2.2.1 bt436.2.2.2.2.2.1 bt436.2.2.2.2.2.2.1 bt436.2.2.2.2.2.2.2.1).bind fun t448 => (if t448 = true then (some true) else ((prefix_Within.f kj68 a1_0 a1_1 a1_2 a1_3 bt436.1 bt436.2.1 bt436.2.2.1 bt436.2.2.2.1).bind fun t449 => (if t449 = true then ((prefix_Within.f kj68 a0_0 a0_1 a0_2 a0_3 bt436.2.2.2.2.1 bt436.2.2.2.2.2.1 bt436.2.2.2.2.2.2.1 bt436.2.2.2.2.2.2.2.1).bind fun t450 => (some t450)) else (some false))))) else ((prefix_Within.f kj68 a1_0 a1_1 a1_2 a1_3 bt436.1 bt436.2.1 bt436.2.2.1 bt436.2.2.2.1).bind fun t451 => (if t451 = true then ((prefix_Within.f kj68 a0_0 a0_1 a0_2 a0_3 bt436.2.2.2.2.1 bt436.2.2.2.2.2.1 bt436.2.2.2.2.2.2.1 bt436.2.2.2.2.2.2.2.1).bind fun t452 => (some t452)) else (some false))))) else (some false))) = some r := by rw [if_neg (show ¬ (false = true) by decide)] at H; exact H
            clear H
            have H := H1
            clear H1
            replace H := Option.bind_eq_some_iff.mp H
            obtain ⟨⟨t436, t437, t438, t439, t440, t441, t442, t443, t444⟩, A880, H⟩ := H
            replace H : (if t444 = 0 then ((prefix_Within.f kj68 a0_0 a0_1 a0_2 a0_3 t436 t437 t438 t439).bind fun t447 => (if t447 = true then ((prefix_Within.f kj68 a1_0 a1_1 a1_2 a1_3 t440 t441 t442 t443).bind fun t448 => (if t448 = true then (some true) else ((prefix_Within.f kj68 a1_0 a1_1 a1_2 a1_3 t436 t437 t438 t439).bind fun t449 => (if t449 = true then ((prefix_Within.f kj68 a0_0 a0_1 a0_2 a0_3 t440 t441 t442 t443).bind fun t450 => (some t450)) else (some false))))) else ((prefix_Within.f kj68 a1_0 a1_1 a1_2 a1_3 t436 t437 t438 t439).bind fun t451 => (if t451 = true then ((prefix_Within.f kj68 a0_0 a0_1 a0_2 a0_3 t440 t441 t442 t443).bind fun t452 => (some t452)) else (some false))))) else (some false)) = some r := H
            have A88 := Aside0.mk A880
            clear A880
            by_cases c89 : t444 = 0
            ·
             rw [if_pos c89] at H
             have c89b0 : (t444 == 0) = true := beq_iff_eq.mpr c89
             have c89b1 : (t444 != 0) = false := bne_eq_false_iff_eq.mpr c89
             clear c89
             replace H := Option.bind_eq_some_iff.mp H
             obtain ⟨t447, A900, H⟩ := H
             replace H : (if t447 = true then ((prefix_Within.f kj68 a1_0 a1_1 a1_2 a1_3 t440 t441 t442 t443).bind fun t448 => (if t448 = true then (some true) else ((prefix_Within.f kj68 a1_0 a1_1 a1_2 a1_3 t436 t437 t438 t439).bind fun t449 => (if t449 = true then ((prefix_Within.f kj68 a0_0 a0_1 a0_2 a0_3 t440 t441 t442 t443).bind fun t450 => (some t450)) else (some false))))) else ((prefix_Within.f kj68 a1_0 a1_1 a1_2 a1_3 t436 t437 t438 t439).bind fun t451 => (if t451 = true then ((prefix_Within.f kj68 a0_0 a0_1 a0_2 a0_3 t440 t441 t442 t443).bind fun t452 => (some t452)) else (some false)))) = some r := H
             have A90 := Aside0.mk A900
             clear A900
             by_cases c91 : t447 = true
             ·
              subst c91
              rw [if_pos rfl] at H
              replace H := Option.bind_eq_some_iff.mp H
              obtain ⟨t448, A920, H⟩ := H
              replace H : (if t448 = true then (some true) else ((prefix_Within.f kj68 a1_0 a1_1 a1_2 a1_3 t436 t437 t438 t439).bind fun t449 => (if t449 = true then ((prefix_Within.f kj68 a0_0 a0_1 a0_2 a0_3 t440 t441 t442 t443).bind fun t450 => (some t450)) else (some false)))) = some r := H
              have A92 := Aside0.mk A920
              clear A920
              by_cases c93 : t448 = true
              ·
               subst c93
               rw [if_pos rfl] at H
               obtain rfl := Option.some.inj H
               have hnb94 := NB427_419.out
               have hnc94 := NB419_427.out
               have hnb95 := NB427_420.out
               have hnc95 := NB420_427.out
               have hnb96 := NB427_433.out
               have hnc96 := NB433_427.out
               obtain ⟨hcz97_0, hcz97_1, hcz97_2, hcz97_3, hfz97_0, hfz97_1, hfz97_2, hfz97_3⟩ := c4_ BK427
               go_wp2_with (first | ((with_reducible refine gate_callee (f := 33) rfl ?_); refine gl_ (some 56) Tryz.func33 #[.agg #[.bool t422, .int .u64 t423, .int .u64 t424, .int .i64 t425]] ?_; (with_reducible refine (prefix_Halves.calls t422 t423 t424 t425 t436 t437 t438 t439 t440 t441 t442 t443 t444 _ A88.out).mono ?_); rintro e w98 ⟨rfl, hb⟩; refine ⟨_, rfl, ?_⟩; replace BK419 := bb_ BK419 hb; replace BK420 := bb_ BK420 hb; replace BK427 := bb_ BK427 hb; replace BK433 := bb_ BK433 hb; replace HB := bs_ HB hb; (try clear hb); (try clear hb2); (try clear hk); (try clear hi)) | ((with_reducible refine gate_dst (N := 9) rfl ?_); refine bx_ 9 #[.bool false, .int .u64 0, .int .u64 0, .int .i64 0] 38 ?_; intro gb445 hg w99 hbox hb; have BK445 := Aside0.mk (hbox); have GW445 := gw_ HB hg; have GE445 := gw_ HB hg; have NB419_445 := nl_ BK419 hg; have NB445_419 := ng_ BK419 hg; have NB420_445 := nl_ BK420 hg; have NB445_420 := ng_ BK420 hg; have NB427_445 := nl_ BK427 hg; have NB445_427 := ng_ BK427 hg; have NB433_445 := nl_ BK433 hg; have NB445_433 := ng_ BK433 hg; replace BK419 := bb_ BK419 hb; replace BK420 := bb_ BK420 hb; replace BK427 := bb_ BK427 hb; replace BK433 := bb_ BK433 hb; replace HB := bs_ HB hb; clear hb hbox hg) | ((with_reducible refine gate_dst (N := 10) rfl ?_); refine bx_ 10 #[.bool false, .int .u64 0, .int .u64 0, .int .i64 0] 38 ?_; intro gb446 hg w100 hbox hb; have BK446 := Aside0.mk (hbox); have GW446 := gw_ HB hg; have GE446 := gw_ HB hg; have NB419_446 := nl_ BK419 hg; have NB446_419 := ng_ BK419 hg; have NB420_446 := nl_ BK420 hg; have NB446_420 := ng_ BK420 hg; have NB427_446 := nl_ BK427 hg; have NB446_427 := ng_ BK427 hg; have NB433_446 := nl_ BK433 hg; have NB446_433 := ng_ BK433 hg; have NB445_446 := nl_ BK445 hg; have NB446_445 := ng_ BK445 hg; replace BK419 := bb_ BK419 hb; replace BK420 := bb_ BK420 hb; replace BK427 := bb_ BK427 hb; replace BK433 := bb_ BK433 hb; replace BK445 := bb_ BK445 hb; replace HB := bs_ HB hb; clear hb hbox hg; have hnb101 := NB445_419.out; have hnc101 := NB419_445.out; have hnb102 := NB445_420.out; have hnc102 := NB420_445.out; have hnb103 := NB445_427.out; have hnc103 := NB427_445.out; have hnb104 := NB445_433.out; have hnc104 := NB433_445.out; have hnb105 := NB445_446.out; have hnc105 := NB446_445.out; obtain ⟨hcz106_0, hcz106_1, hcz106_2, hcz106_3, hfz106_0, hfz106_1, hfz106_2, hfz106_3⟩ := c4_ BK445; have hnb107 := NB446_419.out; have hnc107 := NB419_446.out; have hnb108 := NB446_420.out; have hnc108 := NB420_446.out; have hnb109 := NB446_427.out; have hnc109 := NB427_446.out; have hnb110 := NB446_433.out; have hnc110 := NB433_446.out; obtain ⟨hcz111_0, hcz111_1, hcz111_2, hcz111_3, hfz111_0, hfz111_1, hfz111_2, hfz111_3⟩ := c4_ BK446; have hnb112 := NB419_420.out; have hnc112 := NB420_419.out; have hnb113 := NB419_433.out; have hnc113 := NB433_419.out; obtain ⟨hcz114_0, hcz114_1, hcz114_2, hcz114_3, hfz114_0, hfz114_1, hfz114_2, hfz114_3⟩ := c4_ BK419) | (go_at_call 32; (with_reducible refine (prefix_Within.calls kj68 a0_0 a0_1 a0_2 a0_3 t436 t437 t438 t439 true _ A90.out).mono ?_); rintro e w115 ⟨rfl, hb⟩; replace BK419 := Aside0.mk (blk_below (g := gb419) (o := .cells #[.bool a0_0, .int .u64 a0_1, .int .u64 a0_2, .int .i64 a0_3] 38 (0, 0)) (by refine pw_ ?_; refine blk_far ?_ NB419_446.out _; refine pw_ ?_; refine blk_far ?_ NB419_446.out _; refine pw_ ?_; refine blk_far ?_ NB419_446.out _; refine pw_ ?_; refine blk_far ?_ NB419_446.out _; refine pw_ ?_; refine blk_far ?_ NB419_445.out _; refine pw_ ?_; refine blk_far ?_ NB419_445.out _; refine pw_ ?_; refine blk_far ?_ NB419_445.out _; refine pw_ ?_; refine blk_far ?_ NB419_445.out _; refine pw_ ?_; exact BK419.out) hb); replace BK420 := Aside0.mk (blk_below (g := gb420) (o := .cells #[.bool a1_0, .int .u64 a1_1, .int .u64 a1_2, .int .i64 a1_3] 38 (0, 0)) (by refine pw_ ?_; refine blk_far ?_ NB420_446.out _; refine pw_ ?_; refine blk_far ?_ NB420_446.out _; refine pw_ ?_; refine blk_far ?_ NB420_446.out _; refine pw_ ?_; refine blk_far ?_ NB420_446.out _; refine pw_ ?_; refine blk_far ?_ NB420_445.out _; refine pw_ ?_; refine blk_far ?_ NB420_445.out _; refine pw_ ?_; refine blk_far ?_ NB420_445.out _; refine pw_ ?_; refine blk_far ?_ NB420_445.out _; refine pw_ ?_; exact BK420.out) hb); replace BK427 := Aside0.mk (blk_below (g := gb427) (o := .cells #[.bool t422, .int .u64 t423, .int .u64 t424, .int .i64 t425] 38 (0, 0)) (by refine pw_ ?_; refine blk_far ?_ NB427_446.out _; refine pw_ ?_; refine blk_far ?_ NB427_446.out _; refine pw_ ?_; refine blk_far ?_ NB427_446.out _; refine pw_ ?_; refine blk_far ?_ NB427_446.out _; refine pw_ ?_; refine blk_far ?_ NB427_445.out _; refine pw_ ?_; refine blk_far ?_ NB427_445.out _; refine pw_ ?_; refine blk_far ?_ NB427_445.out _; refine pw_ ?_; refine blk_far ?_ NB427_445.out _; refine pw_ ?_; exact BK427.out) hb); replace BK433 := Aside0.mk (blk_below (g := gb433) (o := .cells #[.bool t428, .int .u64 t429, .int .u64 t430, .int .i64 t431] 38 (0, 0)) (by refine pw_ ?_; refine blk_far ?_ NB433_446.out _; refine pw_ ?_; refine blk_far ?_ NB433_446.out _; refine pw_ ?_; refine blk_far ?_ NB433_446.out _; refine pw_ ?_; refine blk_far ?_ NB433_446.out _; refine pw_ ?_; refine blk_far ?_ NB433_445.out _; refine pw_ ?_; refine blk_far ?_ NB433_445.out _; refine pw_ ?_; refine blk_far ?_ NB433_445.out _; refine pw_ ?_; refine blk_far ?_ NB433_445.out _; refine pw_ ?_; exact BK433.out) hb); replace BK445 := Aside0.mk (blk_below (g := gb445) (o := .cells #[.bool t436, .int .u64 t437, .int .u64 t438, .int .i64 t439] 38 (0, 0)) (by refine pw_ ?_; refine blk_far ?_ NB445_446.out _; refine pw_ ?_; refine blk_far ?_ NB445_446.out _; refine pw_ ?_; refine blk_far ?_ NB445_446.out _; refine pw_ ?_; refine blk_far ?_ NB445_446.out _; refine pw_ ?_; refine blk_put (cs := #[.bool t436, .int .u64 t437, .int .u64 t438, .int .i64 0]) ?_ 3 _ rfl; refine pw_ ?_; refine blk_put (cs := #[.bool t436, .int .u64 t437, .int .u64 0, .int .i64 0]) ?_ 2 _ rfl; refine pw_ ?_; refine blk_put (cs := #[.bool t436, .int .u64 0, .int .u64 0, .int .i64 0]) ?_ 1 _ rfl; refine pw_ ?_; refine blk_put (cs := #[.bool false, .int .u64 0, .int .u64 0, .int .i64 0]) ?_ 0 _ rfl; refine pw_ ?_; exact BK445.out) hb); replace BK446 := Aside0.mk (blk_below (g := gb446) (o := .cells #[.bool t440, .int .u64 t441, .int .u64 t442, .int .i64 t443] 38 (0, 0)) (by refine pw_ ?_; refine blk_put (cs := #[.bool t440, .int .u64 t441, .int .u64 t442, .int .i64 0]) ?_ 3 _ rfl; refine pw_ ?_; refine blk_put (cs := #[.bool t440, .int .u64 t441, .int .u64 0, .int .i64 0]) ?_ 2 _ rfl; refine pw_ ?_; refine blk_put (cs := #[.bool t440, .int .u64 0, .int .u64 0, .int .i64 0]) ?_ 1 _ rfl; refine pw_ ?_; refine blk_put (cs := #[.bool false, .int .u64 0, .int .u64 0, .int .i64 0]) ?_ 0 _ rfl; refine pw_ ?_; refine blk_far ?_ NB446_445.out _; refine pw_ ?_; refine blk_far ?_ NB446_445.out _; refine pw_ ?_; refine blk_far ?_ NB446_445.out _; refine pw_ ?_; refine blk_far ?_ NB446_445.out _; refine pw_ ?_; exact BK446.out) hb); replace HB := bs_ HB hb; (try clear hb); (try clear hb2); (try clear hk); (try clear hi); have hnb116 := NB420_433.out; have hnc116 := NB433_420.out; obtain ⟨hcz117_0, hcz117_1, hcz117_2, hcz117_3, hfz117_0, hfz117_1, hfz117_2, hfz117_3⟩ := c4_ BK420; obtain ⟨hcz118_0, hcz118_1, hcz118_2, hcz118_3, hfz118_0, hfz118_1, hfz118_2, hfz118_3⟩ := c4_ BK446) | (go_at_call 32; (with_reducible refine (prefix_Within.calls kj68 a1_0 a1_1 a1_2 a1_3 t440 t441 t442 t443 true _ A92.out).mono ?_); rintro e w119 ⟨rfl, hb⟩; replace BK419 := bb_ BK419 hb; replace BK420 := bb_ BK420 hb; replace BK427 := bb_ BK427 hb; replace BK433 := bb_ BK433 hb; replace BK445 := bb_ BK445 hb; replace BK446 := bb_ BK446 hb; replace HB := bs_ HB hb; (try clear hb); (try clear hb2); (try clear hk); (try clear hi)))
               go_ret
               exact ⟨by first | rfl | (simp [errW_none, errW_some] <;> rfl) | (simp [*, errW_none, errW_some] <;> rfl), pb_ HB⟩
              ·
               replace c93 := Bool.eq_false_iff.mpr c93
               subst c93
               have H1 : ((prefix_Within.f kj68 a1_0 a1_1 a1_2 a1_3 t436 t437 t438 t439).bind fun t449 => (if t449 = true then ((prefix_Within.f kj68 a0_0 a0_1 a0_2 a0_3 t440 t441 t442 t443).bind fun t450 => (some t450)) else (some false))) = some r := by rw [if_neg (show ¬ (false = true) by decide)] at H; exact H
               clear H
               have H := H1
               clear H1
               replace H := Option.bind_eq_some_iff.mp H
               obtain ⟨t449, A1200, H⟩ := H
               replace H : (if t449 = true then ((prefix_Within.f kj68 a0_0 a0_1 a0_2 a0_3 t440 t441 t442 t443).bind fun t450 => (some t450)) else (some false)) = some r := H
               have A120 := Aside0.mk A1200
               clear A1200
               by_cases c121 : t449 = true
               ·
                subst c121
                rw [if_pos rfl] at H
                replace H := Option.bind_eq_some_iff.mp H
                obtain ⟨t450, A1220, H⟩ := H
                replace H : (some t450) = some r := H
                have A122 := Aside0.mk A1220
                clear A1220
                obtain rfl := Option.some.inj H
                have hnb123 := NB427_419.out
                have hnc123 := NB419_427.out
                have hnb124 := NB427_420.out
                have hnc124 := NB420_427.out
                have hnb125 := NB427_433.out
                have hnc125 := NB433_427.out
                obtain ⟨hcz126_0, hcz126_1, hcz126_2, hcz126_3, hfz126_0, hfz126_1, hfz126_2, hfz126_3⟩ := c4_ BK427
                go_wp2_with (first | ((with_reducible refine gate_callee (f := 33) rfl ?_); refine gl_ (some 56) Tryz.func33 #[.agg #[.bool t422, .int .u64 t423, .int .u64 t424, .int .i64 t425]] ?_; (with_reducible refine (prefix_Halves.calls t422 t423 t424 t425 t436 t437 t438 t439 t440 t441 t442 t443 t444 _ A88.out).mono ?_); rintro e w127 ⟨rfl, hb⟩; refine ⟨_, rfl, ?_⟩; replace BK419 := bb_ BK419 hb; replace BK420 := bb_ BK420 hb; replace BK427 := bb_ BK427 hb; replace BK433 := bb_ BK433 hb; replace HB := bs_ HB hb; (try clear hb); (try clear hb2); (try clear hk); (try clear hi)) | ((with_reducible refine gate_dst (N := 9) rfl ?_); refine bx_ 9 #[.bool false, .int .u64 0, .int .u64 0, .int .i64 0] 38 ?_; intro gb445 hg w128 hbox hb; have BK445 := Aside0.mk (hbox); have GW445 := gw_ HB hg; have GE445 := gw_ HB hg; have NB419_445 := nl_ BK419 hg; have NB445_419 := ng_ BK419 hg; have NB420_445 := nl_ BK420 hg; have NB445_420 := ng_ BK420 hg; have NB427_445 := nl_ BK427 hg; have NB445_427 := ng_ BK427 hg; have NB433_445 := nl_ BK433 hg; have NB445_433 := ng_ BK433 hg; replace BK419 := bb_ BK419 hb; replace BK420 := bb_ BK420 hb; replace BK427 := bb_ BK427 hb; replace BK433 := bb_ BK433 hb; replace HB := bs_ HB hb; clear hb hbox hg) | ((with_reducible refine gate_dst (N := 10) rfl ?_); refine bx_ 10 #[.bool false, .int .u64 0, .int .u64 0, .int .i64 0] 38 ?_; intro gb446 hg w129 hbox hb; have BK446 := Aside0.mk (hbox); have GW446 := gw_ HB hg; have GE446 := gw_ HB hg; have NB419_446 := nl_ BK419 hg; have NB446_419 := ng_ BK419 hg; have NB420_446 := nl_ BK420 hg; have NB446_420 := ng_ BK420 hg; have NB427_446 := nl_ BK427 hg; have NB446_427 := ng_ BK427 hg; have NB433_446 := nl_ BK433 hg; have NB446_433 := ng_ BK433 hg; have NB445_446 := nl_ BK445 hg; have NB446_445 := ng_ BK445 hg; replace BK419 := bb_ BK419 hb; replace BK420 := bb_ BK420 hb; replace BK427 := bb_ BK427 hb; replace BK433 := bb_ BK433 hb; replace BK445 := bb_ BK445 hb; replace HB := bs_ HB hb; clear hb hbox hg; have hnb130 := NB445_419.out; have hnc130 := NB419_445.out; have hnb131 := NB445_420.out; have hnc131 := NB420_445.out; have hnb132 := NB445_427.out; have hnc132 := NB427_445.out; have hnb133 := NB445_433.out; have hnc133 := NB433_445.out; have hnb134 := NB445_446.out; have hnc134 := NB446_445.out; obtain ⟨hcz135_0, hcz135_1, hcz135_2, hcz135_3, hfz135_0, hfz135_1, hfz135_2, hfz135_3⟩ := c4_ BK445; have hnb136 := NB446_419.out; have hnc136 := NB419_446.out; have hnb137 := NB446_420.out; have hnc137 := NB420_446.out; have hnb138 := NB446_427.out; have hnc138 := NB427_446.out; have hnb139 := NB446_433.out; have hnc139 := NB433_446.out; obtain ⟨hcz140_0, hcz140_1, hcz140_2, hcz140_3, hfz140_0, hfz140_1, hfz140_2, hfz140_3⟩ := c4_ BK446; have hnb141 := NB419_420.out; have hnc141 := NB420_419.out; have hnb142 := NB419_433.out; have hnc142 := NB433_419.out; obtain ⟨hcz143_0, hcz143_1, hcz143_2, hcz143_3, hfz143_0, hfz143_1, hfz143_2, hfz143_3⟩ := c4_ BK419) | (go_at_call 32; (with_reducible refine (prefix_Within.calls kj68 a0_0 a0_1 a0_2 a0_3 t436 t437 t438 t439 true _ A90.out).mono ?_); rintro e w144 ⟨rfl, hb⟩; replace BK419 := Aside0.mk (blk_below (g := gb419) (o := .cells #[.bool a0_0, .int .u64 a0_1, .int .u64 a0_2, .int .i64 a0_3] 38 (0, 0)) (by refine pw_ ?_; refine blk_far ?_ NB419_446.out _; refine pw_ ?_; refine blk_far ?_ NB419_446.out _; refine pw_ ?_; refine blk_far ?_ NB419_446.out _; refine pw_ ?_; refine blk_far ?_ NB419_446.out _; refine pw_ ?_; refine blk_far ?_ NB419_445.out _; refine pw_ ?_; refine blk_far ?_ NB419_445.out _; refine pw_ ?_; refine blk_far ?_ NB419_445.out _; refine pw_ ?_; refine blk_far ?_ NB419_445.out _; refine pw_ ?_; exact BK419.out) hb); replace BK420 := Aside0.mk (blk_below (g := gb420) (o := .cells #[.bool a1_0, .int .u64 a1_1, .int .u64 a1_2, .int .i64 a1_3] 38 (0, 0)) (by refine pw_ ?_; refine blk_far ?_ NB420_446.out _; refine pw_ ?_; refine blk_far ?_ NB420_446.out _; refine pw_ ?_; refine blk_far ?_ NB420_446.out _; refine pw_ ?_; refine blk_far ?_ NB420_446.out _; refine pw_ ?_; refine blk_far ?_ NB420_445.out _; refine pw_ ?_; refine blk_far ?_ NB420_445.out _; refine pw_ ?_; refine blk_far ?_ NB420_445.out _; refine pw_ ?_; refine blk_far ?_ NB420_445.out _; refine pw_ ?_; exact BK420.out) hb); replace BK427 := Aside0.mk (blk_below (g := gb427) (o := .cells #[.bool t422, .int .u64 t423, .int .u64 t424, .int .i64 t425] 38 (0, 0)) (by refine pw_ ?_; refine blk_far ?_ NB427_446.out _; refine pw_ ?_; refine blk_far ?_ NB427_446.out _; refine pw_ ?_; refine blk_far ?_ NB427_446.out _; refine pw_ ?_; refine blk_far ?_ NB427_446.out _; refine pw_ ?_; refine blk_far ?_ NB427_445.out _; refine pw_ ?_; refine blk_far ?_ NB427_445.out _; refine pw_ ?_; refine blk_far ?_ NB427_445.out _; refine pw_ ?_; refine blk_far ?_ NB427_445.out _; refine pw_ ?_; exact BK427.out) hb); replace BK433 := Aside0.mk (blk_below (g := gb433) (o := .cells #[.bool t428, .int .u64 t429, .int .u64 t430, .int .i64 t431] 38 (0, 0)) (by refine pw_ ?_; refine blk_far ?_ NB433_446.out _; refine pw_ ?_; refine blk_far ?_ NB433_446.out _; refine pw_ ?_; refine blk_far ?_ NB433_446.out _; refine pw_ ?_; refine blk_far ?_ NB433_446.out _; refine pw_ ?_; refine blk_far ?_ NB433_445.out _; refine pw_ ?_; refine blk_far ?_ NB433_445.out _; refine pw_ ?_; refine blk_far ?_ NB433_445.out _; refine pw_ ?_; refine blk_far ?_ NB433_445.out _; refine pw_ ?_; exact BK433.out) hb); replace BK445 := Aside0.mk (blk_below (g := gb445) (o := .cells #[.bool t436, .int .u64 t437, .int .u64 t438, .int .i64 t439] 38 (0, 0)) (by refine pw_ ?_; refine blk_far ?_ NB445_446.out _; refine pw_ ?_; refine blk_far ?_ NB445_446.out _; refine pw_ ?_; refine blk_far ?_ NB445_446.out _; refine pw_ ?_; refine blk_far ?_ NB445_446.out _; refine pw_ ?_; refine blk_put (cs := #[.bool t436, .int .u64 t437, .int .u64 t438, .int .i64 0]) ?_ 3 _ rfl; refine pw_ ?_; refine blk_put (cs := #[.bool t436, .int .u64 t437, .int .u64 0, .int .i64 0]) ?_ 2 _ rfl; refine pw_ ?_; refine blk_put (cs := #[.bool t436, .int .u64 0, .int .u64 0, .int .i64 0]) ?_ 1 _ rfl; refine pw_ ?_; refine blk_put (cs := #[.bool false, .int .u64 0, .int .u64 0, .int .i64 0]) ?_ 0 _ rfl; refine pw_ ?_; exact BK445.out) hb); replace BK446 := Aside0.mk (blk_below (g := gb446) (o := .cells #[.bool t440, .int .u64 t441, .int .u64 t442, .int .i64 t443] 38 (0, 0)) (by refine pw_ ?_; refine blk_put (cs := #[.bool t440, .int .u64 t441, .int .u64 t442, .int .i64 0]) ?_ 3 _ rfl; refine pw_ ?_; refine blk_put (cs := #[.bool t440, .int .u64 t441, .int .u64 0, .int .i64 0]) ?_ 2 _ rfl; refine pw_ ?_; refine blk_put (cs := #[.bool t440, .int .u64 0, .int .u64 0, .int .i64 0]) ?_ 1 _ rfl; refine pw_ ?_; refine blk_put (cs := #[.bool false, .int .u64 0, .int .u64 0, .int .i64 0]) ?_ 0 _ rfl; refine pw_ ?_; refine blk_far ?_ NB446_445.out _; refine pw_ ?_; refine blk_far ?_ NB446_445.out _; refine pw_ ?_; refine blk_far ?_ NB446_445.out _; refine pw_ ?_; refine blk_far ?_ NB446_445.out _; refine pw_ ?_; exact BK446.out) hb); replace HB := bs_ HB hb; (try clear hb); (try clear hb2); (try clear hk); (try clear hi); have hnb145 := NB420_433.out; have hnc145 := NB433_420.out; obtain ⟨hcz146_0, hcz146_1, hcz146_2, hcz146_3, hfz146_0, hfz146_1, hfz146_2, hfz146_3⟩ := c4_ BK420; obtain ⟨hcz147_0, hcz147_1, hcz147_2, hcz147_3, hfz147_0, hfz147_1, hfz147_2, hfz147_3⟩ := c4_ BK446) | (go_at_call 32; (with_reducible refine (prefix_Within.calls kj68 a1_0 a1_1 a1_2 a1_3 t440 t441 t442 t443 false _ A92.out).mono ?_); rintro e w148 ⟨rfl, hb⟩; replace BK419 := bb_ BK419 hb; replace BK420 := bb_ BK420 hb; replace BK427 := bb_ BK427 hb; replace BK433 := bb_ BK433 hb; replace BK445 := bb_ BK445 hb; replace BK446 := bb_ BK446 hb; replace HB := bs_ HB hb; (try clear hb); (try clear hb2); (try clear hk); (try clear hi); obtain ⟨hcz149_0, hcz149_1, hcz149_2, hcz149_3, hfz149_0, hfz149_1, hfz149_2, hfz149_3⟩ := c4_ BK420; obtain ⟨hcz150_0, hcz150_1, hcz150_2, hcz150_3, hfz150_0, hfz150_1, hfz150_2, hfz150_3⟩ := c4_ BK445) | (go_at_call 32; (with_reducible refine (prefix_Within.calls kj68 a1_0 a1_1 a1_2 a1_3 t436 t437 t438 t439 true _ A120.out).mono ?_); rintro e w151 ⟨rfl, hb⟩; replace BK419 := bb_ BK419 hb; replace BK420 := bb_ BK420 hb; replace BK427 := bb_ BK427 hb; replace BK433 := bb_ BK433 hb; replace BK445 := bb_ BK445 hb; replace BK446 := bb_ BK446 hb; replace HB := bs_ HB hb; (try clear hb); (try clear hb2); (try clear hk); (try clear hi); obtain ⟨hcz152_0, hcz152_1, hcz152_2, hcz152_3, hfz152_0, hfz152_1, hfz152_2, hfz152_3⟩ := c4_ BK419; obtain ⟨hcz153_0, hcz153_1, hcz153_2, hcz153_3, hfz153_0, hfz153_1, hfz153_2, hfz153_3⟩ := c4_ BK446) | (go_at_call 32; (with_reducible refine (prefix_Within.calls kj68 a0_0 a0_1 a0_2 a0_3 t440 t441 t442 t443 t450 _ A122.out).mono ?_); rintro e w154 ⟨rfl, hb⟩; replace BK419 := bb_ BK419 hb; replace BK420 := bb_ BK420 hb; replace BK427 := bb_ BK427 hb; replace BK433 := bb_ BK433 hb; replace BK445 := bb_ BK445 hb; replace BK446 := bb_ BK446 hb; replace HB := bs_ HB hb; (try clear hb); (try clear hb2); (try clear hk); (try clear hi)))
                go_ret
                exact ⟨by first | rfl | (simp [errW_none, errW_some] <;> rfl) | (simp [*, errW_none, errW_some] <;> rfl), pb_ HB⟩
               ·
                replace c121 := Bool.eq_false_iff.mpr c121
                subst c121
                have H1 : (some false) = some r := by rw [if_neg (show ¬ (false = true) by decide)] at H; exact H
                clear H
                have H := H1
                clear H1
                obtain rfl := Option.some.inj H
                exact absurd HRT.out (by decide)
             ·
              replace c91 := Bool.eq_false_iff.mpr c91
              subst c91
              have H1 : ((prefix_Within.f kj68 a1_0 a1_1 a1_2 a1_3 t436 t437 t438 t439).bind fun t451 => (if t451 = true then ((prefix_Within.f kj68 a0_0 a0_1 a0_2 a0_3 t440 t441 t442 t443).bind fun t452 => (some t452)) else (some false))) = some r := by rw [if_neg (show ¬ (false = true) by decide)] at H; exact H
              clear H
              have H := H1
              clear H1
              replace H := Option.bind_eq_some_iff.mp H
              obtain ⟨t451, A1550, H⟩ := H
              replace H : (if t451 = true then ((prefix_Within.f kj68 a0_0 a0_1 a0_2 a0_3 t440 t441 t442 t443).bind fun t452 => (some t452)) else (some false)) = some r := H
              have A155 := Aside0.mk A1550
              clear A1550
              by_cases c156 : t451 = true
              ·
               subst c156
               rw [if_pos rfl] at H
               replace H := Option.bind_eq_some_iff.mp H
               obtain ⟨t452, A1570, H⟩ := H
               replace H : (some t452) = some r := H
               have A157 := Aside0.mk A1570
               clear A1570
               obtain rfl := Option.some.inj H
               have hnb158 := NB427_419.out
               have hnc158 := NB419_427.out
               have hnb159 := NB427_420.out
               have hnc159 := NB420_427.out
               have hnb160 := NB427_433.out
               have hnc160 := NB433_427.out
               obtain ⟨hcz161_0, hcz161_1, hcz161_2, hcz161_3, hfz161_0, hfz161_1, hfz161_2, hfz161_3⟩ := c4_ BK427
               go_wp2_with (first | ((with_reducible refine gate_callee (f := 33) rfl ?_); refine gl_ (some 56) Tryz.func33 #[.agg #[.bool t422, .int .u64 t423, .int .u64 t424, .int .i64 t425]] ?_; (with_reducible refine (prefix_Halves.calls t422 t423 t424 t425 t436 t437 t438 t439 t440 t441 t442 t443 t444 _ A88.out).mono ?_); rintro e w162 ⟨rfl, hb⟩; refine ⟨_, rfl, ?_⟩; replace BK419 := bb_ BK419 hb; replace BK420 := bb_ BK420 hb; replace BK427 := bb_ BK427 hb; replace BK433 := bb_ BK433 hb; replace HB := bs_ HB hb; (try clear hb); (try clear hb2); (try clear hk); (try clear hi)) | ((with_reducible refine gate_dst (N := 9) rfl ?_); refine bx_ 9 #[.bool false, .int .u64 0, .int .u64 0, .int .i64 0] 38 ?_; intro gb445 hg w163 hbox hb; have BK445 := Aside0.mk (hbox); have GW445 := gw_ HB hg; have GE445 := gw_ HB hg; have NB419_445 := nl_ BK419 hg; have NB445_419 := ng_ BK419 hg; have NB420_445 := nl_ BK420 hg; have NB445_420 := ng_ BK420 hg; have NB427_445 := nl_ BK427 hg; have NB445_427 := ng_ BK427 hg; have NB433_445 := nl_ BK433 hg; have NB445_433 := ng_ BK433 hg; replace BK419 := bb_ BK419 hb; replace BK420 := bb_ BK420 hb; replace BK427 := bb_ BK427 hb; replace BK433 := bb_ BK433 hb; replace HB := bs_ HB hb; clear hb hbox hg) | ((with_reducible refine gate_dst (N := 10) rfl ?_); refine bx_ 10 #[.bool false, .int .u64 0, .int .u64 0, .int .i64 0] 38 ?_; intro gb446 hg w164 hbox hb; have BK446 := Aside0.mk (hbox); have GW446 := gw_ HB hg; have GE446 := gw_ HB hg; have NB419_446 := nl_ BK419 hg; have NB446_419 := ng_ BK419 hg; have NB420_446 := nl_ BK420 hg; have NB446_420 := ng_ BK420 hg; have NB427_446 := nl_ BK427 hg; have NB446_427 := ng_ BK427 hg; have NB433_446 := nl_ BK433 hg; have NB446_433 := ng_ BK433 hg; have NB445_446 := nl_ BK445 hg; have NB446_445 := ng_ BK445 hg; replace BK419 := bb_ BK419 hb; replace BK420 := bb_ BK420 hb; replace BK427 := bb_ BK427 hb; replace BK433 := bb_ BK433 hb; replace BK445 := bb_ BK445 hb; replace HB := bs_ HB hb; clear hb hbox hg; have hnb165 := NB445_419.out; have hnc165 := NB419_445.out; have hnb166 := NB445_420.out; have hnc166 := NB420_445.out; have hnb167 := NB445_427.out; have hnc167 := NB427_445.out; have hnb168 := NB445_433.out; have hnc168 := NB433_445.out; have hnb169 := NB445_446.out; have hnc169 := NB446_445.out; obtain ⟨hcz170_0, hcz170_1, hcz170_2, hcz170_3, hfz170_0, hfz170_1, hfz170_2, hfz170_3⟩ := c4_ BK445; have hnb171 := NB446_419.out; have hnc171 := NB419_446.out; have hnb172 := NB446_420.out; have hnc172 := NB420_446.out; have hnb173 := NB446_427.out; have hnc173 := NB427_446.out; have hnb174 := NB446_433.out; have hnc174 := NB433_446.out; obtain ⟨hcz175_0, hcz175_1, hcz175_2, hcz175_3, hfz175_0, hfz175_1, hfz175_2, hfz175_3⟩ := c4_ BK446; have hnb176 := NB419_420.out; have hnc176 := NB420_419.out; have hnb177 := NB419_433.out; have hnc177 := NB433_419.out; obtain ⟨hcz178_0, hcz178_1, hcz178_2, hcz178_3, hfz178_0, hfz178_1, hfz178_2, hfz178_3⟩ := c4_ BK419) | (go_at_call 32; (with_reducible refine (prefix_Within.calls kj68 a0_0 a0_1 a0_2 a0_3 t436 t437 t438 t439 false _ A90.out).mono ?_); rintro e w179 ⟨rfl, hb⟩; replace BK419 := Aside0.mk (blk_below (g := gb419) (o := .cells #[.bool a0_0, .int .u64 a0_1, .int .u64 a0_2, .int .i64 a0_3] 38 (0, 0)) (by refine pw_ ?_; refine blk_far ?_ NB419_446.out _; refine pw_ ?_; refine blk_far ?_ NB419_446.out _; refine pw_ ?_; refine blk_far ?_ NB419_446.out _; refine pw_ ?_; refine blk_far ?_ NB419_446.out _; refine pw_ ?_; refine blk_far ?_ NB419_445.out _; refine pw_ ?_; refine blk_far ?_ NB419_445.out _; refine pw_ ?_; refine blk_far ?_ NB419_445.out _; refine pw_ ?_; refine blk_far ?_ NB419_445.out _; refine pw_ ?_; exact BK419.out) hb); replace BK420 := Aside0.mk (blk_below (g := gb420) (o := .cells #[.bool a1_0, .int .u64 a1_1, .int .u64 a1_2, .int .i64 a1_3] 38 (0, 0)) (by refine pw_ ?_; refine blk_far ?_ NB420_446.out _; refine pw_ ?_; refine blk_far ?_ NB420_446.out _; refine pw_ ?_; refine blk_far ?_ NB420_446.out _; refine pw_ ?_; refine blk_far ?_ NB420_446.out _; refine pw_ ?_; refine blk_far ?_ NB420_445.out _; refine pw_ ?_; refine blk_far ?_ NB420_445.out _; refine pw_ ?_; refine blk_far ?_ NB420_445.out _; refine pw_ ?_; refine blk_far ?_ NB420_445.out _; refine pw_ ?_; exact BK420.out) hb); replace BK427 := Aside0.mk (blk_below (g := gb427) (o := .cells #[.bool t422, .int .u64 t423, .int .u64 t424, .int .i64 t425] 38 (0, 0)) (by refine pw_ ?_; refine blk_far ?_ NB427_446.out _; refine pw_ ?_; refine blk_far ?_ NB427_446.out _; refine pw_ ?_; refine blk_far ?_ NB427_446.out _; refine pw_ ?_; refine blk_far ?_ NB427_446.out _; refine pw_ ?_; refine blk_far ?_ NB427_445.out _; refine pw_ ?_; refine blk_far ?_ NB427_445.out _; refine pw_ ?_; refine blk_far ?_ NB427_445.out _; refine pw_ ?_; refine blk_far ?_ NB427_445.out _; refine pw_ ?_; exact BK427.out) hb); replace BK433 := Aside0.mk (blk_below (g := gb433) (o := .cells #[.bool t428, .int .u64 t429, .int .u64 t430, .int .i64 t431] 38 (0, 0)) (by refine pw_ ?_; refine blk_far ?_ NB433_446.out _; refine pw_ ?_; refine blk_far ?_ NB433_446.out _; refine pw_ ?_; refine blk_far ?_ NB433_446.out _; refine pw_ ?_; refine blk_far ?_ NB433_446.out _; refine pw_ ?_; refine blk_far ?_ NB433_445.out _; refine pw_ ?_; refine blk_far ?_ NB433_445.out _; refine pw_ ?_; refine blk_far ?_ NB433_445.out _; refine pw_ ?_; refine blk_far ?_ NB433_445.out _; refine pw_ ?_; exact BK433.out) hb); replace BK445 := Aside0.mk (blk_below (g := gb445) (o := .cells #[.bool t436, .int .u64 t437, .int .u64 t438, .int .i64 t439] 38 (0, 0)) (by refine pw_ ?_; refine blk_far ?_ NB445_446.out _; refine pw_ ?_; refine blk_far ?_ NB445_446.out _; refine pw_ ?_; refine blk_far ?_ NB445_446.out _; refine pw_ ?_; refine blk_far ?_ NB445_446.out _; refine pw_ ?_; refine blk_put (cs := #[.bool t436, .int .u64 t437, .int .u64 t438, .int .i64 0]) ?_ 3 _ rfl; refine pw_ ?_; refine blk_put (cs := #[.bool t436, .int .u64 t437, .int .u64 0, .int .i64 0]) ?_ 2 _ rfl; refine pw_ ?_; refine blk_put (cs := #[.bool t436, .int .u64 0, .int .u64 0, .int .i64 0]) ?_ 1 _ rfl; refine pw_ ?_; refine blk_put (cs := #[.bool false, .int .u64 0, .int .u64 0, .int .i64 0]) ?_ 0 _ rfl; refine pw_ ?_; exact BK445.out) hb); replace BK446 := Aside0.mk (blk_below (g := gb446) (o := .cells #[.bool t440, .int .u64 t441, .int .u64 t442, .int .i64 t443] 38 (0, 0)) (by refine pw_ ?_; refine blk_put (cs := #[.bool t440, .int .u64 t441, .int .u64 t442, .int .i64 0]) ?_ 3 _ rfl; refine pw_ ?_; refine blk_put (cs := #[.bool t440, .int .u64 t441, .int .u64 0, .int .i64 0]) ?_ 2 _ rfl; refine pw_ ?_; refine blk_put (cs := #[.bool t440, .int .u64 0, .int .u64 0, .int .i64 0]) ?_ 1 _ rfl; refine pw_ ?_; refine blk_put (cs := #[.bool false, .int .u64 0, .int .u64 0, .int .i64 0]) ?_ 0 _ rfl; refine pw_ ?_; refine blk_far ?_ NB446_445.out _; refine pw_ ?_; refine blk_far ?_ NB446_445.out _; refine pw_ ?_; refine blk_far ?_ NB446_445.out _; refine pw_ ?_; refine blk_far ?_ NB446_445.out _; refine pw_ ?_; exact BK446.out) hb); replace HB := bs_ HB hb; (try clear hb); (try clear hb2); (try clear hk); (try clear hi); have hnb180 := NB420_433.out; have hnc180 := NB433_420.out; obtain ⟨hcz181_0, hcz181_1, hcz181_2, hcz181_3, hfz181_0, hfz181_1, hfz181_2, hfz181_3⟩ := c4_ BK420; obtain ⟨hcz182_0, hcz182_1, hcz182_2, hcz182_3, hfz182_0, hfz182_1, hfz182_2, hfz182_3⟩ := c4_ BK445) | (go_at_call 32; (with_reducible refine (prefix_Within.calls kj68 a1_0 a1_1 a1_2 a1_3 t436 t437 t438 t439 true _ A155.out).mono ?_); rintro e w183 ⟨rfl, hb⟩; replace BK419 := bb_ BK419 hb; replace BK420 := bb_ BK420 hb; replace BK427 := bb_ BK427 hb; replace BK433 := bb_ BK433 hb; replace BK445 := bb_ BK445 hb; replace BK446 := bb_ BK446 hb; replace HB := bs_ HB hb; (try clear hb); (try clear hb2); (try clear hk); (try clear hi); obtain ⟨hcz184_0, hcz184_1, hcz184_2, hcz184_3, hfz184_0, hfz184_1, hfz184_2, hfz184_3⟩ := c4_ BK419; obtain ⟨hcz185_0, hcz185_1, hcz185_2, hcz185_3, hfz185_0, hfz185_1, hfz185_2, hfz185_3⟩ := c4_ BK446) | (go_at_call 32; (with_reducible refine (prefix_Within.calls kj68 a0_0 a0_1 a0_2 a0_3 t440 t441 t442 t443 t452 _ A157.out).mono ?_); rintro e w186 ⟨rfl, hb⟩; replace BK419 := bb_ BK419 hb; replace BK420 := bb_ BK420 hb; replace BK427 := bb_ BK427 hb; replace BK433 := bb_ BK433 hb; replace BK445 := bb_ BK445 hb; replace BK446 := bb_ BK446 hb; replace HB := bs_ HB hb; (try clear hb); (try clear hb2); (try clear hk); (try clear hi)))
               go_ret
               exact ⟨by first | rfl | (simp [errW_none, errW_some] <;> rfl) | (simp [*, errW_none, errW_some] <;> rfl), pb_ HB⟩
              ·
               replace c156 := Bool.eq_false_iff.mpr c156
               subst c156
               have H1 : (some false) = some r := by rw [if_neg (show ¬ (false = true) by decide)] at H; exact H
               clear H
               have H := H1
               clear H1
               obtain rfl := Option.some.inj H
               exact absurd HRT.out (by decide)
            ·
             rw [if_neg c89] at H
             have c89b0 : (t444 == 0) = false := beq_eq_false_iff_ne.mpr c89
             have c89b1 : (t444 != 0) = true := bne_iff_ne.mpr c89
             obtain rfl := Option.some.inj H
             exact absurd HRT.out (by decide)
     ·
      rw [if_neg c43] at H
      have c43b0 : (t426 == 0) = false := beq_eq_false_iff_ne.mpr c43
      have c43b1 : (t426 != 0) = true := bne_iff_ne.mpr c43
      obtain rfl := Option.some.inj H
      go_wp2
      go_ret
      exact ⟨by first | rfl | (simp [errW_none, errW_some] <;> rfl) | (simp [*, errW_none, errW_some] <;> rfl), pb_ HB⟩
 ·
  replace c4 := Bool.eq_false_iff.mpr c4
  subst c4
  have H1 : (some false) = some r := by rw [if_neg (show ¬ (false = true) by decide)] at H; exact H
  clear H
  have H := H1
  clear H1
  obtain rfl := Option.some.inj H
  exact absurd HRT.out (by decide)

end Go.Proofs.YtgdgklibilddgaaGreatDoor.PPr

namespace Go.Proofs.YtgdgklibilddgaaGreatDoor.PPr
open Go.RowKit Go.Proofs.YtgdgklibilddgaaGreatDoorW.PrintWords Go.Proofs.YtgdgklibilddgaaGreatDoorW.PrintLast Go.Proofs.YtgdgklibilddgaaGreatDoorW.PrintMore
attribute [local go_sem] max2_int min2_int max_two min_two max_three min_three max_four min_four   -- for this text's walks alone

def platbookref03_Has.j0 : Nat → Bool → Bool → Int → Int → Int → Bool → Int → Int → Option (Bool)
 | 0, _, _, _, _, _, _, _, _ => none
 | k + 1, x20, x247000, x247001, x247002, x247003, x248000, x248001, x248002 => if x20 = true then (some false) else ((platbookref03_Row.f k x247000 x247001 x247002).bind fun t250 => ((platbookref03_Row.f k x248000 x248001 x248002).bind fun t253 => ((platbookref03_Alike.f k t250 t253).bind fun t256 => (some (decide (t256 ≥ x247003))))))
def platbookref03_Has.f (k : Nat) (a0_0 : Bool) (a0_1 : Int) (a0_2 : Int) (a0_3 : Int) (a1_0 : Bool) (a1_1 : Int) (a1_2 : Int) : Option (Bool) := (platbookref03_Right.f k a0_0 a0_1 a0_2 a0_3).bind fun t248 => (if t248 = true then ((platbookref02_Right.f a1_0 a1_1 a1_2).bind fun t249 => (if t249 = true then (platbookref03_Has.j0 k (a1_0 != a0_0) a0_0 a0_1 a0_2 a0_3 a1_0 a1_1 a1_2) else (platbookref03_Has.j0 k true a0_0 a0_1 a0_2 a0_3 a1_0 a1_1 a1_2))) else (platbookref03_Has.j0 k true a0_0 a0_1 a0_2 a0_3 a1_0 a1_1 a1_2))
def platbookref03_Has.T3 : Bool × List (List Nat × List Nat) := (true, [([], []), ([0], [0]), ([1], [1]), ([], []), ([3, 2], [3]), ([2, 4, 4], [2, 4]), ([], []), ([6], [6]), ([5, 7], [5, 7]), ([8, 5, 0, 1, 2, 3, 4, 5, 6, 7, 8], [8])])
def platbookref03_Has.B3 : List Nat := [0, 1, 3, 0, 15, 31, 0, 64, 255, 511]
theorem platbookref03_Has.tab3 : rtab .any (opsOf Tryz.f41 3) = platbookref03_Has.T3 := by kernel_rfl
theorem platbookref03_Has.bits3 : waitsOk platbookref03_Has.T3.2 platbookref03_Has.B3 = true := by kernel_rfl
set_option maxHeartbeats 8000000 in
set_option maxRecDepth 100000 in
theorem platbookref03_Has.calls (k : Nat) (a0_0 : Bool) (a0_1 : Int) (a0_2 : Int) (a0_3 : Int) (a1_0 : Bool) (a1_1 : Int) (a1_2 : Int) (r : Bool) (w : World) (h : platbookref03_Has.f k a0_0 a0_1 a0_2 a0_3 a1_0 a1_1 a1_2 = some r) :
  Calls Tryz.prog 41 #[.agg #[.bool a0_0, .int .u64 a0_1, .int .u64 a0_2, .int .i64 a0_3], .agg #[.bool a1_0, .int .u64 a1_1, .int .u64 a1_2]] w fun e w' => e = .returned (.bool r) ∧ Below w.heap.size w w' := by
 have hu38 := Tryz.underlying38
 have hu26 := Tryz.underlying26
 have HB := Aside0.mk (Below.refl w.heap.size w)
 have H : ((platbookref03_Right.f k a0_0 a0_1 a0_2 a0_3).bind fun t248 => (if t248 = true then ((platbookref02_Right.f a1_0 a1_1 a1_2).bind fun t249 => (if t249 = true then (platbookref03_Has.j0 k (a1_0 != a0_0) a0_0 a0_1 a0_2 a0_3 a1_0 a1_1 a1_2) else (platbookref03_Has.j0 k true a0_0 a0_1 a0_2 a0_3 a1_0 a1_1 a1_2))) else (platbookref03_Has.j0 k true a0_0 a0_1 a0_2 a0_3 a1_0 a1_1 a1_2))) = some r := h
 clear h
 have HC3 := Aside0.mk H
 clear H
 go_enter Tryz.func41, Tryz.ntmps41
 go_upto_region 1 with (first | ((with_reducible refine gate_dst (N := 2) rfl ?_); refine bx_ 2 #[.bool a0_0, .int .u64 a0_1, .int .u64 a0_2, .int .i64 a0_3] 38 ?_; intro gb246 hg w4 hbox hb; have BK246 := Aside0.mk (hbox); have GW246 := gw_ HB hg; have GE246 := gw_ HB hg; replace HB := bs_ HB hb; clear hb hbox hg) | ((with_reducible refine gate_dst (N := 3) rfl ?_); refine bx_ 3 #[.bool a1_0, .int .u64 a1_1, .int .u64 a1_2] 26 ?_; intro gb247 hg w5 hbox hb; have BK247 := Aside0.mk (hbox); have GW247 := gw_ HB hg; have GE247 := gw_ HB hg; have NB246_247 := nl_ BK246 hg; have NB247_246 := ng_ BK246 hg; replace BK246 := bb_ BK246 hb; replace HB := bs_ HB hb; clear hb hbox hg))
 (try simp only [Act.put, List.setIfInBounds_toArray, List.set_cons_zero, List.set_cons_succ])
 go_cut [20] (fun v20 wc => ∃ (kq : Nat) (x20_2 : Bool), v20 = .bool x20_2 ∧ Aside0 (platbookref03_Has.j0 kq x20_2 a0_0 a0_1 a0_2 a0_3 a1_0 a1_1 a1_2 = some r) ∧ Aside0 (kq ≤ k) ∧ Aside0 (wc.heap[gb246]? = some (.cells #[.bool a0_0, .int .u64 a0_1, .int .u64 a0_2, .int .i64 a0_3] 38 (0, 0))) ∧ Aside0 (wc.heap[gb247]? = some (.cells #[.bool a1_0, .int .u64 a1_1, .int .u64 a1_2] 26 (0, 0))) ∧ Aside0 (Below w.heap.size w wc))
 case first =>
  have H := HC3.out
  clear HC3
  replace H := Option.bind_eq_some_iff.mp H
  obtain ⟨t248, A60, H⟩ := H
  replace H : (if t248 = true then ((platbookref02_Right.f a1_0 a1_1 a1_2).bind fun t249 => (if t249 = true then (platbookref03_Has.j0 k (a1_0 != a0_0) a0_0 a0_1 a0_2 a0_3 a1_0 a1_1 a1_2) else (platbookref03_Has.j0 k true a0_0 a0_1 a0_2 a0_3 a1_0 a1_1 a1_2))) else (platbookref03_Has.j0 k true a0_0 a0_1 a0_2 a0_3 a1_0 a1_1 a1_2)) = some r := H
  have A6 := Aside0.mk A60
  clear A60
  by_cases c7 : t248 = true
  ·
   subst c7
   rw [if_pos rfl] at H
   replace H := Option.bind_eq_some_iff.mp H
   obtain ⟨t249, A80, H⟩ := H
   replace H : (if t249 = true then (platbookref03_Has.j0 k (a1_0 != a0_0) a0_0 a0_1 a0_2 a0_3 a1_0 a1_1 a1_2) else (platbookref03_Has.j0 k true a0_0 a0_1 a0_2 a0_3 a1_0 a1_1 a1_2)) = some r := H
   have A8 := Aside0.mk A80
   clear A80
   by_cases c9 : t249 = true
   ·
    subst c9
    rw [if_pos rfl] at H
    have H' := Aside0.mk H
    clear H
    have hnb10 := NB246_247.out
    have hnc10 := NB247_246.out
    obtain ⟨hcz11_0, hcz11_1, hcz11_2, hcz11_3, hfz11_0, hfz11_1, hfz11_2, hfz11_3⟩ := c4_ BK246
    go_wp2_with (first | ((with_reducible refine gate_callee (f := 29) rfl ?_); refine gl_ (some 6) Tryz.func29 #[.agg #[.bool a0_0, .int .u64 a0_1, .int .u64 a0_2, .int .i64 a0_3]] ?_; (with_reducible refine (platbookref03_Right.calls k a0_0 a0_1 a0_2 a0_3 true _ A6.out).mono ?_); rintro e w12 ⟨rfl, hb⟩; refine ⟨_, rfl, ?_⟩; replace BK246 := bb_ BK246 hb; replace BK247 := bb_ BK247 hb; replace HB := bs_ HB hb; (try clear hb); (try clear hb2); (try clear hk); (try clear hi); obtain ⟨hcz13_0, hcz13_1, hcz13_2, hfz13_0, hfz13_1, hfz13_2⟩ := c3_ BK247) | (go_at_call 19; (with_reducible refine (platbookref02_Right.calls a1_0 a1_1 a1_2 true _ A8.out).mono ?_); rintro e w14 ⟨rfl, hb⟩; replace BK246 := bb_ BK246 hb; replace BK247 := bb_ BK247 hb; replace HB := bs_ HB hb; (try clear hb); (try clear hb2); (try clear hk); (try clear hi); obtain ⟨hcz15_0, hcz15_1, hcz15_2, hfz15_0, hfz15_1, hfz15_2⟩ := c3_ BK247; obtain ⟨hcz16_0, hcz16_1, hcz16_2, hcz16_3, hfz16_0, hfz16_1, hfz16_2, hfz16_3⟩ := c4_ BK246))
    go_meet
    case rel => exact ⟨_, ((a1_0 != a0_0)), (by first | rfl | (simp; done) | (simp [*]; done)), H', ⟨by first | omega | exact Nat.le_refl _⟩, ⟨by refine pw_ ?_; exact BK246.out⟩, ⟨by refine pw_ ?_; exact BK247.out⟩, ⟨pb_ HB⟩⟩
   ·
    replace c9 := Bool.eq_false_iff.mpr c9
    subst c9
    have H1 : (platbookref03_Has.j0 k true a0_0 a0_1 a0_2 a0_3 a1_0 a1_1 a1_2) = some r := by rw [if_neg (show ¬ (false = true) by decide)] at H; exact H
    clear H
    have H := H1
    clear H1
    have H' := Aside0.mk H
    clear H
    have hnb17 := NB246_247.out
    have hnc17 := NB247_246.out
    obtain ⟨hcz18_0, hcz18_1, hcz18_2, hcz18_3, hfz18_0, hfz18_1, hfz18_2, hfz18_3⟩ := c4_ BK246
    go_wp2_with (first | ((with_reducible refine gate_callee (f := 29) rfl ?_); refine gl_ (some 6) Tryz.func29 #[.agg #[.bool a0_0, .int .u64 a0_1, .int .u64 a0_2, .int .i64 a0_3]] ?_; (with_reducible refine (platbookref03_Right.calls k a0_0 a0_1 a0_2 a0_3 true _ A6.out).mono ?_); rintro e w19 ⟨rfl, hb⟩; refine ⟨_, rfl, ?_⟩; replace BK246 := bb_ BK246 hb; replace BK247 := bb_ BK247 hb; replace HB := bs_ HB hb; (try clear hb); (try clear hb2); (try clear hk); (try clear hi); obtain ⟨hcz20_0, hcz20_1, hcz20_2, hfz20_0, hfz20_1, hfz20_2⟩ := c3_ BK247) | (go_at_call 19; (with_reducible refine (platbookref02_Right.calls a1_0 a1_1 a1_2 false _ A8.out).mono ?_); rintro e w21 ⟨rfl, hb⟩; replace BK246 := bb_ BK246 hb; replace BK247 := bb_ BK247 hb; replace HB := bs_ HB hb; (try clear hb); (try clear hb2); (try clear hk); (try clear hi)))
    go_meet
    case rel => exact ⟨_, (true), (by first | rfl | (simp; done) | (simp [*]; done)), H', ⟨by first | omega | exact Nat.le_refl _⟩, ⟨by refine pw_ ?_; exact BK246.out⟩, ⟨by refine pw_ ?_; exact BK247.out⟩, ⟨pb_ HB⟩⟩
  ·
   replace c7 := Bool.eq_false_iff.mpr c7
   subst c7
   have H1 : (platbookref03_Has.j0 k true a0_0 a0_1 a0_2 a0_3 a1_0 a1_1 a1_2) = some r := by rw [if_neg (show ¬ (false = true) by decide)] at H; exact H
   clear H
   have H := H1
   clear H1
   have H' := Aside0.mk H
   clear H
   have hnb22 := NB246_247.out
   have hnc22 := NB247_246.out
   obtain ⟨hcz23_0, hcz23_1, hcz23_2, hcz23_3, hfz23_0, hfz23_1, hfz23_2, hfz23_3⟩ := c4_ BK246
   go_wp2_with (first | ((with_reducible refine gate_callee (f := 29) rfl ?_); refine gl_ (some 6) Tryz.func29 #[.agg #[.bool a0_0, .int .u64 a0_1, .int .u64 a0_2, .int .i64 a0_3]] ?_; (with_reducible refine (platbookref03_Right.calls k a0_0 a0_1 a0_2 a0_3 false _ A6.out).mono ?_); rintro e w24 ⟨rfl, hb⟩; refine ⟨_, rfl, ?_⟩; replace BK246 := bb_ BK246 hb; replace BK247 := bb_ BK247 hb; replace HB := bs_ HB hb; (try clear hb); (try clear hb2); (try clear hk); (try clear hi)))
   go_meet
   case rel => exact ⟨_, (true), (by first | rfl | (simp; done) | (simp [*]; done)), H', ⟨by first | omega | exact Nat.le_refl _⟩, ⟨by refine pw_ ?_; exact BK246.out⟩, ⟨by refine pw_ ?_; exact BK247.out⟩, ⟨pb_ HB⟩⟩
 case rest =>
  clear HC3
  try clear c1
  try clear c2
  try clear p2
  try clear c4
  try clear c7
  try clear c9
  try clear c10
  try clear c17
  try clear c22
  try clear hcz11_0
  try clear hcz11_1
  try clear hcz11_2
  try clear hcz11_3
  try clear hcz13_0
  try clear hcz13_1
  try clear hcz13_2
  try clear hcz15_0
  try clear hcz15_1
  try clear hcz15_2
  try clear hcz16_0
  try clear hcz16_1
  try clear hcz16_2
  try clear hcz16_3
  try clear hcz18_0
  try clear hcz18_1
  try clear hcz18_2
  try clear hcz18_3
  try clear hcz20_0
  try clear hcz20_1
  try clear hcz20_2
  try clear hcz23_0
  try clear hcz23_1
  try clear hcz23_2
  try clear hcz23_3
  try clear hfz11_0
  try clear hfz11_1
  try clear hfz11_2
  try clear hfz11_3
  try clear hfz13_0
  try clear hfz13_1
  try clear hfz13_2
  try clear hfz15_0
  try clear hfz15_1
  try clear hfz15_2
  try clear hfz16_0
  try clear hfz16_1
  try clear hfz16_2
  try clear hfz16_3
  try clear hfz18_0
  try clear hfz18_1
  try clear hfz18_2
  try clear hfz18_3
  try clear hfz20_0
  try clear hfz20_1
  try clear hfz20_2
  try clear hfz23_0
  try clear hfz23_1
  try clear hfz23_2
  try clear hfz23_3
  obtain ⟨kq, x20_2, rfl, HA, HJ2, BK246, BK247, HB⟩ := hcut
  cases kq with
  | zero => exact absurd HA.out (by simp [platbookref03_Has.j0])
  | succ kj2 =>
   have H := HA.out
   clear HA
   simp only [platbookref03_Has.j0] at H
   by_cases c25 : x20_2 = true
   ·
    subst c25
    rw [if_pos rfl] at H
    obtain rfl := Option.some.inj H
    go_wp2
    go_ret
    exact ⟨by first | rfl | (simp [errW_none, errW_some] <;> rfl) | (simp [*, errW_none, errW_some] <;> rfl), pb_ HB⟩
   ·
    replace c25 := Bool.eq_false_iff.mpr c25
    subst c25
    have H1 : ((platbookref03_Row.f kj2 a0_0 a0_1 a0_2).bind fun t250 => ((platbookref03_Row.f kj2 a1_0 a1_1 a1_2).bind fun t253 => ((platbookref03_Alike.f kj2 t250 t253).bind fun t256 => (some (decide (t256 ≥ a0_3)))))) = some r := by rw [if_neg (show ¬ (false = true) by decide)] at H; exact H
    clear H
    have H := H1
    clear H1
    replace H := Option.bind_eq_some_iff.mp H
    obtain ⟨t250, A260, H⟩ := H
    replace H : ((platbookref03_Row.f kj2 a1_0 a1_1 a1_2).bind fun t253 => ((platbookref03_Alike.f kj2 t250 t253).bind fun t256 => (some (decide (t256 ≥ a0_3))))) = some r := H
    have A26 := Aside0.mk A260
    clear A260
    replace H := Option.bind_eq_some_iff.mp H
    obtain ⟨t253, A270, H⟩ := H
    replace H : ((platbookref03_Alike.f kj2 t250 t253).bind fun t256 => (some (decide (t256 ≥ a0_3)))) = some r := H
    have A27 := Aside0.mk A270
    clear A270
    replace H := Option.bind_eq_some_iff.mp H
    obtain ⟨t256, A280, H⟩ := H
    replace H : (some (decide (t256 ≥ a0_3))) = some r := H
    have A28 := Aside0.mk A280
    clear A280
    obtain rfl := Option.some.inj H
    try go_wp2
    replace BK246 := Aside0.mk (blk_drew BK246.out)
    replace BK247 := Aside0.mk (blk_drew BK247.out)
    replace HB := Aside0.mk (below_drew1 HB.out)
    refine start_ (n := 10) (S := fun w' => w'.cell? ⟨gb246, 0, none⟩ = some (.bool a0_0) ∧ w'.cell? ⟨gb246, 1, none⟩ = some (.int .u64 a0_1) ∧ w'.cell? ⟨gb246, 2, none⟩ = some (.int .u64 a0_2) ∧ w'.cell? ⟨gb246, 3, none⟩ = some (.int .i64 a0_3) ∧ w'.cell? ⟨gb247, 0, none⟩ = some (.bool a1_0) ∧ w'.cell? ⟨gb247, 1, none⟩ = some (.int .u64 a1_1) ∧ w'.cell? ⟨gb247, 2, none⟩ = some (.int .u64 a1_2)) (ds := []) (bm_ 10 0) (by kernel_rfl) rfl rfl ⟨kc_ BK246 0, kc_ BK246 1, kc_ BK246 2, kc_ BK246 3, kc_ BK247 0, kc_ BK247 1, kc_ BK247 2⟩ (fun hHeld => ?_); refine with_tabW platbookref03_Has.tab3 platbookref03_Has.bits3 (fun HT_ HW_ => ?_)
    generalize wc.drew = w29 at BK246 BK247 HB hHeld ⊢
    refine pu_ 0 (some 21) (bm_ 10 1) rfl HT_ ⟨by rfl, by intro w'; go_simp; with_reducible rfl⟩ ?_
    refine pu_ 6 (some 27) (bm_ 10 65) rfl HT_ ⟨by rfl, by intro w'; go_simp; with_reducible rfl⟩ ?_
    refine ta_ 1 (some 22) (bm_ 10 67) rfl HT_ HW_ ⟨by rfl, by rintro w' ⟨s0, s1, s2, s3, s4, s5, s6⟩; go_simp; with_reducible rfl⟩ hHeld ?_
    refine ta_ 3 (some 24) (bm_ 10 75) rfl HT_ HW_ ⟨by rfl, by rintro w' ⟨s0, s1, s2, s3, s4, s5, s6⟩; go_simp; with_reducible rfl⟩ hHeld ?_
    refine ta_ 7 (some 28) (bm_ 10 203) rfl HT_ HW_ ⟨by rfl, by rintro w' ⟨s0, s1, s2, s3, s4, s5, s6⟩; go_simp; with_reducible rfl⟩ hHeld ?_
    refine one_ (i := 2) (N := some 23) (bm_ 10 207) rfl rfl (one_of HT_.out (by kernel_rfl)) (by decide) (fun K hK => ?_)
    refine gr_ Tryz.func83 #[.agg #[.bool a0_0, .int .u64 a0_1, .int .u64 a0_2]] ?_
    with_reducible refine (platbookref03_Row.calls kj2 a0_0 a0_1 a0_2 t250 _ A26.out).mono ?_
    rintro e w30 ⟨v251, rfl, ho0, hb⟩
    refine ⟨_, rfl, ?_⟩
    have HO252 := Aside0.mk (Kd.R_lower ho0 (below_size (pb_ HB)))
    replace BK246 := bb_ BK246 hb
    replace BK247 := bb_ BK247 hb
    replace HB := bs_ HB hb
    (try clear hb)
    (try clear hb2)
    (try clear hk)
    (try clear hi)
    (try clear ho0)
    refine hK.out _ _ ⟨kc_ BK246 0, kc_ BK246 1, kc_ BK246 2, kc_ BK246 3, kc_ BK247 0, kc_ BK247 1, kc_ BK247 2⟩ (fun hHeld => ?_)
    clear hK K
    refine norm_ (a' := ?_) ?_ ?_
    rotate_left
    ·
     show Act.put _ (some 23) _ = _
     simp only [Act.put, List.setIfInBounds_toArray, List.set_cons_zero, List.set_cons_succ, i64_w, i32_w]
     rfl
    refine one_ (i := 4) (N := some 25) (bm_ 10 223) rfl rfl (one_of HT_.out (by kernel_rfl)) (by decide) (fun K hK => ?_)
    refine gr_ Tryz.func83 #[.agg #[.bool a1_0, .int .u64 a1_1, .int .u64 a1_2]] ?_
    with_reducible refine (platbookref03_Row.calls kj2 a1_0 a1_1 a1_2 t253 _ A27.out).mono ?_
    rintro e w31 ⟨v254, rfl, ho0, hb⟩
    refine ⟨_, rfl, ?_⟩
    have HO255 := Aside0.mk (Kd.R_lower (Kd.R_new' ho0 (Kd.R_lt (by (with_reducible repeat (first | apply Kd.R_alloc | apply Kd.R_drewN | apply Kd.R_drew)); exact HO252.out))) (below_size (pb_ HB)))
    replace HO252 := Aside0.mk (Kd.R_elder' (by (with_reducible repeat (first | apply Kd.R_alloc | apply Kd.R_drewN | apply Kd.R_drew)); exact HO252.out) (Kd.R_base ho0) hb)
    replace BK246 := bb_ BK246 hb
    replace BK247 := bb_ BK247 hb
    replace HB := bs_ HB hb
    (try clear hb)
    (try clear hb2)
    (try clear hk)
    (try clear hi)
    (try clear ho0)
    obtain ⟨Ao32, co32, eo32⟩ := Kd.R_slice HO252.out
    (first | subst eo32 | (injection eo32 with f1_ f2_ f3_; have f4_ := f1_.symm; have f5_ := f3_.symm; clear f1_ f2_ f3_; subst f4_; subst f5_))
    obtain ⟨Ao33, co33, eo33⟩ := Kd.R_slice HO255.out
    (first | subst eo33 | (injection eo33 with f1_ f2_ f3_; have f4_ := f1_.symm; have f5_ := f3_.symm; clear f1_ f2_ f3_; subst f4_; subst f5_))
    refine hK.out _ _ ⟨kc_ BK246 0, kc_ BK246 1, kc_ BK246 2, kc_ BK246 3, kc_ BK247 0, kc_ BK247 1, kc_ BK247 2⟩ (fun hHeld => ?_)
    clear hK K
    refine norm_ (a' := ?_) ?_ ?_
    rotate_left
    ·
     show Act.put _ (some 25) _ = _
     simp only [Act.put, List.setIfInBounds_toArray, List.set_cons_zero, List.set_cons_succ, i64_w, i32_w]
     rfl
    refine one_ (i := 5) (N := some 26) (bm_ 10 255) rfl rfl (one_of HT_.out (by kernel_rfl)) (by decide) (fun K hK => ?_)
    refine gr_ Tryz.func82 #[.slice Ao32 t250.length co32, .slice Ao33 t253.length co33] ?_
    with_reducible refine (platbookref03_Alike.calls kj2 _ _ t250 _ _ t253 t256 _ ?side1 ?side2 ?side3 ?side4 A28.out).mono ?_
    (case side1 => repeat (first | exact (Kd.R_reads' HO252.out).2.2 | (with_reducible refine Kd.C_alloc ?_ _) | (with_reducible refine Kd.C_drewN ?_ _) | (with_reducible refine Kd.C_drew ?_)))
    (case side2 => exact (Kd.R_reads' HO252.out).2.1)
    (case side3 => repeat (first | exact (Kd.R_reads' HO255.out).2.2 | (with_reducible refine Kd.C_alloc ?_ _) | (with_reducible refine Kd.C_drewN ?_ _) | (with_reducible refine Kd.C_drew ?_)))
    (case side4 => exact (Kd.R_reads' HO255.out).2.1)
    rintro e w' ⟨rfl, ⟨nd, rfl⟩⟩
    refine ⟨_, rfl, ?_⟩
    refine hK.out _ _ ⟨kc_ BK246 0, kc_ BK246 1, kc_ BK246 2, kc_ BK246 3, kc_ BK247 0, kc_ BK247 1, kc_ BK247 2⟩ (fun hHeld => ?_)
    clear hK K
    refine norm_ (a' := ?_) ?_ ?_
    rotate_left
    ·
     show Act.put _ (some 26) _ = _
     simp only [Act.put, List.setIfInBounds_toArray, List.set_cons_zero, List.set_cons_succ, i64_w, i32_w]
     rfl
    refine pu_ 8 (some 29) (bm_ 10 511) rfl HT_ ⟨by rfl, by intro w'; go_simp; with_reducible rfl⟩ ?_
    refine pu_ 9 (some 4) (bm_ 10 1023) rfl HT_ ⟨by rfl, by intro w'; go_simp; with_reducible rfl⟩ ?_
    refine done_ (done_of HT_.out (by kernel_rfl)) ?_
    try go_wp2
    go_ret
    exact ⟨by first | rfl | (simp [errW_none, errW_some] <;> rfl) | (simp [*, errW_none, errW_some] <;> rfl), pb_ HB⟩

def platbookref03_Within.f (k : Nat) (a0_0 : Bool) (a0_1 : Int) (a0_2 : Int) (a0_3 : Int) (a1_0 : Bool) (a1_1 : Int) (a1_2 : Int) (a1_3 : Int) : Option (Bool) := (platbookref03_Right.f k a0_0 a0_1 a0_2 a0_3).bind fun t259 => (if t259 = true then ((platbookref03_Right.f k a1_0 a1_1 a1_2 a1_3).bind fun t260 => (if t260 = true then ((platbookref03_Has.f k a1_0 a1_1 a1_2 a1_3 a0_0 a0_1 a0_2).bind fun t261 => (if t261 = true then ((platbookref03_Last.f k a0_0 a0_1 a0_2 a0_3).bind fun bt262 => ((platbookref03_Has.f k a1_0 a1_1 a1_2 a1_3 bt262.1 bt262.2.1 bt262.2.2).bind fun t265 => (some t265))) else (some false))) else (some false))) else (some false))
def platbookref03_Within.T1 : Bool × List (List Nat × List Nat) := (true, [([], []), ([0], [0]), ([1, 1], [1]), ([2], [2]), ([3, 2, 2], [2, 3]), ([2, 4], [2, 4]), ([5, 4], [5]), ([6], [6]), ([6], [6]), ([8, 6], [6, 8]), ([7, 9, 6, 6], [6, 7, 9]), ([6, 10], [6, 10]), ([11, 10], [11]), ([12], [12]), ([12], [12]), ([14, 12, 12], [12, 14]), ([13, 15, 15, 12], [12, 13, 15]), ([12, 16], [12, 16]), ([17, 16, 0, 1, 2, 3, 4, 5, 6, 7, 8, 9, 10, 11, 12, 13, 14, 15, 16, 17], [17])])
def platbookref03_Within.B1 : List Nat := [0, 1, 3, 7, 15, 31, 63, 127, 127, 383, 1023, 2047, 4095, 8191, 8191, 24575, 65535, 131071, 262143]
theorem platbookref03_Within.tab1 : rtab .any (opsOf Tryz.f42 1) = platbookref03_Within.T1 := by kernel_rfl
theorem platbookref03_Within.bits1 : waitsOk platbookref03_Within.T1.2 platbookref03_Within.B1 = true := by kernel_rfl
set_option maxHeartbeats 8000000 in
set_option maxRecDepth 100000 in
theorem platbookref03_Within.calls (k : Nat) (a0_0 : Bool) (a0_1 : Int) (a0_2 : Int) (a0_3 : Int) (a1_0 : Bool) (a1_1 : Int) (a1_2 : Int) (a1_3 : Int) (r : Bool) (w : World) (h : platbookref03_Within.f k a0_0 a0_1 a0_2 a0_3 a1_0 a1_1 a1_2 a1_3 = some r) :
  Calls Tryz.prog 42 #[.agg #[.bool a0_0, .int .u64 a0_1, .int .u64 a0_2, .int .i64 a0_3], .agg #[.bool a1_0, .int .u64 a1_1, .int .u64 a1_2, .int .i64 a1_3]] w fun e w' => e = .returned (.bool r) ∧ Below w.heap.size w w' := by
 have hu38 := Tryz.underlying38
 have hu26 := Tryz.underlying26
 have HB := Aside0.mk (Below.refl w.heap.size w)
 have H : ((platbookref03_Right.f k a0_0 a0_1 a0_2 a0_3).bind fun t259 => (if t259 = true then ((platbookref03_Right.f k a1_0 a1_1 a1_2 a1_3).bind fun t260 => (if t260 = true then ((platbookref03_Has.f k a1_0 a1_1 a1_2 a1_3 a0_0 a0_1 a0_2).bind fun t261 => (if t261 = true then ((platbookref03_Last.f k a0_0 a0_1 a0_2 a0_3).bind fun bt262 => ((platbookref03_Has.f k a1_0 a1_1 a1_2 a1_3 bt262.1 bt262.2.1 bt262.2.2).bind fun t265 => (some t265))) else (some false))) else (some false))) else (some false))) = some r := h
 clear h
 replace H := Option.bind_eq_some_iff.mp H
 obtain ⟨t259, A30, H⟩ := H
 replace H : (if t259 = true then ((platbookref03_Right.f k a1_0 a1_1 a1_2 a1_3).bind fun t260 => (if t260 = true then ((platbookref03_Has.f k a1_0 a1_1 a1_2 a1_3 a0_0 a0_1 a0_2).bind fun t261 => (if t261 = true then ((platbookref03_Last.f k a0_0 a0_1 a0_2 a0_3).bind fun bt262 => ((platbookref03_Has.f k a1_0 a1_1 a1_2 a1_3 bt262.1 bt262.2.1 bt262.2.2).bind fun t265 => (some t265))) else (some false))) else (some false))) else (some false)) = some r := H
 have A3 := Aside0.mk A30
 clear A30
 by_cases c4 : t259 = true
 ·
  subst c4
  rw [if_pos rfl] at H
  replace H := Option.bind_eq_some_iff.mp H
  obtain ⟨t260, A50, H⟩ := H
  replace H : (if t260 = true then ((platbookref03_Has.f k a1_0 a1_1 a1_2 a1_3 a0_0 a0_1 a0_2).bind fun t261 => (if t261 = true then ((platbookref03_Last.f k a0_0 a0_1 a0_2 a0_3).bind fun bt262 => ((platbookref03_Has.f k a1_0 a1_1 a1_2 a1_3 bt262.1 bt262.2.1 bt262.2.2).bind fun t265 => (some t265))) else (some false))) else (some false)) = some r := H
  have A5 := Aside0.mk A50
  clear A50
  by_cases c6 : t260 = true
  ·
   subst c6
   rw [if_pos rfl] at H
   replace H := Option.bind_eq_some_iff.mp H
   obtain ⟨t261, A70, H⟩ := H
   replace H : (if t261 = true then ((platbookref03_Last.f k a0_0 a0_1 a0_2 a0_3).bind fun bt262 => ((platbookref03_Has.f k a1_0 a1_1 a1_2 a1_3 bt262.1 bt262.2.1 bt262.2.2).bind fun t265 => (some t265))) else (some false)) = some r := H
   have A7 := Aside0.mk A70
   clear A70
   by_cases c8 : t261 = true
   ·
    subst c8
    rw [if_pos rfl] at H
    replace H := Option.bind_eq_some_iff.mp H
    obtain ⟨⟨t262, t263, t264⟩, A90, H⟩ := H
    replace H : ((platbookref03_Has.f k a1_0 a1_1 a1_2 a1_3 t262 t263 t264).bind fun t265 => (some t265)) = some r := H
    have A9 := Aside0.mk A90
    clear A90
    replace H := Option.bind_eq_some_iff.mp H
    obtain ⟨t265, A100, H⟩ := H
    replace H : (some t265) = some r := H
    have A10 := Aside0.mk A100
    clear A100
    obtain rfl := Option.some.inj H
    go_enter Tryz.func42, Tryz.ntmps42
    try go_wp2_with (first | ((with_reducible refine gate_dst (N := 2) rfl ?_); refine bx_ 2 #[.bool a0_0, .int .u64 a0_1, .int .u64 a0_2, .int .i64 a0_3] 38 ?_; intro gb257 hg w11 hbox hb; have BK257 := Aside0.mk (hbox); have GW257 := gw_ HB hg; have GE257 := gw_ HB hg; replace HB := bs_ HB hb; clear hb hbox hg) | ((with_reducible refine gate_dst (N := 3) rfl ?_); refine bx_ 3 #[.bool a1_0, .int .u64 a1_1, .int .u64 a1_2, .int .i64 a1_3] 38 ?_; intro gb258 hg w12 hbox hb; have BK258 := Aside0.mk (hbox); have GW258 := gw_ HB hg; have GE258 := gw_ HB hg; have NB257_258 := nl_ BK257 hg; have NB258_257 := ng_ BK257 hg; replace BK257 := bb_ BK257 hb; replace HB := bs_ HB hb; clear hb hbox hg))
    replace BK257 := Aside0.mk (blk_drew BK257.out)
    replace BK258 := Aside0.mk (blk_drew BK258.out)
    replace HB := Aside0.mk (below_drew1 HB.out)
    refine start_ (n := 19) (S := fun w' => w'.cell? ⟨gb257, 0, none⟩ = some (.bool a0_0) ∧ w'.cell? ⟨gb257, 1, none⟩ = some (.int .u64 a0_1) ∧ w'.cell? ⟨gb257, 2, none⟩ = some (.int .u64 a0_2) ∧ w'.cell? ⟨gb257, 3, none⟩ = some (.int .i64 a0_3) ∧ w'.cell? ⟨gb258, 0, none⟩ = some (.bool a1_0) ∧ w'.cell? ⟨gb258, 1, none⟩ = some (.int .u64 a1_1) ∧ w'.cell? ⟨gb258, 2, none⟩ = some (.int .u64 a1_2) ∧ w'.cell? ⟨gb258, 3, none⟩ = some (.int .i64 a1_3)) (ds := []) (bm_ 19 0) (by kernel_rfl) rfl rfl ⟨kc_ BK257 0, kc_ BK257 1, kc_ BK257 2, kc_ BK257 3, kc_ BK258 0, kc_ BK258 1, kc_ BK258 2, kc_ BK258 3⟩ (fun hHeld => ?_); refine with_tabW platbookref03_Within.tab1 platbookref03_Within.bits1 (fun HT_ HW_ => ?_)
    generalize w12.drew = w13 at BK257 BK258 HB hHeld ⊢
    refine ta_ 0 (some 5) (bm_ 19 1) rfl HT_ HW_ ⟨by rfl, by rintro w' ⟨s0, s1, s2, s3, s4, s5, s6, s7⟩; go_simp; with_reducible rfl⟩ hHeld ?_
    refine one_ (i := 1) (N := some 6) (bm_ 19 3) rfl rfl (one_of HT_.out (by kernel_rfl)) (by decide) (fun K hK => ?_)
    refine gr_ Tryz.func29 #[.agg #[.bool a0_0, .int .u64 a0_1, .int .u64 a0_2, .int .i64 a0_3]] ?_
    with_reducible refine (platbookref03_Right.calls k a0_0 a0_1 a0_2 a0_3 true _ A3.out).mono ?_
    rintro e w14 ⟨rfl, hb⟩
    refine ⟨_, rfl, ?_⟩
    replace BK257 := bb_ BK257 hb
    replace BK258 := bb_ BK258 hb
    replace HB := bs_ HB hb
    (try clear hb)
    (try clear hb2)
    (try clear hk)
    (try clear hi)
    refine hK.out _ _ ⟨kc_ BK257 0, kc_ BK257 1, kc_ BK257 2, kc_ BK257 3, kc_ BK258 0, kc_ BK258 1, kc_ BK258 2, kc_ BK258 3⟩ (fun hHeld => ?_)
    clear hK K
    refine norm_ (a' := ?_) ?_ ?_
    rotate_left
    ·
     show Act.put _ (some 6) _ = _
     simp only [Act.put, List.setIfInBounds_toArray, List.set_cons_zero, List.set_cons_succ, i64_w, i32_w]
     rfl
    refine pu_ 2 (some 7) (bm_ 19 7) rfl HT_ ⟨by rfl, by intro w'; go_simp; with_reducible rfl⟩ ?_
    refine ta_ 3 (some 8) (bm_ 19 15) rfl HT_ HW_ ⟨by rfl, by rintro w' ⟨s0, s1, s2, s3, s4, s5, s6, s7⟩; go_simp; with_reducible rfl⟩ hHeld ?_
    refine one_ (i := 4) (N := some 9) (bm_ 19 31) rfl rfl (one_of HT_.out (by kernel_rfl)) (by decide) (fun K hK => ?_)
    refine gr_ Tryz.func29 #[.agg #[.bool a1_0, .int .u64 a1_1, .int .u64 a1_2, .int .i64 a1_3]] ?_
    with_reducible refine (platbookref03_Right.calls k a1_0 a1_1 a1_2 a1_3 true _ A5.out).mono ?_
    rintro e w15 ⟨rfl, hb⟩
    refine ⟨_, rfl, ?_⟩
    replace BK257 := bb_ BK257 hb
    replace BK258 := bb_ BK258 hb
    replace HB := bs_ HB hb
    (try clear hb)
    (try clear hb2)
    (try clear hk)
    (try clear hi)
    refine hK.out _ _ ⟨kc_ BK257 0, kc_ BK257 1, kc_ BK257 2, kc_ BK257 3, kc_ BK258 0, kc_ BK258 1, kc_ BK258 2, kc_ BK258 3⟩ (fun hHeld => ?_)
    clear hK K
    refine norm_ (a' := ?_) ?_ ?_
    rotate_left
    ·
     show Act.put _ (some 9) _ = _
     simp only [Act.put, List.setIfInBounds_toArray, List.set_cons_zero, List.set_cons_succ, i64_w, i32_w]
     rfl
    refine pu_ 5 (some 10) (bm_ 19 63) rfl HT_ ⟨by rfl, by intro w'; go_simp; with_reducible rfl⟩ ?_
    refine pu_ 6 (some 11) (bm_ 19 127) rfl HT_ ⟨by rfl, by intro w'; go_simp; with_reducible rfl⟩ ?_
    refine pu_ 8 (some 13) (bm_ 19 383) rfl HT_ ⟨by rfl, by intro w'; go_simp; with_reducible rfl⟩ ?_
    refine ta_ 7 (some 12) (bm_ 19 511) rfl HT_ HW_ ⟨by rfl, by rintro w' ⟨s0, s1, s2, s3, s4, s5, s6, s7⟩; go_simp; with_reducible rfl⟩ hHeld ?_
    refine ta_ 9 (some 14) (bm_ 19 1023) rfl HT_ HW_ ⟨by rfl, by rintro w' ⟨s0, s1, s2, s3, s4, s5, s6, s7⟩; go_simp; with_reducible rfl⟩ hHeld ?_
    refine one_ (i := 10) (N := some 15) (bm_ 19 2047) rfl rfl (one_of HT_.out (by kernel_rfl)) (by decide) (fun K hK => ?_)
    refine gr_ Tryz.func41 #[.agg #[.bool a1_0, .int .u64 a1_1, .int .u64 a1_2, .int .i64 a1_3], .agg #[.bool a0_0, .int .u64 a0_1, .int .u64 a0_2]] ?_
    with_reducible refine (platbookref03_Has.calls k a1_0 a1_1 a1_2 a1_3 a0_0 a0_1 a0_2 true _ A7.out).mono ?_
    rintro e w16 ⟨rfl, hb⟩
    refine ⟨_, rfl, ?_⟩
    replace BK257 := bb_ BK257 hb
    replace BK258 := bb_ BK258 hb
    replace HB := bs_ HB hb
    (try clear hb)
    (try clear hb2)
    (try clear hk)
    (try clear hi)
    refine hK.out _ _ ⟨kc_ BK257 0, kc_ BK257 1, kc_ BK257 2, kc_ BK257 3, kc_ BK258 0, kc_ BK258 1, kc_ BK258 2, kc_ BK258 3⟩ (fun hHeld => ?_)
    clear hK K
    refine norm_ (a' := ?_) ?_ ?_
    rotate_left
    ·
     show Act.put _ (some 15) _ = _
     simp only [Act.put, List.setIfInBounds_toArray, List.set_cons_zero, List.set_cons_succ, i64_w, i32_w]
     rfl
    refine pu_ 11 (some 16) (bm_ 19 4095) rfl HT_ ⟨by rfl, by intro w'; go_simp; with_reducible rfl⟩ ?_
    refine pu_ 12 (some 17) (bm_ 19 8191) rfl HT_ ⟨by rfl, by intro w'; go_simp; with_reducible rfl⟩ ?_
    refine ta_ 13 (some 18) (bm_ 19 16383) rfl HT_ HW_ ⟨by rfl, by rintro w' ⟨s0, s1, s2, s3, s4, s5, s6, s7⟩; go_simp; with_reducible rfl⟩ hHeld ?_
    refine ta_ 14 (some 19) (bm_ 19 32767) rfl HT_ HW_ ⟨by rfl, by rintro w' ⟨s0, s1, s2, s3, s4, s5, s6, s7⟩; go_simp; with_reducible rfl⟩ hHeld ?_
    refine one_ (i := 15) (N := some 20) (bm_ 19 65535) rfl rfl (one_of HT_.out (by kernel_rfl)) (by decide) (fun K hK => ?_)
    refine gr_ Tryz.func39 #[.agg #[.bool a0_0, .int .u64 a0_1, .int .u64 a0_2, .int .i64 a0_3]] ?_
    with_reducible refine (platbookref03_Last.calls k a0_0 a0_1 a0_2 a0_3 t262 t263 t264 _ A9.out).mono ?_
    rintro e w17 ⟨rfl, hb⟩
    refine ⟨_, rfl, ?_⟩
    replace BK257 := bb_ BK257 hb
    replace BK258 := bb_ BK258 hb
    replace HB := bs_ HB hb
    (try clear hb)
    (try clear hb2)
    (try clear hk)
    (try clear hi)
    refine hK.out _ _ ⟨kc_ BK257 0, kc_ BK257 1, kc_ BK257 2, kc_ BK257 3, kc_ BK258 0, kc_ BK258 1, kc_ BK258 2, kc_ BK258 3⟩ (fun hHeld => ?_)
    clear hK K
    refine norm_ (a' := ?_) ?_ ?_
    rotate_left
    ·
     show Act.put _ (some 20) _ = _
     simp only [Act.put, List.setIfInBounds_toArray, List.set_cons_zero, List.set_cons_succ, i64_w, i32_w]
     rfl
    refine one_ (i := 16) (N := some 21) (bm_ 19 131071) rfl rfl (one_of HT_.out (by kernel_rfl)) (by decide) (fun K hK => ?_)
    refine gr_ Tryz.func41 #[.agg #[.bool a1_0, .int .u64 a1_1, .int .u64 a1_2, .int .i64 a1_3], .agg #[.bool t262, .int .u64 t263, .int .u64 t264]] ?_
    with_reducible refine (platbookref03_Has.calls k a1_0 a1_1 a1_2 a1_3 t262 t263 t264 t265 _ A10.out).mono ?_
    rintro e w18 ⟨rfl, hb⟩
    refine ⟨_, rfl, ?_⟩
    replace BK257 := bb_ BK257 hb
    replace BK258 := bb_ BK258 hb
    replace HB := bs_ HB hb
    (try clear hb)
    (try clear hb2)
    (try clear hk)
    (try clear hi)
    refine hK.out _ _ ⟨kc_ BK257 0, kc_ BK257 1, kc_ BK257 2, kc_ BK257 3, kc_ BK258 0, kc_ BK258 1, kc_ BK258 2, kc_ BK258 3⟩ (fun hHeld => ?_)
    clear hK K
    refine norm_ (a' := ?_) ?_ ?_
    rotate_left
    ·
     show Act.put _ (some 21) _ = _
     simp only [Act.put, List.setIfInBounds_toArray, List.set_cons_zero, List.set_cons_succ, i64_w, i32_w]
     rfl
    refine pu_ 17 (some 22) (bm_ 19 262143) rfl HT_ ⟨by rfl, by intro w'; go_simp; with_reducible rfl⟩ ?_
    refine pu_ 18 (some 4) (bm_ 19 524287) rfl HT_ ⟨by rfl, by intro w'; go_simp; with_reducible rfl⟩ ?_
    refine done_ (done_of HT_.out (by kernel_rfl)) ?_
    try go_wp2
    go_ret
    exact ⟨by first | rfl | (simp [errW_none, errW_some] <;> rfl) | (simp [*, errW_none, errW_some] <;> rfl), pb_ HB⟩
   ·
    replace c8 := Bool.eq_false_iff.mpr c8
    subst c8
    have H1 : (some false) = some r := by rw [if_neg (show ¬ (false = true) by decide)] at H; exact H
    clear H
    have H := H1
    clear H1
    obtain rfl := Option.some.inj H
    go_enter Tryz.func42, Tryz.ntmps42
    try go_wp2_with (first | ((with_reducible refine gate_dst (N := 2) rfl ?_); refine bx_ 2 #[.bool a0_0, .int .u64 a0_1, .int .u64 a0_2, .int .i64 a0_3] 38 ?_; intro gb257 hg w19 hbox hb; have BK257 := Aside0.mk (hbox); have GW257 := gw_ HB hg; have GE257 := gw_ HB hg; replace HB := bs_ HB hb; clear hb hbox hg) | ((with_reducible refine gate_dst (N := 3) rfl ?_); refine bx_ 3 #[.bool a1_0, .int .u64 a1_1, .int .u64 a1_2, .int .i64 a1_3] 38 ?_; intro gb258 hg w20 hbox hb; have BK258 := Aside0.mk (hbox); have GW258 := gw_ HB hg; have GE258 := gw_ HB hg; have NB257_258 := nl_ BK257 hg; have NB258_257 := ng_ BK257 hg; replace BK257 := bb_ BK257 hb; replace HB := bs_ HB hb; clear hb hbox hg))
    replace BK257 := Aside0.mk (blk_drew BK257.out)
    replace BK258 := Aside0.mk (blk_drew BK258.out)
    replace HB := Aside0.mk (below_drew1 HB.out)
    refine start_ (n := 19) (S := fun w' => w'.cell? ⟨gb257, 0, none⟩ = some (.bool a0_0) ∧ w'.cell? ⟨gb257, 1, none⟩ = some (.int .u64 a0_1) ∧ w'.cell? ⟨gb257, 2, none⟩ = some (.int .u64 a0_2) ∧ w'.cell? ⟨gb257, 3, none⟩ = some (.int .i64 a0_3) ∧ w'.cell? ⟨gb258, 0, none⟩ = some (.bool a1_0) ∧ w'.cell? ⟨gb258, 1, none⟩ = some (.int .u64 a1_1) ∧ w'.cell? ⟨gb258, 2, none⟩ = some (.int .u64 a1_2) ∧ w'.cell? ⟨gb258, 3, none⟩ = some (.int .i64 a1_3)) (ds := []) (bm_ 19 0) (by kernel_rfl) rfl rfl ⟨kc_ BK257 0, kc_ BK257 1, kc_ BK257 2, kc_ BK257 3, kc_ BK258 0, kc_ BK258 1, kc_ BK258 2, kc_ BK258 3⟩ (fun hHeld => ?_); refine with_tabW platbookref03_Within.tab1 platbookref03_Within.bits1 (fun HT_ HW_ => ?_)
    generalize w20.drew = w21 at BK257 BK258 HB hHeld ⊢
    refine ta_ 0 (some 5) (bm_ 19 1) rfl HT_ HW_ ⟨by rfl, by rintro w' ⟨s0, s1, s2, s3, s4, s5, s6, s7⟩; go_simp; with_reducible rfl⟩ hHeld ?_
    refine one_ (i := 1) (N := some 6) (bm_ 19 3) rfl rfl (one_of HT_.out (by kernel_rfl)) (by decide) (fun K hK => ?_)
    refine gr_ Tryz.func29 #[.agg #[.bool a0_0, .int .u64 a0_1, .int .u64 a0_2, .int .i64 a0_3]] ?_
    with_reducible refine (platbookref03_Right.calls k a0_0 a0_1 a0_2 a0_3 true _ A3.out).mono ?_
    rintro e w22 ⟨rfl, hb⟩
    refine ⟨_, rfl, ?_⟩
    replace BK257 := bb_ BK257 hb
    replace BK258 := bb_ BK258 hb
    replace HB := bs_ HB hb
    (try clear hb)
    (try clear hb2)
    (try clear hk)
    (try clear hi)
    refine hK.out _ _ ⟨kc_ BK257 0, kc_ BK257 1, kc_ BK257 2, kc_ BK257 3, kc_ BK258 0, kc_ BK258 1, kc_ BK258 2, kc_ BK258 3⟩ (fun hHeld => ?_)
    clear hK K
    refine norm_ (a' := ?_) ?_ ?_
    rotate_left
    ·
     show Act.put _ (some 6) _ = _
     simp only [Act.put, List.setIfInBounds_toArray, List.set_cons_zero, List.set_cons_succ, i64_w, i32_w]
     rfl
    refine pu_ 2 (some 7) (bm_ 19 7) rfl HT_ ⟨by rfl, by intro w'; go_simp; with_reducible rfl⟩ ?_
    refine ta_ 3 (some 8) (bm_ 19 15) rfl HT_ HW_ ⟨by rfl, by rintro w' ⟨s0, s1, s2, s3, s4, s5, s6, s7⟩; go_simp; with_reducible rfl⟩ hHeld ?_
    refine one_ (i := 4) (N := some 9) (bm_ 19 31) rfl rfl (one_of HT_.out (by kernel_rfl)) (by decide) (fun K hK => ?_)
    refine gr_ Tryz.func29 #[.agg #[.bool a1_0, .int .u64 a1_1, .int .u64 a1_2, .int .i64 a1_3]] ?_
    with_reducible refine (platbookref03_Right.calls k a1_0 a1_1 a1_2 a1_3 true _ A5.out).mono ?_
    rintro e w23 ⟨rfl, hb⟩
    refine ⟨_, rfl, ?_⟩
    replace BK257 := bb_ BK257 hb
    replace BK258 := bb_ BK258 hb
    replace HB := bs_ HB hb
    (try clear hb)
    (try clear hb2)
    (try clear hk)
    (try clear hi)
    refine hK.out _ _ ⟨kc_ BK257 0, kc_ BK257 1, kc_ BK257 2, kc_ BK257 3, kc_ BK258 0, kc_ BK258 1, kc_ BK258 2, kc_ BK258 3⟩ (fun hHeld => ?_)
    clear hK K
    refine norm_ (a' := ?_) ?_ ?_
    rotate_left
    ·
     show Act.put _ (some 9) _ = _
     simp only [Act.put, List.setIfInBounds_toArray, List.set_cons_zero, List.set_cons_succ, i64_w, i32_w]
     rfl
    refine pu_ 5 (some 10) (bm_ 19 63) rfl HT_ ⟨by rfl, by intro w'; go_simp; with_reducible rfl⟩ ?_
    refine pu_ 6 (some 11) (bm_ 19 127) rfl HT_ ⟨by rfl, by intro w'; go_simp; with_reducible rfl⟩ ?_
    refine pu_ 8 (some 13) (bm_ 19 383) rfl HT_ ⟨by rfl, by intro w'; go_simp; with_reducible rfl⟩ ?_
    refine ta_ 7 (some 12) (bm_ 19 511) rfl HT_ HW_ ⟨by rfl, by rintro w' ⟨s0, s1, s2, s3, s4, s5, s6, s7⟩; go_simp; with_reducible rfl⟩ hHeld ?_
    refine ta_ 9 (some 14) (bm_ 19 1023) rfl HT_ HW_ ⟨by rfl, by rintro w' ⟨s0, s1, s2, s3, s4, s5, s6, s7⟩; go_simp; with_reducible rfl⟩ hHeld ?_
    refine one_ (i := 10) (N := some 15) (bm_ 19 2047) rfl rfl (one_of HT_.out (by kernel_rfl)) (by decide) (fun K hK => ?_)
    refine gr_ Tryz.func41 #[.agg #[.bool a1_0, .int .u64 a1_1, .int .u64 a1_2, .int .i64 a1_3], .agg #[.bool a0_0, .int .u64 a0_1, .int .u64 a0_2]] ?_
    with_reducible refine (platbookref03_Has.calls k a1_0 a1_1 a1_2 a1_3 a0_0 a0_1 a0_2 false _ A7.out).mono ?_
    rintro e w24 ⟨rfl, hb⟩
    refine ⟨_, rfl, ?_⟩
    replace BK257 := bb_ BK257 hb
    replace BK258 := bb_ BK258 hb
    replace HB := bs_ HB hb
    (try clear hb)
    (try clear hb2)
    (try clear hk)
    (try clear hi)
    refine hK.out _ _ ⟨kc_ BK257 0, kc_ BK257 1, kc_ BK257 2, kc_ BK257 3, kc_ BK258 0, kc_ BK258 1, kc_ BK258 2, kc_ BK258 3⟩ (fun hHeld => ?_)
    clear hK K
    refine norm_ (a' := ?_) ?_ ?_
    rotate_left
    ·
     show Act.put _ (some 15) _ = _
     simp only [Act.put, List.setIfInBounds_toArray, List.set_cons_zero, List.set_cons_succ, i64_w, i32_w]
     rfl
    refine pu_ 11 (some 16) (bm_ 19 4095) rfl HT_ ⟨by rfl, by intro w'; go_simp; with_reducible rfl⟩ ?_
    refine pu_ 12 (some 17) (bm_ 19 8191) rfl HT_ ⟨by rfl, by intro w'; go_simp; with_reducible rfl⟩ ?_
    refine pure_ (i := 13) (N := some 18) (v := undef) (a' := ?_) (bm_ 19 16383) rfl rfl (any_of HT_.out (by kernel_rfl)) (fun _ _ _ h => h) (Or.inr ⟨by rfl, rfl⟩) ?_ ?_
    rotate_left
    ·
     simp only [Act.put, List.setIfInBounds_toArray, List.set_cons_zero, List.set_cons_succ, i64_w, i32_w]
     rfl
    refine pure_ (i := 14) (N := some 19) (v := undef) (a' := ?_) (bm_ 19 32767) rfl rfl (any_of HT_.out (by kernel_rfl)) (fun _ _ _ h => h) (Or.inr ⟨by rfl, rfl⟩) ?_ ?_
    rotate_left
    ·
     simp only [Act.put, List.setIfInBounds_toArray, List.set_cons_zero, List.set_cons_succ, i64_w, i32_w]
     rfl
    refine pure_ (i := 15) (N := some 20) (v := undef) (a' := ?_) (bm_ 19 65535) rfl rfl (any_of HT_.out (by kernel_rfl)) (fun _ _ _ h => h) (Or.inr ⟨by rfl, rfl⟩) ?_ ?_
    rotate_left
    ·
     simp only [Act.put, List.setIfInBounds_toArray, List.set_cons_zero, List.set_cons_succ, i64_w, i32_w]
     rfl
    refine pure_ (i := 16) (N := some 21) (v := undef) (a' := ?_) (bm_ 19 131071) rfl rfl (any_of HT_.out (by kernel_rfl)) (fun _ _ _ h => h) (Or.inr ⟨by rfl, rfl⟩) ?_ ?_
    rotate_left
    ·
     simp only [Act.put, List.setIfInBounds_toArray, List.set_cons_zero, List.set_cons_succ, i64_w, i32_w]
     rfl
    refine pu_ 17 (some 22) (bm_ 19 262143) rfl HT_ ⟨by rfl, by intro w'; go_simp; with_reducible rfl⟩ ?_
    refine pu_ 18 (some 4) (bm_ 19 524287) rfl HT_ ⟨by rfl, by intro w'; go_simp; with_reducible rfl⟩ ?_
    refine done_ (done_of HT_.out (by kernel_rfl)) ?_
    try go_wp2
    go_ret
    exact ⟨by first | rfl | (simp [errW_none, errW_some] <;> rfl) | (simp [*, errW_none, errW_some] <;> rfl), pb_ HB⟩
  ·
   replace c6 := Bool.eq_false_iff.mpr c6
   subst c6
   have H1 : (some false) = some r := by rw [if_neg (show ¬ (false = true) by decide)] at H; exact H
   clear H
   have H := H1
   clear H1
   obtain rfl := Option.some.inj H
   go_enter Tryz.func42, Tryz.ntmps42
   try go_wp2_with (first | ((with_reducible refine gate_dst (N := 2) rfl ?_); refine bx_ 2 #[.bool a0_0, .int .u64 a0_1, .int .u64 a0_2, .int .i64 a0_3] 38 ?_; intro gb257 hg w25 hbox hb; have BK257 := Aside0.mk (hbox); have GW257 := gw_ HB hg; have GE257 := gw_ HB hg; replace HB := bs_ HB hb; clear hb hbox hg) | ((with_reducible refine gate_dst (N := 3) rfl ?_); refine bx_ 3 #[.bool a1_0, .int .u64 a1_1, .int .u64 a1_2, .int .i64 a1_3] 38 ?_; intro gb258 hg w26 hbox hb; have BK258 := Aside0.mk (hbox); have GW258 := gw_ HB hg; have GE258 := gw_ HB hg; have NB257_258 := nl_ BK257 hg; have NB258_257 := ng_ BK257 hg; replace BK257 := bb_ BK257 hb; replace HB := bs_ HB hb; clear hb hbox hg))
   replace BK257 := Aside0.mk (blk_drew BK257.out)
   replace BK258 := Aside0.mk (blk_drew BK258.out)
   replace HB := Aside0.mk (below_drew1 HB.out)
   refine start_ (n := 19) (S := fun w' => w'.cell? ⟨gb257, 0, none⟩ = some (.bool a0_0) ∧ w'.cell? ⟨gb257, 1, none⟩ = some (.int .u64 a0_1) ∧ w'.cell? ⟨gb257, 2, none⟩ = some (.int .u64 a0_2) ∧ w'.cell? ⟨gb257, 3, none⟩ = some (.int .i64 a0_3) ∧ w'.cell? ⟨gb258, 0, none⟩ = some (.bool a1_0) ∧ w'.cell? ⟨gb258, 1, none⟩ = some (.int .u64 a1_1) ∧ w'.cell? ⟨gb258, 2, none⟩ = some (.int .u64 a1_2) ∧ w'.cell? ⟨gb258, 3, none⟩ = some (.int .i64 a1_3)) (ds := []) (bm_ 19 0) (by kernel_rfl) rfl rfl ⟨kc_ BK257 0, kc_ BK257 1, kc_ BK257 2, kc_ BK257 3, kc_ BK258 0, kc_ BK258 1, kc_ BK258 2, kc_ BK258 3⟩ (fun hHeld => ?_); refine with_tabW platbookref03_Within.tab1 platbookref03_Within.bits1 (fun HT_ HW_ => ?_)
   generalize w26.drew = w27 at BK257 BK258 HB hHeld ⊢
   refine ta_ 0 (some 5) (bm_ 19 1) rfl HT_ HW_ ⟨by rfl, by rintro w' ⟨s0, s1, s2, s3, s4, s5, s6, s7⟩; go_simp; with_reducible rfl⟩ hHeld ?_
   refine one_ (i := 1) (N := some 6) (bm_ 19 3) rfl rfl (one_of HT_.out (by kernel_rfl)) (by decide) (fun K hK => ?_)
   refine gr_ Tryz.func29 #[.agg #[.bool a0_0, .int .u64 a0_1, .int .u64 a0_2, .int .i64 a0_3]] ?_
   with_reducible refine (platbookref03_Right.calls k a0_0 a0_1 a0_2 a0_3 true _ A3.out).mono ?_
   rintro e w28 ⟨rfl, hb⟩
   refine ⟨_, rfl, ?_⟩
   replace BK257 := bb_ BK257 hb
   replace BK258 := bb_ BK258 hb
   replace HB := bs_ HB hb
   (try clear hb)
   (try clear hb2)
   (try clear hk)
   (try clear hi)
   refine hK.out _ _ ⟨kc_ BK257 0, kc_ BK257 1, kc_ BK257 2, kc_ BK257 3, kc_ BK258 0, kc_ BK258 1, kc_ BK258 2, kc_ BK258 3⟩ (fun hHeld => ?_)
   clear hK K
   refine norm_ (a' := ?_) ?_ ?_
   rotate_left
   ·
    show Act.put _ (some 6) _ = _
    simp only [Act.put, List.setIfInBounds_toArray, List.set_cons_zero, List.set_cons_succ, i64_w, i32_w]
    rfl
   refine pu_ 2 (some 7) (bm_ 19 7) rfl HT_ ⟨by rfl, by intro w'; go_simp; with_reducible rfl⟩ ?_
   refine ta_ 3 (some 8) (bm_ 19 15) rfl HT_ HW_ ⟨by rfl, by rintro w' ⟨s0, s1, s2, s3, s4, s5, s6, s7⟩; go_simp; with_reducible rfl⟩ hHeld ?_
   refine one_ (i := 4) (N := some 9) (bm_ 19 31) rfl rfl (one_of HT_.out (by kernel_rfl)) (by decide) (fun K hK => ?_)
   refine gr_ Tryz.func29 #[.agg #[.bool a1_0, .int .u64 a1_1, .int .u64 a1_2, .int .i64 a1_3]] ?_
   with_reducible refine (platbookref03_Right.calls k a1_0 a1_1 a1_2 a1_3 false _ A5.out).mono ?_
   rintro e w29 ⟨rfl, hb⟩
   refine ⟨_, rfl, ?_⟩
   replace BK257 := bb_ BK257 hb
   replace BK258 := bb_ BK258 hb
   replace HB := bs_ HB hb
   (try clear hb)
   (try clear hb2)
   (try clear hk)
   (try clear hi)
   refine hK.out _ _ ⟨kc_ BK257 0, kc_ BK257 1, kc_ BK257 2, kc_ BK257 3, kc_ BK258 0, kc_ BK258 1, kc_ BK258 2, kc_ BK258 3⟩ (fun hHeld => ?_)
   clear hK K
   refine norm_ (a' := ?_) ?_ ?_
   rotate_left
   ·
    show Act.put _ (some 9) _ = _
    simp only [Act.put, List.setIfInBounds_toArray, List.set_cons_zero, List.set_cons_succ, i64_w, i32_w]
    rfl
   refine pu_ 5 (some 10) (bm_ 19 63) rfl HT_ ⟨by rfl, by intro w'; go_simp; with_reducible rfl⟩ ?_
   refine pu_ 6 (some 11) (bm_ 19 127) rfl HT_ ⟨by rfl, by intro w'; go_simp; with_reducible rfl⟩ ?_
   refine pure_ (i := 7) (N := some 12) (v := undef) (a' := ?_) (bm_ 19 255) rfl rfl (any_of HT_.out (by kernel_rfl)) (fun _ _ _ h => h) (Or.inr ⟨by rfl, rfl⟩) ?_ ?_
   rotate_left
   ·
    simp only [Act.put, List.setIfInBounds_toArray, List.set_cons_zero, List.set_cons_succ, i64_w, i32_w]
    rfl
   refine pure_ (i := 8) (N := some 13) (v := undef) (a' := ?_) (bm_ 19 511) rfl rfl (any_of HT_.out (by kernel_rfl)) (fun _ _ _ h => h) (Or.inr ⟨by rfl, rfl⟩) ?_ ?_
   rotate_left
   ·
    simp only [Act.put, List.setIfInBounds_toArray, List.set_cons_zero, List.set_cons_succ, i64_w, i32_w]
    rfl
   refine pure_ (i := 9) (N := some 14) (v := undef) (a' := ?_) (bm_ 19 1023) rfl rfl (any_of HT_.out (by kernel_rfl)) (fun _ _ _ h => h) (Or.inr ⟨by rfl, rfl⟩) ?_ ?_
   rotate_left
   ·
    simp only [Act.put, List.setIfInBounds_toArray, List.set_cons_zero, List.set_cons_succ, i64_w, i32_w]
    rfl
   refine pure_ (i := 10) (N := some 15) (v := undef) (a' := ?_) (bm_ 19 2047) rfl rfl (any_of HT_.out (by kernel_rfl)) (fun _ _ _ h => h) (Or.inr ⟨by rfl, rfl⟩) ?_ ?_
   rotate_left
   ·
    simp only [Act.put, List.setIfInBounds_toArray, List.set_cons_zero, List.set_cons_succ, i64_w, i32_w]
    rfl
   refine pu_ 11 (some 16) (bm_ 19 4095) rfl HT_ ⟨by rfl, by intro w'; go_simp; with_reducible rfl⟩ ?_
   refine pu_ 12 (some 17) (bm_ 19 8191) rfl HT_ ⟨by rfl, by intro w'; go_simp; with_reducible rfl⟩ ?_
   refine pure_ (i := 13) (N := some 18) (v := undef) (a' := ?_) (bm_ 19 16383) rfl rfl (any_of HT_.out (by kernel_rfl)) (fun _ _ _ h => h) (Or.inr ⟨by rfl, rfl⟩) ?_ ?_
   rotate_left
   ·
    simp only [Act.put, List.setIfInBounds_toArray, List.set_cons_zero, List.set_cons_succ, i64_w, i32_w]
    rfl
   refine pure_ (i := 14) (N := some 19) (v := undef) (a' := ?_) (bm_ 19 32767) rfl rfl (any_of HT_.out (by kernel_rfl)) (fun _ _ _ h => h) (Or.inr ⟨by rfl, rfl⟩) ?_ ?_
   rotate_left
   ·
    simp only [Act.put, List.setIfInBounds_toArray, List.set_cons_zero, List.set_cons_succ, i64_w, i32_w]
    rfl
   refine pure_ (i := 15) (N := some 20) (v := undef) (a' := ?_) (bm_ 19 65535) rfl rfl (any_of HT_.out (by kernel_rfl)) (fun _ _ _ h => h) (Or.inr ⟨by rfl, rfl⟩) ?_ ?_
   rotate_left
   ·
    simp only [Act.put, List.setIfInBounds_toArray, List.set_cons_zero, List.set_cons_succ, i64_w, i32_w]
    rfl
   refine pure_ (i := 16) (N := some 21) (v := undef) (a' := ?_) (bm_ 19 131071) rfl rfl (any_of HT_.out (by kernel_rfl)) (fun _ _ _ h => h) (Or.inr ⟨by rfl, rfl⟩) ?_ ?_
   rotate_left
   ·
    simp only [Act.put, List.setIfInBounds_toArray, List.set_cons_zero, List.set_cons_succ, i64_w, i32_w]
    rfl
   refine pu_ 17 (some 22) (bm_ 19 262143) rfl HT_ ⟨by rfl, by intro w'; go_simp; with_reducible rfl⟩ ?_
   refine pu_ 18 (some 4) (bm_ 19 524287) rfl HT_ ⟨by rfl, by intro w'; go_simp; with_reducible rfl⟩ ?_
   refine done_ (done_of HT_.out (by kernel_rfl)) ?_
   try go_wp2
   go_ret
   exact ⟨by first | rfl | (simp [errW_none, errW_some] <;> rfl) | (simp [*, errW_none, errW_some] <;> rfl), pb_ HB⟩
 ·
  replace c4 := Bool.eq_false_iff.mpr c4
  subst c4
  have H1 : (some false) = some r := by rw [if_neg (show ¬ (false = true) by decide)] at H; exact H
  clear H
  have H := H1
  clear H1
  obtain rfl := Option.some.inj H
  go_enter Tryz.func42, Tryz.ntmps42
  try go_wp2_with (first | ((with_reducible refine gate_dst (N := 2) rfl ?_); refine bx_ 2 #[.bool a0_0, .int .u64 a0_1, .int .u64 a0_2, .int .i64 a0_3] 38 ?_; intro gb257 hg w30 hbox hb; have BK257 := Aside0.mk (hbox); have GW257 := gw_ HB hg; have GE257 := gw_ HB hg; replace HB := bs_ HB hb; clear hb hbox hg) | ((with_reducible refine gate_dst (N := 3) rfl ?_); refine bx_ 3 #[.bool a1_0, .int .u64 a1_1, .int .u64 a1_2, .int .i64 a1_3] 38 ?_; intro gb258 hg w31 hbox hb; have BK258 := Aside0.mk (hbox); have GW258 := gw_ HB hg; have GE258 := gw_ HB hg; have NB257_258 := nl_ BK257 hg; have NB258_257 := ng_ BK257 hg; replace BK257 := bb_ BK257 hb; replace HB := bs_ HB hb; clear hb hbox hg))
  replace BK257 := Aside0.mk (blk_drew BK257.out)
  replace BK258 := Aside0.mk (blk_drew BK258.out)
  replace HB := Aside0.mk (below_drew1 HB.out)
  refine start_ (n := 19) (S := fun w' => w'.cell? ⟨gb257, 0, none⟩ = some (.bool a0_0) ∧ w'.cell? ⟨gb257, 1, none⟩ = some (.int .u64 a0_1) ∧ w'.cell? ⟨gb257, 2, none⟩ = some (.int .u64 a0_2) ∧ w'.cell? ⟨gb257, 3, none⟩ = some (.int .i64 a0_3)) (ds := []) (bm_ 19 0) (by kernel_rfl) rfl rfl ⟨kc_ BK257 0, kc_ BK257 1, kc_ BK257 2, kc_ BK257 3⟩ (fun hHeld => ?_); refine with_tabW platbookref03_Within.tab1 platbookref03_Within.bits1 (fun HT_ HW_ => ?_)
  generalize w31.drew = w32 at BK257 BK258 HB hHeld ⊢
  refine ta_ 0 (some 5) (bm_ 19 1) rfl HT_ HW_ ⟨by rfl, by rintro w' ⟨s0, s1, s2, s3⟩; go_simp; with_reducible rfl⟩ hHeld ?_
  refine one_ (i := 1) (N := some 6) (bm_ 19 3) rfl rfl (one_of HT_.out (by kernel_rfl)) (by decide) (fun K hK => ?_)
  refine gr_ Tryz.func29 #[.agg #[.bool a0_0, .int .u64 a0_1, .int .u64 a0_2, .int .i64 a0_3]] ?_
  with_reducible refine (platbookref03_Right.calls k a0_0 a0_1 a0_2 a0_3 false _ A3.out).mono ?_
  rintro e w33 ⟨rfl, hb⟩
  refine ⟨_, rfl, ?_⟩
  replace BK257 := bb_ BK257 hb
  replace BK258 := bb_ BK258 hb
  replace HB := bs_ HB hb
  (try clear hb)
  (try clear hb2)
  (try clear hk)
  (try clear hi)
  refine hK.out _ _ ⟨kc_ BK257 0, kc_ BK257 1, kc_ BK257 2, kc_ BK257 3⟩ (fun hHeld => ?_)
  clear hK K
  refine norm_ (a' := ?_) ?_ ?_
  rotate_left
  ·
   show Act.put _ (some 6) _ = _
   simp only [Act.put, List.setIfInBounds_toArray, List.set_cons_zero, List.set_cons_succ, i64_w, i32_w]
   rfl
  refine pu_ 2 (some 7) (bm_ 19 7) rfl HT_ ⟨by rfl, by intro w'; go_simp; with_reducible rfl⟩ ?_
  refine pure_ (i := 3) (N := some 8) (v := undef) (a' := ?_) (bm_ 19 15) rfl rfl (any_of HT_.out (by kernel_rfl)) (fun _ _ _ h => h) (Or.inr ⟨by rfl, rfl⟩) ?_ ?_
  rotate_left
  ·
   simp only [Act.put, List.setIfInBounds_toArray, List.set_cons_zero, List.set_cons_succ, i64_w, i32_w]
   rfl
  refine pure_ (i := 4) (N := some 9) (v := undef) (a' := ?_) (bm_ 19 31) rfl rfl (any_of HT_.out (by kernel_rfl)) (fun _ _ _ h => h) (Or.inr ⟨by rfl, rfl⟩) ?_ ?_
  rotate_left
  ·
   simp only [Act.put, List.setIfInBounds_toArray, List.set_cons_zero, List.set_cons_succ, i64_w, i32_w]
   rfl
  refine pu_ 5 (some 10) (bm_ 19 63) rfl HT_ ⟨by rfl, by intro w'; go_simp; with_reducible rfl⟩ ?_
  refine pu_ 6 (some 11) (bm_ 19 127) rfl HT_ ⟨by rfl, by intro w'; go_simp; with_reducible rfl⟩ ?_
  refine pure_ (i := 7) (N := some 12) (v := undef) (a' := ?_) (bm_ 19 255) rfl rfl (any_of HT_.out (by kernel_rfl)) (fun _ _ _ h => h) (Or.inr ⟨by rfl, rfl⟩) ?_ ?_
  rotate_left
  ·
   simp only [Act.put, List.setIfInBounds_toArray, List.set_cons_zero, List.set_cons_succ, i64_w, i32_w]
   rfl
  refine pure_ (i := 8) (N := some 13) (v := undef) (a' := ?_) (bm_ 19 511) rfl rfl (any_of HT_.out (by kernel_rfl)) (fun _ _ _ h => h) (Or.inr ⟨by rfl, rfl⟩) ?_ ?_
  rotate_left
  ·
   simp only [Act.put, List.setIfInBounds_toArray, List.set_cons_zero, List.set_cons_succ, i64_w, i32_w]
   rfl
  refine pure_ (i := 9) (N := some 14) (v := undef) (a' := ?_) (bm_ 19 1023) rfl rfl (any_of HT_.out (by kernel_rfl)) (fun _ _ _ h => h) (Or.inr ⟨by rfl, rfl⟩) ?_ ?_
  rotate_left
  ·
   simp only [Act.put, List.setIfInBounds_toArray, List.set_cons_zero, List.set_cons_succ, i64_w, i32_w]
   rfl
  refine pure_ (i := 10) (N := some 15) (v := undef) (a' := ?_) (bm_ 19 2047) rfl rfl (any_of HT_.out (by kernel_rfl)) (fun _ _ _ h => h) (Or.inr ⟨by rfl, rfl⟩) ?_ ?_
  rotate_left
  ·
   simp only [Act.put, List.setIfInBounds_toArray, List.set_cons_zero, List.set_cons_succ, i64_w, i32_w]
   rfl
  refine pu_ 11 (some 16) (bm_ 19 4095) rfl HT_ ⟨by rfl, by intro w'; go_simp; with_reducible rfl⟩ ?_
  refine pu_ 12 (some 17) (bm_ 19 8191) rfl HT_ ⟨by rfl, by intro w'; go_simp; with_reducible rfl⟩ ?_
  refine pure_ (i := 13) (N := some 18) (v := undef) (a' := ?_) (bm_ 19 16383) rfl rfl (any_of HT_.out (by kernel_rfl)) (fun _ _ _ h => h) (Or.inr ⟨by rfl, rfl⟩) ?_ ?_
  rotate_left
  ·
   simp only [Act.put, List.setIfInBounds_toArray, List.set_cons_zero, List.set_cons_succ, i64_w, i32_w]
   rfl
  refine pure_ (i := 14) (N := some 19) (v := undef) (a' := ?_) (bm_ 19 32767) rfl rfl (any_of HT_.out (by kernel_rfl)) (fun _ _ _ h => h) (Or.inr ⟨by rfl, rfl⟩) ?_ ?_
  rotate_left
  ·
   simp only [Act.put, List.setIfInBounds_toArray, List.set_cons_zero, List.set_cons_succ, i64_w, i32_w]
   rfl
  refine pure_ (i := 15) (N := some 20) (v := undef) (a' := ?_) (bm_ 19 65535) rfl rfl (any_of HT_.out (by kernel_rfl)) (fun _ _ _ h => h) (Or.inr ⟨by rfl, rfl⟩) ?_ ?_
  rotate_left
  ·
   simp only [Act.put, List.setIfInBounds_toArray, List.set_cons_zero, List.set_cons_succ, i64_w, i32_w]
   rfl
  refine pure_ (i := 16) (N := some 21) (v := undef) (a' := ?_) (bm_ 19 131071) rfl rfl (any_of HT_.out (by kernel_rfl)) (fun _ _ _ h => h) (Or.inr ⟨by rfl, rfl⟩) ?_ ?_
  rotate_left
  ·
   simp only [Act.put, List.setIfInBounds_toArray, List.set_cons_zero, List.set_cons_succ, i64_w, i32_w]
   rfl
  refine pu_ 17 (some 22) (bm_ 19 262143) rfl HT_ ⟨by rfl, by intro w'; go_simp; with_reducible rfl⟩ ?_
  refine pu_ 18 (some 4) (bm_ 19 524287) rfl HT_ ⟨by rfl, by intro w'; go_simp; with_reducible rfl⟩ ?_
  refine done_ (done_of HT_.out (by kernel_rfl)) ?_
  try go_wp2
  go_ret
  exact ⟨by first | rfl | (simp [errW_none, errW_some] <;> rfl) | (simp [*, errW_none, errW_some] <;> rfl), pb_ HB⟩

def prefix_Overlap.f (k : Nat) (a0_0 : Bool) (a0_1 : Int) (a0_2 : Int) (a0_3 : Int) (a1_0 : Bool) (a1_1 : Int) (a1_2 : Int) (a1_3 : Int) : Option (Bool) := (prefix_Within.f k a0_0 a0_1 a0_2 a0_3 a1_0 a1_1 a1_2 a1_3).bind fun t268 => (if t268 = true then (some true) else ((prefix_Within.f k a1_0 a1_1 a1_2 a1_3 a0_0 a0_1 a0_2 a0_3).bind fun t269 => (some t269)))
set_option maxHeartbeats 8000000 in
set_option maxRecDepth 100000 in
theorem prefix_Overlap.calls (k : Nat) (a0_0 : Bool) (a0_1 : Int) (a0_2 : Int) (a0_3 : Int) (a1_0 : Bool) (a1_1 : Int) (a1_2 : Int) (a1_3 : Int) (r : Bool) (w : World) (h : prefix_Overlap.f k a0_0 a0_1 a0_2 a0_3 a1_0 a1_1 a1_2 a1_3 = some r) :
  Calls Tryz.prog 43 #[.agg #[.bool a0_0, .int .u64 a0_1, .int .u64 a0_2, .int .i64 a0_3], .agg #[.bool a1_0, .int .u64 a1_1, .int .u64 a1_2, .int .i64 a1_3]] w fun e w' => e = .returned (.bool r) ∧ Below w.heap.size w w' := by
 have hu38 := Tryz.underlying38
 have HB := Aside0.mk (Below.refl w.heap.size w)
 have H : ((prefix_Within.f k a0_0 a0_1 a0_2 a0_3 a1_0 a1_1 a1_2 a1_3).bind fun t268 => (if t268 = true then (some true) else ((prefix_Within.f k a1_0 a1_1 a1_2 a1_3 a0_0 a0_1 a0_2 a0_3).bind fun t269 => (some t269)))) = some r := h
 clear h
 replace H := Option.bind_eq_some_iff.mp H
 obtain ⟨t268, A30, H⟩ := H
 replace H : (if t268 = true then (some true) else ((prefix_Within.f k a1_0 a1_1 a1_2 a1_3 a0_0 a0_1 a0_2 a0_3).bind fun t269 => (some t269))) = some r := H
 have A3 := Aside0.mk A30
 clear A30
 by_cases c4 : t268 = true
 ·
  subst c4
  rw [if_pos rfl] at H
  obtain rfl := Option.some.inj H
  go_enter Tryz.func43, Tryz.ntmps43
  go_wp2_with (first | ((with_reducible refine gate_dst (N := 2) rfl ?_); refine bx_ 2 #[.bool a0_0, .int .u64 a0_1, .int .u64 a0_2, .int .i64 a0_3] 38 ?_; intro gb266 hg w5 hbox hb; have BK266 := Aside0.mk (hbox); have GW266 := gw_ HB hg; have GE266 := gw_ HB hg; replace HB := bs_ HB hb; clear hb hbox hg) | ((with_reducible refine gate_dst (N := 3) rfl ?_); refine bx_ 3 #[.bool a1_0, .int .u64 a1_1, .int .u64 a1_2, .int .i64 a1_3] 38 ?_; intro gb267 hg w6 hbox hb; have BK267 := Aside0.mk (hbox); have GW267 := gw_ HB hg; have GE267 := gw_ HB hg; have NB266_267 := nl_ BK266 hg; have NB267_266 := ng_ BK266 hg; replace BK266 := bb_ BK266 hb; replace HB := bs_ HB hb; clear hb hbox hg; have hnb7 := NB266_267.out; have hnc7 := NB267_266.out; obtain ⟨hcz8_0, hcz8_1, hcz8_2, hcz8_3, hfz8_0, hfz8_1, hfz8_2, hfz8_3⟩ := c4_ BK266; obtain ⟨hcz9_0, hcz9_1, hcz9_2, hcz9_3, hfz9_0, hfz9_1, hfz9_2, hfz9_3⟩ := c4_ BK267) | ((with_reducible refine gate_callee (f := 32) rfl ?_); refine gl_ (some 7) Tryz.func32 #[.agg #[.bool a0_0, .int .u64 a0_1, .int .u64 a0_2, .int .i64 a0_3], .agg #[.bool a1_0, .int .u64 a1_1, .int .u64 a1_2, .int .i64 a1_3]] ?_; (with_reducible refine (prefix_Within.calls k a0_0 a0_1 a0_2 a0_3 a1_0 a1_1 a1_2 a1_3 true _ A3.out).mono ?_); rintro e w10 ⟨rfl, hb⟩; refine ⟨_, rfl, ?_⟩; replace BK266 := bb_ BK266 hb; replace BK267 := bb_ BK267 hb; replace HB := bs_ HB hb; (try clear hb); (try clear hb2); (try clear hk); (try clear hi)))
  go_ret
  exact ⟨by first | rfl | (simp [errW_none, errW_some] <;> rfl) | (simp [*, errW_none, errW_some] <;> rfl), pb_ HB⟩
 ·
  replace c4 := Bool.eq_false_iff.mpr c4
  subst c4
  have H1 : ((prefix_Within.f k a1_0 a1_1 a1_2 a1_3 a0_0 a0_1 a0_2 a0_3).bind fun t269 => (some t269)) = some r := by rw [if_neg (show ¬ (false = true) by decide)] at H; exact H
  clear H
  have H := H1
  clear H1
  replace H := Option.bind_eq_some_iff.mp H
  obtain ⟨t269, A110, H⟩ := H
  replace H : (some t269) = some r := H
  have A11 := Aside0.mk A110
  clear A110
  obtain rfl := Option.some.inj H
  go_enter Tryz.func43, Tryz.ntmps43
  go_wp2_with (first | ((with_reducible refine gate_dst (N := 2) rfl ?_); refine bx_ 2 #[.bool a0_0, .int .u64 a0_1, .int .u64 a0_2, .int .i64 a0_3] 38 ?_; intro gb266 hg w12 hbox hb; have BK266 := Aside0.mk (hbox); have GW266 := gw_ HB hg; have GE266 := gw_ HB hg; replace HB := bs_ HB hb; clear hb hbox hg) | ((with_reducible refine gate_dst (N := 3) rfl ?_); refine bx_ 3 #[.bool a1_0, .int .u64 a1_1, .int .u64 a1_2, .int .i64 a1_3] 38 ?_; intro gb267 hg w13 hbox hb; have BK267 := Aside0.mk (hbox); have GW267 := gw_ HB hg; have GE267 := gw_ HB hg; have NB266_267 := nl_ BK266 hg; have NB267_266 := ng_ BK266 hg; replace BK266 := bb_ BK266 hb; replace HB := bs_ HB hb; clear hb hbox hg; have hnb14 := NB266_267.out; have hnc14 := NB267_266.out; obtain ⟨hcz15_0, hcz15_1, hcz15_2, hcz15_3, hfz15_0, hfz15_1, hfz15_2, hfz15_3⟩ := c4_ BK266; obtain ⟨hcz16_0, hcz16_1, hcz16_2, hcz16_3, hfz16_0, hfz16_1, hfz16_2, hfz16_3⟩ := c4_ BK267) | ((with_reducible refine gate_callee (f := 32) rfl ?_); refine gl_ (some 7) Tryz.func32 #[.agg #[.bool a0_0, .int .u64 a0_1, .int .u64 a0_2, .int .i64 a0_3], .agg #[.bool a1_0, .int .u64 a1_1, .int .u64 a1_2, .int .i64 a1_3]] ?_; (with_reducible refine (prefix_Within.calls k a0_0 a0_1 a0_2 a0_3 a1_0 a1_1 a1_2 a1_3 false _ A3.out).mono ?_); rintro e w17 ⟨rfl, hb⟩; refine ⟨_, rfl, ?_⟩; replace BK266 := bb_ BK266 hb; replace BK267 := bb_ BK267 hb; replace HB := bs_ HB hb; (try clear hb); (try clear hb2); (try clear hk); (try clear hi); obtain ⟨hcz18_0, hcz18_1, hcz18_2, hcz18_3, hfz18_0, hfz18_1, hfz18_2, hfz18_3⟩ := c4_ BK267; obtain ⟨hcz19_0, hcz19_1, hcz19_2, hcz19_3, hfz19_0, hfz19_1, hfz19_2, hfz19_3⟩ := c4_ BK266) | (go_at_call 32; (with_reducible refine (prefix_Within.calls k a1_0 a1_1 a1_2 a1_3 a0_0 a0_1 a0_2 a0_3 t269 _ A11.out).mono ?_); rintro e w20 ⟨rfl, hb⟩; replace BK266 := bb_ BK266 hb; replace BK267 := bb_ BK267 hb; replace HB := bs_ HB hb; (try clear hb); (try clear hb2); (try clear hk); (try clear hi)))
  go_ret
  exact ⟨by first | rfl | (simp [errW_none, errW_some] <;> rfl) | (simp [*, errW_none, errW_some] <;> rfl), pb_ HB⟩

end Go.Proofs.YtgdgklibilddgaaGreatDoor.PPr

namespace Go.Proofs.YtgdgklibilddgaaGreatDoor.PPr
open Go.RowKit Go.Proofs.YtgdgklibilddgaaGreatDoorW.PrintWords Go.Proofs.YtgdgklibilddgaaGreatDoorW.PrintLast Go.Proofs.YtgdgklibilddgaaGreatDoorW.PrintMore
attribute [local go_sem] max2_int min2_int max_two min_two max_three min_three max_four min_four   -- for this text's walks alone

def cmp_Or_int.l0 : Nat → Int → List Int → Int → Int → Option (Int)
 | 0, _, _, _, _ => none
 | k + 1, x3, x6, x7, x8 => if x8 < x7 then (if 0 ≤ x8 then (if x8 < (x6.length : Int) then (if (rd x6 x8) = x3 then (cmp_Or_int.l0 k x3 x6 x7 (wrap64 (x8 + 1))) else (some (rd x6 x8))) else (none)) else (none)) else (some x3)
def cmp_Or_int.f (k : Nat) (l0 : List Int) : Option (Int) := cmp_Or_int.l0 k 0 l0 (l0.length : Int) 0
set_option maxHeartbeats 8000000 in
set_option maxRecDepth 100000 in
theorem cmp_Or_int.calls (k : Nat) (A0 : Option Addr) (c0 : Nat) (l0 : List Int) (r : Int) (w : World) (hr0 : Kd.C (Kd.int .i64) w A0 l0.length l0) (hc0 : l0.length ≤ c0) (h : cmp_Or_int.f k l0 = some r) :
  Calls Tryz.prog 86 #[.slice A0 l0.length c0] w fun e w' => e = .returned (.int .i64 r) ∧ Drawn0 w w' := by
 have HR0 := Aside0.mk hr0
 have HC0 := Aside0.mk hc0
 clear hr0 hc0
 have H : (cmp_Or_int.l0 k 0 l0 (l0.length : Int) 0) = some r := h
 clear h
 have H' := Aside0.mk H
 clear H
 go_enter Tryz.func86, Tryz.ntmps86
 go_wp2
 go_loopg [8] k (fun kq v8 w' => ∃ (x8_1 : Int), v8 = .int .i64 x8_1 ∧ Aside0 (cmp_Or_int.l0 kq 0 l0 (l0.length : Int) x8_1 = some r) ∧ Aside0 (kq ≤ k) ∧ Drawn0 w w')
 case atStart => exact ⟨(0), (by first | rfl | (simp; done) | (simp [*]; done)), H', ⟨Nat.le_refl _⟩, by repeat (first | exact Drawn0.refl _ | apply Drawn0.step)⟩
 case round =>
  clear H'
  obtain ⟨x8_1, rfl, HA, HK1, ⟨m1, rfl⟩⟩ := hrel
  cases gk with
  | zero => exact absurd HA.out (by simp [cmp_Or_int.l0])
  | succ k1 =>
   have H := HA.out
   clear HA
   simp only [cmp_Or_int.l0] at H
   by_cases c2 : x8_1 < (l0.length : Int)
   ·
    rw [if_pos c2] at H
    have c2b0 : decide (x8_1 < (l0.length : Int)) = true := decide_eq_true c2
    clear c2
    by_cases c3 : 0 ≤ x8_1
    ·
     rw [if_pos c3] at H
     have c3b0 : decide (0 ≤ x8_1) = true := decide_eq_true c3
     clear c3
     by_cases c4 : x8_1 < (l0.length : Int)
     ·
      rw [if_pos c4] at H
      have c4b0 : decide (x8_1 < (l0.length : Int)) = true := decide_eq_true c4
      clear c4
      by_cases c5 : (rd l0 x8_1) = 0
      ·
       rw [if_pos c5] at H
       have c5b0 : ((rd l0 x8_1) == 0) = true := beq_iff_eq.mpr c5
       have c5b1 : ((rd l0 x8_1) != 0) = false := bne_eq_false_iff_eq.mpr c5
       clear c5
       have H' := Aside0.mk H
       clear H
       have p311 : 0 ≤ (x8_1 : Int) := of_decide_eq_true (by first | (with_reducible assumption) | assumption)
       have q311 : x8_1 < (l0.length : Int) := of_decide_eq_true (by first | (with_reducible assumption) | assumption)
       obtain ⟨ad311, e311, hx311_0⟩ := Kd.at_int HR0.out x8_1 p311 q311
       cases e311
       replace p311 := eq_true p311
       replace q311 := eq_true q311
       go_wp2
       go_roundg k1
       case measure => have := HK1.out; omega
       case rel => exact ⟨(wrap64 (x8_1 + 1)), (by first | rfl | (simp; done) | (simp [*]; done)), H', ⟨by have := HK1.out; omega⟩, by repeat (first | exact Drawn0.refl _ | apply Drawn0.step)⟩
      ·
       rw [if_neg c5] at H
       have c5b0 : ((rd l0 x8_1) == 0) = false := beq_eq_false_iff_ne.mpr c5
       have c5b1 : ((rd l0 x8_1) != 0) = true := bne_iff_ne.mpr c5
       obtain rfl := Option.some.inj H
       have p311 : 0 ≤ (x8_1 : Int) := of_decide_eq_true (by first | (with_reducible assumption) | assumption)
       have q311 : x8_1 < (l0.length : Int) := of_decide_eq_true (by first | (with_reducible assumption) | assumption)
       obtain ⟨ad311, e311, hx311_0⟩ := Kd.at_int HR0.out x8_1 p311 q311
       cases e311
       replace p311 := eq_true p311
       replace q311 := eq_true q311
       go_wp2
       go_ret
       exact ⟨by first | rfl | (simp; done) | (simp [*]; done), by repeat (first | exact Drawn0.refl _ | apply Drawn0.step)⟩
     ·
      rw [if_neg c4] at H
      exact absurd H (by simp)
    ·
     rw [if_neg c3] at H
     exact absurd H (by simp)
   ·
    rw [if_neg c2] at H
    have c2b0 : decide (x8_1 < (l0.length : Int)) = false := decide_eq_false c2
    clear c2
    obtain rfl := Option.some.inj H
    go_wp2
    go_ret
    exact ⟨by first | rfl | (simp; done) | (simp [*]; done), by repeat (first | exact Drawn0.refl _ | apply Drawn0.step)⟩

def cmp_isNaN_int.f (a0 : Int) : Option (Bool) := some (a0 != a0)
set_option maxHeartbeats 8000000 in
set_option maxRecDepth 100000 in
theorem cmp_isNaN_int.calls (a0 : Int) (r : Bool) (w : World) (h : cmp_isNaN_int.f a0 = some r) :
  Calls Tryz.prog 120 #[.int .i64 a0] w fun e w' => e = .returned (.bool r) ∧ Drawn0 w w' := by
 have H : (some (a0 != a0)) = some r := h
 clear h
 obtain rfl := Option.some.inj H
 go_enter Tryz.func120, Tryz.ntmps120
 go_wp2
 go_ret
 exact ⟨by first | rfl | (simp; done) | (simp [*]; done), by repeat (first | exact Drawn0.refl _ | apply Drawn0.step)⟩

def cmp_Compare_int.f (a0 : Int) (a1 : Int) : Option (Int) := (cmp_isNaN_int.f a0).bind fun t312 => ((cmp_isNaN_int.f a1).bind fun t313 => (if t312 = true then (if t313 = true then (some 0) else (some (-1))) else (if t313 = true then (some 1) else (if a0 < a1 then (some (-1)) else (if a0 > a1 then (some 1) else (some 0))))))
set_option maxHeartbeats 8000000 in
set_option maxRecDepth 100000 in
theorem cmp_Compare_int.calls (a0 : Int) (a1 : Int) (r : Int) (w : World) (h : cmp_Compare_int.f a0 a1 = some r) :
  Calls Tryz.prog 87 #[.int .i64 a0, .int .i64 a1] w fun e w' => e = .returned (.int .i64 r) ∧ Drawn0 w w' := by
 have H : ((cmp_isNaN_int.f a0).bind fun t312 => ((cmp_isNaN_int.f a1).bind fun t313 => (if t312 = true then (if t313 = true then (some 0) else (some (-1))) else (if t313 = true then (some 1) else (if a0 < a1 then (some (-1)) else (if a0 > a1 then (some 1) else (some 0))))))) = some r := h
 clear h
 replace H := Option.bind_eq_some_iff.mp H
 obtain ⟨t312, A30, H⟩ := H
 replace H : ((cmp_isNaN_int.f a1).bind fun t313 => (if t312 = true then (if t313 = true then (some 0) else (some (-1))) else (if t313 = true then (some 1) else (if a0 < a1 then (some (-1)) else (if a0 > a1 then (some 1) else (some 0)))))) = some r := H
 have A3 := Aside0.mk A30
 clear A30
 replace H := Option.bind_eq_some_iff.mp H
 obtain ⟨t313, A40, H⟩ := H
 replace H : (if t312 = true then (if t313 = true then (some 0) else (some (-1))) else (if t313 = true then (some 1) else (if a0 < a1 then (some (-1)) else (if a0 > a1 then (some 1) else (some 0))))) = some r := H
 have A4 := Aside0.mk A40
 clear A40
 by_cases c5 : t312 = true
 ·
  subst c5
  rw [if_pos rfl] at H
  by_cases c6 : t313 = true
  ·
   subst c6
   rw [if_pos rfl] at H
   obtain rfl := Option.some.inj H
   go_enter Tryz.func87, Tryz.ntmps87
   go_wp2_with (first | ((with_reducible refine gate_callee (f := 120) rfl ?_); refine gl_ (some 8) Tryz.func120 #[.int .i64 a0] ?_; (with_reducible refine (cmp_isNaN_int.calls a0 true _ A3.out).mono ?_); rintro e w' ⟨rfl, ⟨nd, rfl⟩⟩; refine ⟨_, rfl, ?_⟩) | ((with_reducible refine gate_callee (f := 120) rfl ?_); refine gl_ (some 10) Tryz.func120 #[.int .i64 a1] ?_; (with_reducible refine (cmp_isNaN_int.calls a1 true _ A4.out).mono ?_); rintro e w' ⟨rfl, ⟨nd, rfl⟩⟩; refine ⟨_, rfl, ?_⟩))
   go_ret
   exact ⟨by first | rfl | (simp; done) | (simp [*]; done), by repeat (first | exact Drawn0.refl _ | apply Drawn0.step)⟩
  ·
   replace c6 := Bool.eq_false_iff.mpr c6
   subst c6
   have H1 : (some (-1)) = some r := by rw [if_neg (show ¬ (false = true) by decide)] at H; exact H
   clear H
   have H := H1
   clear H1
   obtain rfl := Option.some.inj H
   go_enter Tryz.func87, Tryz.ntmps87
   go_wp2_with (first | ((with_reducible refine gate_callee (f := 120) rfl ?_); refine gl_ (some 8) Tryz.func120 #[.int .i64 a0] ?_; (with_reducible refine (cmp_isNaN_int.calls a0 true _ A3.out).mono ?_); rintro e w' ⟨rfl, ⟨nd, rfl⟩⟩; refine ⟨_, rfl, ?_⟩) | ((with_reducible refine gate_callee (f := 120) rfl ?_); refine gl_ (some 10) Tryz.func120 #[.int .i64 a1] ?_; (with_reducible refine (cmp_isNaN_int.calls a1 false _ A4.out).mono ?_); rintro e w' ⟨rfl, ⟨nd, rfl⟩⟩; refine ⟨_, rfl, ?_⟩))
   go_ret
   exact ⟨by first | rfl | (simp; done) | (simp [*]; done), by repeat (first | exact Drawn0.refl _ | apply Drawn0.step)⟩
 ·
  replace c5 := Bool.eq_false_iff.mpr c5
  subst c5
  have H1 : (if t313 = true then (some 1) else (if a0 < a1 then (some (-1)) else (if a0 > a1 then (some 1) else (some 0)))) = some r := by rw [if_neg (show ¬ (false = true) by decide)] at H; exact H
  clear H
  have H := H1
  clear H1
  by_cases c7 : t313 = true
  ·
   subst c7
   rw [if_pos rfl] at H
   obtain rfl := Option.some.inj H
   go_enter Tryz.func87, Tryz.ntmps87
   go_wp2_with (first | ((with_reducible refine gate_callee (f := 120) rfl ?_); refine gl_ (some 8) Tryz.func120 #[.int .i64 a0] ?_; (with_reducible refine (cmp_isNaN_int.calls a0 false _ A3.out).mono ?_); rintro e w' ⟨rfl, ⟨nd, rfl⟩⟩; refine ⟨_, rfl, ?_⟩) | ((with_reducible refine gate_callee (f := 120) rfl ?_); refine gl_ (some 10) Tryz.func120 #[.int .i64 a1] ?_; (with_reducible refine (cmp_isNaN_int.calls a1 true _ A4.out).mono ?_); rintro e w' ⟨rfl, ⟨nd, rfl⟩⟩; refine ⟨_, rfl, ?_⟩))
   go_ret
   exact ⟨by first | rfl | (simp; done) | (simp [*]; done), by repeat (first | exact Drawn0.refl _ | apply Drawn0.step)⟩
  ·
   replace c7 := Bool.eq_false_iff.mpr c7
   subst c7
   have H1 : (if a0 < a1 then (some (-1)) else (if a0 > a1 then (some 1) else (some 0))) = some r := by rw [if_neg (show ¬ (false = true) by decide)] at H; exact H
   clear H
   have H := H1
   clear H1
   by_cases c8 : a0 < a1
   ·
    rw [if_pos c8] at H
    have c8b0 : decide (a0 < a1) = true := decide_eq_true c8
    clear c8
    obtain rfl := Option.some.inj H
    go_enter Tryz.func87, Tryz.ntmps87
    go_wp2_with (first | ((with_reducible refine gate_callee (f := 120) rfl ?_); refine gl_ (some 8) Tryz.func120 #[.int .i64 a0] ?_; (with_reducible refine (cmp_isNaN_int.calls a0 false _ A3.out).mono ?_); rintro e w' ⟨rfl, ⟨nd, rfl⟩⟩; refine ⟨_, rfl, ?_⟩) | ((with_reducible refine gate_callee (f := 120) rfl ?_); refine gl_ (some 10) Tryz.func120 #[.int .i64 a1] ?_; (with_reducible refine (cmp_isNaN_int.calls a1 false _ A4.out).mono ?_); rintro e w' ⟨rfl, ⟨nd, rfl⟩⟩; refine ⟨_, rfl, ?_⟩))
    go_ret
    exact ⟨by first | rfl | (simp; done) | (simp [*]; done), by repeat (first | exact Drawn0.refl _ | apply Drawn0.step)⟩
   ·
    rw [if_neg c8] at H
    have c8b0 : decide (a0 < a1) = false := decide_eq_false c8
    clear c8
    by_cases c9 : a0 > a1
    ·
     rw [if_pos c9] at H
     have c9b0 : decide (a1 < a0) = true := decide_eq_true c9
     clear c9
     obtain rfl := Option.some.inj H
     go_enter Tryz.func87, Tryz.ntmps87
     go_wp2_with (first | ((with_reducible refine gate_callee (f := 120) rfl ?_); refine gl_ (some 8) Tryz.func120 #[.int .i64 a0] ?_; (with_reducible refine (cmp_isNaN_int.calls a0 false _ A3.out).mono ?_); rintro e w' ⟨rfl, ⟨nd, rfl⟩⟩; refine ⟨_, rfl, ?_⟩) | ((with_reducible refine gate_callee (f := 120) rfl ?_); refine gl_ (some 10) Tryz.func120 #[.int .i64 a1] ?_; (with_reducible refine (cmp_isNaN_int.calls a1 false _ A4.out).mono ?_); rintro e w' ⟨rfl, ⟨nd, rfl⟩⟩; refine ⟨_, rfl, ?_⟩))
     go_ret
     exact ⟨by first | rfl | (simp; done) | (simp [*]; done), by repeat (first | exact Drawn0.refl _ | apply Drawn0.step)⟩
    ·
     rw [if_neg c9] at H
     have c9b0 : decide (a1 < a0) = false := decide_eq_false c9
     clear c9
     obtain rfl := Option.some.inj H
     go_enter Tryz.func87, Tryz.ntmps87
     go_wp2_with (first | ((with_reducible refine gate_callee (f := 120) rfl ?_); refine gl_ (some 8) Tryz.func120 #[.int .i64 a0] ?_; (with_reducible refine (cmp_isNaN_int.calls a0 false _ A3.out).mono ?_); rintro e w' ⟨rfl, ⟨nd, rfl⟩⟩; refine ⟨_, rfl, ?_⟩) | ((with_reducible refine gate_callee (f := 120) rfl ?_); refine gl_ (some 10) Tryz.func120 #[.int .i64 a1] ?_; (with_reducible refine (cmp_isNaN_int.calls a1 false _ A4.out).mono ?_); rintro e w' ⟨rfl, ⟨nd, rfl⟩⟩; refine ⟨_, rfl, ?_⟩))
     go_ret
     exact ⟨by first | rfl | (simp; done) | (simp [*]; done), by repeat (first | exact Drawn0.refl _ | apply Drawn0.step)⟩

def prefix_Cmp.f (k : Nat) (a0_0 : Bool) (a0_1 : Int) (a0_2 : Int) (a0_3 : Int) (a1_0 : Bool) (a1_1 : Int) (a1_2 : Int) (a1_3 : Int) : Option (Int) := (addr_Cmp.f a0_0 a0_1 a0_2 a1_0 a1_1 a1_2).bind fun t316 => ((cmp_Compare_int.f a0_3 a1_3).bind fun t317 => ((cmp_Or_int.f k (([t316, t317] : List Int))).bind fun t321 => (some t321)))
def prefix_Cmp.T1 : Bool × List (List Nat × List Nat) := (true, [([], []), ([0], [0]), ([], []), ([2], [2]), ([1, 3], [1, 3]), ([], []), ([5], [5]), ([], []), ([7], [7]), ([6, 8, 4], [6, 8]), ([4, 9], [4, 9]), ([10, 9], [10]), ([11, 11, 0, 1, 2, 3, 4, 5, 6, 7, 8, 9, 10, 11], [11])])
def prefix_Cmp.B1 : List Nat := [0, 1, 0, 4, 15, 0, 32, 0, 128, 511, 1023, 2047, 4095]
theorem prefix_Cmp.tab1 : rtab .any (opsOf Tryz.f45 1) = prefix_Cmp.T1 := by kernel_rfl
theorem prefix_Cmp.bits1 : waitsOk prefix_Cmp.T1.2 prefix_Cmp.B1 = true := by kernel_rfl
set_option maxHeartbeats 8000000 in
set_option maxRecDepth 100000 in
theorem prefix_Cmp.calls (k : Nat) (a0_0 : Bool) (a0_1 : Int) (a0_2 : Int) (a0_3 : Int) (a1_0 : Bool) (a1_1 : Int) (a1_2 : Int) (a1_3 : Int) (r : Int) (w : World) (h : prefix_Cmp.f k a0_0 a0_1 a0_2 a0_3 a1_0 a1_1 a1_2 a1_3 = some r) :
  Calls Tryz.prog 45 #[.agg #[.bool a0_0, .int .u64 a0_1, .int .u64 a0_2, .int .i64 a0_3], .agg #[.bool a1_0, .int .u64 a1_1, .int .u64 a1_2, .int .i64 a1_3]] w fun e w' => e = .returned (.int .i64 r) ∧ Below w.heap.size w w' := by
 have hu38 := Tryz.underlying38
 have hu26 := Tryz.underlying26
 have HB := Aside0.mk (Below.refl w.heap.size w)
 have H : ((addr_Cmp.f a0_0 a0_1 a0_2 a1_0 a1_1 a1_2).bind fun t316 => ((cmp_Compare_int.f a0_3 a1_3).bind fun t317 => ((cmp_Or_int.f k (([t316, t317] : List Int))).bind fun t321 => (some t321)))) = some r := h
 clear h
 replace H := Option.bind_eq_some_iff.mp H
 obtain ⟨t316, A30, H⟩ := H
 replace H : ((cmp_Compare_int.f a0_3 a1_3).bind fun t317 => ((cmp_Or_int.f k (([t316, t317] : List Int))).bind fun t321 => (some t321))) = some r := H
 have A3 := Aside0.mk A30
 clear A30
 replace H := Option.bind_eq_some_iff.mp H
 obtain ⟨t317, A40, H⟩ := H
 replace H : ((cmp_Or_int.f k (([t316, t317] : List Int))).bind fun t321 => (some t321)) = some r := H
 have A4 := Aside0.mk A40
 clear A40
 obtain ⟨y318, hy318⟩ : ∃ y_ : List Int, y_ = (([t316, t317] : List Int)) := ⟨_, rfl⟩
 replace H : ((cmp_Or_int.f k y318).bind fun t321 => (some t321)) = some r := by first | (rw [hy318]; with_reducible exact H) | (have H2_ := (Option.bind_some _ _).symm.trans H; rw [hy318]; with_reducible exact H2_) | (have H2_ := (Option.bind_some _ _).symm.trans H; with_reducible exact H2_) | with_reducible exact H | (rw [hy318]; exact H) | exact H
 have Ny318 := Aside0.mk hy318
 clear hy318
 replace H := Option.bind_eq_some_iff.mp H
 obtain ⟨t321, A50, H⟩ := H
 replace H : (some t321) = some r := H
 have A5 := Aside0.mk A50
 clear A50
 obtain rfl := Option.some.inj H
 go_enter Tryz.func45, Tryz.ntmps45
 try go_wp2_with (first | ((with_reducible refine gate_dst (N := 2) rfl ?_); refine bx_ 2 #[.bool a0_0, .int .u64 a0_1, .int .u64 a0_2, .int .i64 a0_3] 38 ?_; intro gb314 hg w6 hbox hb; have BK314 := Aside0.mk (hbox); have GW314 := gw_ HB hg; have GE314 := gw_ HB hg; replace HB := bs_ HB hb; clear hb hbox hg) | ((with_reducible refine gate_dst (N := 3) rfl ?_); refine bx_ 3 #[.bool a1_0, .int .u64 a1_1, .int .u64 a1_2, .int .i64 a1_3] 38 ?_; intro gb315 hg w7 hbox hb; have BK315 := Aside0.mk (hbox); have GW315 := gw_ HB hg; have GE315 := gw_ HB hg; have NB314_315 := nl_ BK314 hg; have NB315_314 := ng_ BK314 hg; replace BK314 := bb_ BK314 hb; replace HB := bs_ HB hb; clear hb hbox hg))
 replace BK314 := Aside0.mk (blk_drew BK314.out)
 replace BK315 := Aside0.mk (blk_drew BK315.out)
 replace HB := Aside0.mk (below_drew1 HB.out)
 refine start_ (n := 13) (S := fun w' => w'.cell? ⟨gb314, 0, none⟩ = some (.bool a0_0) ∧ w'.cell? ⟨gb314, 1, none⟩ = some (.int .u64 a0_1) ∧ w'.cell? ⟨gb314, 2, none⟩ = some (.int .u64 a0_2) ∧ w'.cell? ⟨gb314, 3, none⟩ = some (.int .i64 a0_3) ∧ w'.cell? ⟨gb315, 0, none⟩ = some (.bool a1_0) ∧ w'.cell? ⟨gb315, 1, none⟩ = some (.int .u64 a1_1) ∧ w'.cell? ⟨gb315, 2, none⟩ = some (.int .u64 a1_2) ∧ w'.cell? ⟨gb315, 3, none⟩ = some (.int .i64 a1_3)) (ds := []) (bm_ 13 0) (by kernel_rfl) rfl rfl ⟨kc_ BK314 0, kc_ BK314 1, kc_ BK314 2, kc_ BK314 3, kc_ BK315 0, kc_ BK315 1, kc_ BK315 2, kc_ BK315 3⟩ (fun hHeld => ?_); refine with_tabW prefix_Cmp.tab1 prefix_Cmp.bits1 (fun HT_ HW_ => ?_)
 generalize w7.drew = w8 at BK314 BK315 HB hHeld ⊢
 refine pu_ 0 (some 5) (bm_ 13 1) rfl HT_ ⟨by rfl, by intro w'; go_simp; with_reducible rfl⟩ ?_
 refine pu_ 2 (some 7) (bm_ 13 5) rfl HT_ ⟨by rfl, by intro w'; go_simp; with_reducible rfl⟩ ?_
 refine pu_ 5 (some 10) (bm_ 13 37) rfl HT_ ⟨by rfl, by intro w'; go_simp; with_reducible rfl⟩ ?_
 refine pu_ 7 (some 12) (bm_ 13 165) rfl HT_ ⟨by rfl, by intro w'; go_simp; with_reducible rfl⟩ ?_
 refine ta_ 1 (some 6) (bm_ 13 167) rfl HT_ HW_ ⟨by rfl, by rintro w' ⟨s0, s1, s2, s3, s4, s5, s6, s7⟩; go_simp; with_reducible rfl⟩ hHeld ?_
 refine ta_ 3 (some 8) (bm_ 13 175) rfl HT_ HW_ ⟨by rfl, by rintro w' ⟨s0, s1, s2, s3, s4, s5, s6, s7⟩; go_simp; with_reducible rfl⟩ hHeld ?_
 refine ta_ 6 (some 11) (bm_ 13 239) rfl HT_ HW_ ⟨by rfl, by rintro w' ⟨s0, s1, s2, s3, s4, s5, s6, s7⟩; go_simp; with_reducible rfl⟩ hHeld ?_
 refine ta_ 8 (some 13) (bm_ 13 495) rfl HT_ HW_ ⟨by rfl, by rintro w' ⟨s0, s1, s2, s3, s4, s5, s6, s7⟩; go_simp; with_reducible rfl⟩ hHeld ?_
 refine one_ (i := 4) (N := some 9) (bm_ 13 511) rfl rfl (one_of HT_.out (by kernel_rfl)) (by decide) (fun K hK => ?_)
 refine gr_ Tryz.func20 #[.agg #[.bool a0_0, .int .u64 a0_1, .int .u64 a0_2], .agg #[.bool a1_0, .int .u64 a1_1, .int .u64 a1_2]] ?_
 with_reducible refine (addr_Cmp.calls a0_0 a0_1 a0_2 a1_0 a1_1 a1_2 t316 _ A3.out).mono ?_
 rintro e w9 ⟨rfl, hb⟩
 refine ⟨_, rfl, ?_⟩
 replace BK314 := bb_ BK314 hb
 replace BK315 := bb_ BK315 hb
 replace HB := bs_ HB hb
 (try clear hb)
 (try clear hb2)
 (try clear hk)
 (try clear hi)
 refine hK.out _ _ ⟨kc_ BK314 0, kc_ BK314 1, kc_ BK314 2, kc_ BK314 3, kc_ BK315 0, kc_ BK315 1, kc_ BK315 2, kc_ BK315 3⟩ (fun hHeld => ?_)
 clear hK K
 refine norm_ (a' := ?_) ?_ ?_
 rotate_left
 ·
  show Act.put _ (some 9) _ = _
  simp only [Act.put, List.setIfInBounds_toArray, List.set_cons_zero, List.set_cons_succ, i64_w, i32_w]
  rfl
 refine one_ (i := 9) (N := some 14) (bm_ 13 1023) rfl rfl (one_of HT_.out (by kernel_rfl)) (by decide) (fun K hK => ?_)
 refine gr_ Tryz.func87 #[.int .i64 a0_3, .int .i64 a1_3] ?_
 with_reducible refine (cmp_Compare_int.calls a0_3 a1_3 t317 _ A4.out).mono ?_
 rintro e w' ⟨rfl, ⟨nd, rfl⟩⟩
 refine ⟨_, rfl, ?_⟩
 refine hK.out _ _ ⟨kc_ BK314 0, kc_ BK314 1, kc_ BK314 2, kc_ BK314 3, kc_ BK315 0, kc_ BK315 1, kc_ BK315 2, kc_ BK315 3⟩ (fun hHeld => ?_)
 clear hK K
 refine norm_ (a' := ?_) ?_ ?_
 rotate_left
 ·
  show Act.put _ (some 14) _ = _
  simp only [Act.put, List.setIfInBounds_toArray, List.set_cons_zero, List.set_cons_succ, i64_w, i32_w]
  rfl
 refine one_ (i := 10) (N := some 15) (bm_ 13 2047) rfl rfl (one_of HT_.out (by kernel_rfl)) (by decide) (fun K hK => ?_)
 refine Kd.R_lit_step (Kd.int .i64) _ 3 ?hg (N := 15) ?hd (xs := ([t316, t317] : List Int)) (inner := [.int .i64 t316, .int .i64 t317]) (ok := fun _ => True) (okp := fun _ => True) ?hr ?hp (fun _ hk => hk) trivial (Below.refl _ _) (Nat.le_refl _) (by simp) ?_; (case hd => rfl); (case hg => rfl); (case hr => first | (go_simp; done) | (go_simp; rfl)); (case hp => exact (Reps.one (show Kd.M (Kd.int .i64) _ _ _ t316 [.int .i64 t316] from rfl) (Reps.one (show Kd.M (Kd.int .i64) _ _ _ t317 [.int .i64 t317] from rfl) (Reps.none _ _))))
 intro v319 w10 ho11 hb hg_ hnew_
 clear hg_ hnew_
 (first | rw [← Ny318.out] at ho11 | (simp only [Int.reduceToNat] at ho11; rw [← Ny318.out] at ho11))
 have HO320 := Aside0.mk (Kd.R_lower ho11 (below_size (pb_ HB)))
 replace BK314 := bb_ BK314 hb
 replace BK315 := bb_ BK315 hb
 replace HB := bs_ HB hb
 clear hb ho11
 obtain ⟨Ao12, co12, eo12⟩ := Kd.R_slice HO320.out
 (first | subst eo12 | (injection eo12 with f1_ f2_ f3_; have f4_ := f1_.symm; have f5_ := f3_.symm; clear f1_ f2_ f3_; subst f4_; subst f5_))
 refine hK.out _ _ ⟨kc_ BK314 0, kc_ BK314 1, kc_ BK314 2, kc_ BK314 3, kc_ BK315 0, kc_ BK315 1, kc_ BK315 2, kc_ BK315 3⟩ (fun hHeld => ?_)
 clear hK K
 refine norm_ (a' := ?_) ?_ ?_
 rotate_left
 ·
  show Act.put _ (some 15) _ = _
  simp only [Act.put, List.setIfInBounds_toArray, List.set_cons_zero, List.set_cons_succ, i64_w, i32_w]
  rfl
 refine one_ (i := 11) (N := some 16) (bm_ 13 4095) rfl rfl (one_of HT_.out (by kernel_rfl)) (by decide) (fun K hK => ?_)
 refine gr_ Tryz.func86 #[.slice Ao12 y318.length co12] ?_
 with_reducible refine (cmp_Or_int.calls k _ _ y318 t321 _ ?side1 ?side2 A5.out).mono ?_
 (case side1 => repeat (first | exact (Kd.R_reads' HO320.out).2.2 | (with_reducible refine Kd.C_alloc ?_ _) | (with_reducible refine Kd.C_drewN ?_ _) | (with_reducible refine Kd.C_drew ?_)))
 (case side2 => exact (Kd.R_reads' HO320.out).2.1)
 rintro e w' ⟨rfl, ⟨nd, rfl⟩⟩
 refine ⟨_, rfl, ?_⟩
 refine hK.out _ _ ⟨kc_ BK314 0, kc_ BK314 1, kc_ BK314 2, kc_ BK314 3, kc_ BK315 0, kc_ BK315 1, kc_ BK315 2, kc_ BK315 3⟩ (fun hHeld => ?_)
 clear hK K
 refine norm_ (a' := ?_) ?_ ?_
 rotate_left
 ·
  show Act.put _ (some 16) _ = _
  simp only [Act.put, List.setIfInBounds_toArray, List.set_cons_zero, List.set_cons_succ, i64_w, i32_w]
  rfl
 refine pu_ 12 (some 4) (bm_ 13 8191) rfl HT_ ⟨by rfl, by intro w'; go_simp; with_reducible rfl⟩ ?_
 refine done_ (done_of HT_.out (by kernel_rfl)) ?_
 try go_wp2
 go_ret
 exact ⟨by first | rfl | (simp [errW_none, errW_some] <;> rfl) | (simp [*, errW_none, errW_some] <;> rfl), pb_ HB⟩

end Go.Proofs.YtgdgklibilddgaaGreatDoor.PPr

