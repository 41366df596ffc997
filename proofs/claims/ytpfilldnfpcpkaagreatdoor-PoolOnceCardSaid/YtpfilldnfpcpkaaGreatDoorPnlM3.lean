/-
A part of the proof of poolNil_card: its lemmas and walks, part 3. No condition.
-/
import Derived.Test.YtpfilldnfpcpkaaGreatDoorPnlM2
set_option linter.unusedVariables false
set_option linter.unusedSimpArgs false
namespace Go.Proofs.YtpfilldnfpcpkaaGreatDoor
open Go.RowKit Go.Proofs.YtpfilldnfpcpkaaGreatDoorW.PrintWords Go.Proofs.YtpfilldnfpcpkaaGreatDoorW.PrintLast

/-- a block that is known, behind steps that leave it -/
theorem pk_ {w W : World} {g : Nat} {o : Obj} (h : Aside0 (w.heap[g]? = some o)) (k : w.heap[g]? = some o → W.heap[g]? = some o := by intro h_; (with_reducible repeat (first | refine blk_drewN ?_ _ | refine blk_drew ?_ | refine blk_alloc ?_ _)); exact h_) : W.heap[g]? = some o := k h.out
/-- what was there at the beginning, behind steps that leave it -/
theorem pb_ {w0 w W : World} (h : Aside0 (Below w0.heap.size w0 w)) (k : Below w0.heap.size w0 w → Below w0.heap.size w0 W := by intro h_; repeat (first | (with_reducible first | exact h_ | apply below_alloc | apply pw_below_drewN | apply below_drew1 | (refine below_set ?_ (Aside0.out ?_); rotate_left; assumption)) | exact h_)) : Below w0.heap.size w0 W := k h.out
theorem pw_ {w W : World} {g : Nat} {o : Obj} (h : w.heap[g]? = some o) (k : w.heap[g]? = some o → W.heap[g]? = some o := by intro h_; (with_reducible repeat (first | refine blk_drewN ?_ _ | refine blk_drew ?_ | refine blk_alloc ?_ _)); exact h_) : W.heap[g]? = some o := k h
theorem bb_ {w W w2 : World} {g : Nat} {o : Obj} (h : Aside0 (w.heap[g]? = some o)) (hb : Below W.heap.size W w2) (k : w.heap[g]? = some o → W.heap[g]? = some o := by intro h_; (with_reducible repeat (first | refine blk_drewN ?_ _ | refine blk_drew ?_ | refine blk_alloc ?_ _)); exact h_) : Aside0 (w2.heap[g]? = some o) := ⟨blk_below (k h.out) hb⟩
theorem bs_ {w0 w W w2 : World} (h : Aside0 (Below w0.heap.size w0 w)) (hb : Below W.heap.size W w2) (k : Below w0.heap.size w0 w → Below w0.heap.size w0 W := by intro h_; repeat (first | (with_reducible first | exact h_ | apply below_alloc | apply pw_below_drewN | apply below_drew1 | (refine below_set ?_ (Aside0.out ?_); rotate_left; assumption)) | exact h_)) : Aside0 (Below w0.heap.size w0 w2) := ⟨below_step (k h.out) hb⟩
theorem gw_ {w0 w W : World} {g : Nat} (h : Aside0 (Below w0.heap.size w0 w)) (hg : g = W.heap.size) (k : Below w0.heap.size w0 w → Below w0.heap.size w0 W := by intro h_; repeat (first | (with_reducible first | exact h_ | apply below_alloc | apply pw_below_drewN | apply below_drew1 | (refine below_set ?_ (Aside0.out ?_); rotate_left; assumption)) | exact h_)) : Aside0 (w0.heap.size ≤ g) := ⟨hg ▸ below_size (k h.out)⟩
theorem nl_ {w W : World} {g g2 : Nat} {o : Obj} (h : Aside0 (w.heap[g]? = some o)) (hg : g2 = W.heap.size) (k : w.heap[g]? = some o → W.heap[g]? = some o := by intro h_; (with_reducible repeat (first | refine blk_drewN ?_ _ | refine blk_drew ?_ | refine blk_alloc ?_ _)); exact h_) : Aside0 (g ≠ g2) := ⟨by rw [hg]; exact Nat.ne_of_lt (blk_lt (k h.out))⟩
theorem ng_ {w W : World} {g g2 : Nat} {o : Obj} (h : Aside0 (w.heap[g]? = some o)) (hg : g2 = W.heap.size) (k : w.heap[g]? = some o → W.heap[g]? = some o := by intro h_; (with_reducible repeat (first | refine blk_drewN ?_ _ | refine blk_drew ?_ | refine blk_alloc ?_ _)); exact h_) : Aside0 (g2 ≠ g) := ⟨by rw [hg]; exact Nat.ne_of_gt (blk_lt (k h.out))⟩
theorem c2_ {w : World} {g : Nat} {t : TypeId} {a b : Value} (h : Aside0 (w.heap[g]? = some (.cells #[a, b] t (0, 0)))) : w.cell? ⟨g, 0, none⟩ = some a ∧ w.cell? ⟨g, 1, none⟩ = some b ∧ w.frozen? ⟨g, 0, none⟩ = false ∧ w.frozen? ⟨g, 1, none⟩ = false :=
  ⟨(blk_cell h.out 0).trans rfl, (blk_cell h.out 1).trans rfl, blk_frozen h.out 0, blk_frozen h.out 1⟩
theorem c3_ {w : World} {g : Nat} {t : TypeId} {a b c : Value} (h : Aside0 (w.heap[g]? = some (.cells #[a, b, c] t (0, 0)))) : w.cell? ⟨g, 0, none⟩ = some a ∧ w.cell? ⟨g, 1, none⟩ = some b ∧ w.cell? ⟨g, 2, none⟩ = some c ∧ w.frozen? ⟨g, 0, none⟩ = false ∧ w.frozen? ⟨g, 1, none⟩ = false ∧ w.frozen? ⟨g, 2, none⟩ = false :=
  ⟨(blk_cell h.out 0).trans rfl, (blk_cell h.out 1).trans rfl, (blk_cell h.out 2).trans rfl, blk_frozen h.out 0, blk_frozen h.out 1, blk_frozen h.out 2⟩
theorem c4_ {w : World} {g : Nat} {t : TypeId} {a b c d : Value} (h : Aside0 (w.heap[g]? = some (.cells #[a, b, c, d] t (0, 0)))) : w.cell? ⟨g, 0, none⟩ = some a ∧ w.cell? ⟨g, 1, none⟩ = some b ∧ w.cell? ⟨g, 2, none⟩ = some c ∧ w.cell? ⟨g, 3, none⟩ = some d ∧ w.frozen? ⟨g, 0, none⟩ = false ∧ w.frozen? ⟨g, 1, none⟩ = false ∧ w.frozen? ⟨g, 2, none⟩ = false ∧ w.frozen? ⟨g, 3, none⟩ = false :=
  ⟨(blk_cell h.out 0).trans rfl, (blk_cell h.out 1).trans rfl, (blk_cell h.out 2).trans rfl, (blk_cell h.out 3).trans rfl, blk_frozen h.out 0, blk_frozen h.out 1, blk_frozen h.out 2, blk_frozen h.out 3⟩
section
variable {P : Program} {ops : Array Oper} {Q : Exit → Act → World → Prop} {md : Region.Mode} {S : World → Prop} {ds : List Nat}
theorem gl_ {rest : List Oper} {oi : Oper} {a : Act} {w : World} (N : Option Tmp) {f : FuncId} {fn : Func} {xs : Array Operand} {ts : Array TypeId} (hf : P.funcs[f]? = some fn) (args : Array Value)
    (h : Calls P f args w fun e w' => ∃ v, e = .returned v ∧ wpList P ops Q rest (a.put N v) w')
    (hop : oi.op = .call { callee := .value (.func f), args := xs, argTypes := ts } := by rfl) (hargs : xs.map a.eval = args := by (try simp only [List.map_toArray, List.map_cons, List.map_nil]); first | done | rfl | (simp only [List.length_drop, List.length_take]; rfl))
    (hd : oi.dst = N := by rfl) (hg : oi.guard = none := by rfl) (hname : (fn.name == "runtime.NumGoroutine") = false := by kernel_rfl) (hb : fn.body.isSome = true := by rfl) : wpList P ops Q (oi :: rest) a w :=
  goesL_ N hd hg hf hname hb args hop hargs h
theorem gr_ {oi : Oper} {N : Option Tmp} {a : Act} {w : World} {K : Act → World → Prop} {f : FuncId} {fn : Func} {xs : Array Operand} {ts : Array TypeId} (hf : P.funcs[f]? = some fn) (args : Array Value)
    (h : Calls P f args w fun e w' => ∃ v, e = .returned v ∧ K (a.put N v) w')
    (hw : Region.wanted oi (yielded ops a.tmps) = true := by rfl) (hN : oi.dst = N := by rfl) (hop : oi.op = .call { callee := .value (.func f), args := xs, argTypes := ts } := by rfl) (hargs : xs.map a.eval = args := by (try simp only [List.map_toArray, List.map_cons, List.map_nil]); first | done | rfl | (simp only [List.length_drop, List.length_take]; rfl))
    (hname : (fn.name == "runtime.NumGoroutine") = false := by kernel_rfl) (hb : fn.body.isSome = true := by rfl) : if Region.wanted oi (yielded ops a.tmps) = true then Oper.wp P oi a w K Q else K (a.put N undef) w :=
  goes_ hf hname hb args hw hN hop hargs h
theorem bx_ {rest : List Oper} {o : Oper} {a : Act} {W : World} (N : Tmp) (cs : Array Value) (t : TypeId)
    (h : ∀ g, g = W.heap.size → ∀ w1, w1.heap[g]? = some (.cells cs t (0, 0)) → Below W.heap.size W w1 → wpList P ops Q rest (a.put o.dst (.pointer (some ⟨g, 0, none⟩))) w1)
    (hd : o.dst = some N := by rfl) (hgd : o.guard = none := by rfl) (hrun : (execOp a.eval o).run P W = .ok (.value (.pointer (some ⟨W.heap.size, 0, none⟩))) (W.alloc (.cells cs t (0, 0))) := by first | (go_simp; done) | (go_simp; rfl)) : wpList P ops Q (o :: rest) a W :=
  box_event hgd hd hrun h
/-- what has come up, as a number's bits -/
def bm_ (n m : Nat) : Array Bool := ((List.range n).map fun i => m.testBit i).toArray
theorem pu_ {T : Bool × List (List Nat × List Nat)} {oi : Oper} {v : Value} {fuel : Nat} {l : Array Bool} {a a' : Act} {w : World} (i : Nat) (N : Option Tmp) (l' : Array Bool) (hi : ops[i]? = some oi) (hT : Aside0 (rtab md ops = T))
    (hy : Region.wanted oi (yielded ops a.tmps) = true ∧ ∀ w, (execOp a.eval oi).run P w = .ok (.value v) w) (h : wpAnyLast P md ops Q S ds fuel l' a' w)
    (ha : a.put N v = a' := by simp only [Act.put, List.setIfInBounds_toArray, List.set_cons_zero, List.set_cons_succ, i64_w, i32_w]; rfl) (hN : oi.dst = N := by rfl) (hc : anyT T l.toList l'.toList i = true := by kernel_rfl)
    (hQ : ∀ c a w, Q (.panic c) (a.put oi.dst v) w → Q (.panic c) a w := by exact fun _ _ _ h => h) : wpAnyLast P md ops Q S ds (fuel + 1) l a w :=
  pure_ (i := i) (N := N) l' hi hN (any_of hT.out hc) hQ (.inl hy) ha h
theorem ta_ {T : Bool × List (List Nat × List Nat)} {B : List Nat} {oi : Oper} {v : Value} {fuel : Nat} {l : Array Bool} {a a' : Act} {w : World} (i : Nat) (N : Option Tmp) (l' : Array Bool) (hi : ops[i]? = some oi) (hT : Aside0 (rtab md ops = T)) (hB : Aside0 (waitsOk T.2 B = true))
    (hy : Region.wanted oi (yielded ops a.tmps) = true ∧ ∀ w, S w → (execOp a.eval oi).run P w = .ok (.value v) w) (hS : S w) (h : wpAnyLast P md ops Q S ds fuel l' a' w)
    (ha : a.put N v = a' := by simp only [Act.put, List.setIfInBounds_toArray, List.set_cons_zero, List.set_cons_succ, i64_w, i32_w]; rfl) (hN : oi.dst = N := by rfl) (hc : takeW T B ds l.toList l'.toList i = true := by kernel_rfl)
    (hQ : ∀ c a w, Q (.panic c) (a.put oi.dst v) w → Q (.panic c) a w := by exact fun _ _ _ h => h) : wpAnyLast P md ops Q S ds (fuel + 1) l a w :=
  take_ (i := i) (N := N) l' hi hN (take_ofW hT.out hB.out hc) hQ (.inl hy) hS ha h
end
theorem kc_ {w : World} {g : Nat} {t : TypeId} {cs : Array Value} {v : Value} (h : Aside0 (w.heap[g]? = some (.cells cs t (0, 0)))) (i : Nat) (hv : cs[i]? = some v := by rfl) : w.cell? ⟨g, i, none⟩ = some v := (blk_cell h.out i).trans hv
end Go.Proofs.YtpfilldnfpcpkaaGreatDoor

namespace Go.Proofs.YtpfilldnfpcpkaaGreatDoor.PPo
open Go.RowKit Go.Proofs.YtpfilldnfpcpkaaGreatDoorW.PrintWords Go.Proofs.YtpfilldnfpcpkaaGreatDoorW.PrintLast Go.Proofs.YtpfilldnfpcpkaaGreatDoorW.PrintMore
attribute [local go_sem] max2_int min2_int max_two min_two max_three min_three max_four min_four   -- for this text's walks alone



def errW : Option Int → Value
  | none => .nilIface
  | some c => .iface 0 (.int .i64 c)
theorem errW_none : errW none = .nilIface := rfl
theorem errW_some (c : Int) : errW (some c) = .iface 0 (.int .i64 c) := rfl

structure S24 where
  f0 : Int
  f1 : Int
def z24 : S24 := ⟨(0 : Int), (0 : Int)⟩
structure S26 where
  f0 : Bool
  f1 : S24
structure S28 where
  f0 : S26
  f1 : Int
end Go.Proofs.YtpfilldnfpcpkaaGreatDoor.PPo

namespace Go.Proofs.YtpfilldnfpcpkaaGreatDoor.PPo
open Go.RowKit Go.Proofs.YtpfilldnfpcpkaaGreatDoorW.PrintWords Go.Proofs.YtpfilldnfpcpkaaGreatDoorW.PrintLast Go.Proofs.YtpfilldnfpcpkaaGreatDoorW.PrintMore
attribute [local go_sem] max2_int min2_int max_two min_two max_three min_three max_four min_four   -- for this text's walks alone

def num_Small.f (a0_0 : Int) (a0_1 : Int) : Option (Int × Bool) := if a0_0 > 0 then (some (0, false)) else (some (a0_1, true))
set_option maxHeartbeats 8000000 in
set_option maxRecDepth 100000 in
theorem num_Small.calls (a0_0 : Int) (a0_1 : Int) (r1 : Int) (r2 : Bool) (w : World) (h : num_Small.f a0_0 a0_1 = some (r1, r2)) :
  Calls Tryz.prog 96 #[.agg #[.int .u64 a0_0, .int .u64 a0_1]] w fun e w' => e = .returned (.tuple #[.int .u64 r1, .bool r2]) ∧ Below w.heap.size w w' := by
 have hu24 := Tryz.underlying24
 have HB := Aside0.mk (Below.refl w.heap.size w)
 have H : (if a0_0 > 0 then (some (0, false)) else (some (a0_1, true))) = some (r1, r2) := h
 clear h
 by_cases c2 : a0_0 > 0
 ·
  rw [if_pos c2] at H
  have c2b0 : decide (0 < a0_0) = true := decide_eq_true c2
  clear c2
  simp only [Option.some.injEq, Prod.mk.injEq] at H
  obtain ⟨rfl, rfl⟩ := H
  go_enter Tryz.func96, Tryz.ntmps96
  go_wp2_with (first | ((with_reducible refine gate_dst (N := 1) rfl ?_); refine bx_ 1 #[.int .u64 a0_0, .int .u64 a0_1] 24 ?_; intro gb101 hg w3 hbox hb; have BK101 := Aside0.mk (hbox); have GW101 := gw_ HB hg; have GE101 := gw_ HB hg; replace HB := bs_ HB hb; clear hb hbox hg; obtain ⟨hcz4_0, hcz4_1, hfz4_0, hfz4_1⟩ := c2_ BK101))
  go_ret2
  exact ⟨by first | rfl | (simp [errW_none, errW_some] <;> rfl) | (simp [*, errW_none, errW_some] <;> rfl), pb_ HB⟩
 ·
  rw [if_neg c2] at H
  have c2b0 : decide (0 < a0_0) = false := decide_eq_false c2
  clear c2
  simp only [Option.some.injEq, Prod.mk.injEq] at H
  obtain ⟨rfl, rfl⟩ := H
  go_enter Tryz.func96, Tryz.ntmps96
  go_wp2_with (first | ((with_reducible refine gate_dst (N := 1) rfl ?_); refine bx_ 1 #[.int .u64 a0_0, .int .u64 a0_1] 24 ?_; intro gb101 hg w5 hbox hb; have BK101 := Aside0.mk (hbox); have GW101 := gw_ HB hg; have GE101 := gw_ HB hg; replace HB := bs_ HB hb; clear hb hbox hg; obtain ⟨hcz6_0, hcz6_1, hfz6_0, hfz6_1⟩ := c2_ BK101))
  go_ret2
  exact ⟨by first | rfl | (simp [errW_none, errW_some] <;> rfl) | (simp [*, errW_none, errW_some] <;> rfl), pb_ HB⟩

def carve_cuts.f (a0_0 : Bool) (a0_1 : Int) (a0_2 : Int) (a0_3 : Int) (a1 : Int) : Option (Bool) := (prefix_Right.f a0_0 a0_1 a0_2 a0_3).bind fun t103 => (if t103 = true then (if a1 ≥ a0_3 then ((addr_Width.f a0_0 a0_1 a0_2).bind fun t104 => (some (decide (a1 ≤ t104)))) else (some false)) else (some false))
set_option maxHeartbeats 8000000 in
set_option maxRecDepth 100000 in
theorem carve_cuts.calls (a0_0 : Bool) (a0_1 : Int) (a0_2 : Int) (a0_3 : Int) (a1 : Int) (r : Bool) (w : World) (h : carve_cuts.f a0_0 a0_1 a0_2 a0_3 a1 = some r) :
  Calls Tryz.prog 137 #[.agg #[.bool a0_0, .int .u64 a0_1, .int .u64 a0_2, .int .i64 a0_3], .int .i64 a1] w fun e w' => e = .returned (.bool r) ∧ Below w.heap.size w w' := by
 have hu28 := Tryz.underlying28
 have hu26 := Tryz.underlying26
 have HB := Aside0.mk (Below.refl w.heap.size w)
 have H : ((prefix_Right.f a0_0 a0_1 a0_2 a0_3).bind fun t103 => (if t103 = true then (if a1 ≥ a0_3 then ((addr_Width.f a0_0 a0_1 a0_2).bind fun t104 => (some (decide (a1 ≤ t104)))) else (some false)) else (some false))) = some r := h
 clear h
 replace H := Option.bind_eq_some_iff.mp H
 obtain ⟨t103, A30, H⟩ := H
 replace H : (if t103 = true then (if a1 ≥ a0_3 then ((addr_Width.f a0_0 a0_1 a0_2).bind fun t104 => (some (decide (a1 ≤ t104)))) else (some false)) else (some false)) = some r := H
 have A3 := Aside0.mk A30
 clear A30
 by_cases c4 : t103 = true
 ·
  subst c4
  rw [if_pos rfl] at H
  by_cases c5 : a1 ≥ a0_3
  ·
   rw [if_pos c5] at H
   have c5b0 : decide (a0_3 ≤ a1) = true := decide_eq_true c5
   clear c5
   replace H := Option.bind_eq_some_iff.mp H
   obtain ⟨t104, A60, H⟩ := H
   replace H : (some (decide (a1 ≤ t104))) = some r := H
   have A6 := Aside0.mk A60
   clear A60
   obtain rfl := Option.some.inj H
   go_enter Tryz.func137, Tryz.ntmps137
   go_wp2_with (first | ((with_reducible refine gate_dst (N := 2) rfl ?_); refine bx_ 2 #[.bool a0_0, .int .u64 a0_1, .int .u64 a0_2, .int .i64 a0_3] 28 ?_; intro gb102 hg w7 hbox hb; have BK102 := Aside0.mk (hbox); have GW102 := gw_ HB hg; have GE102 := gw_ HB hg; replace HB := bs_ HB hb; clear hb hbox hg; obtain ⟨hcz8_0, hcz8_1, hcz8_2, hcz8_3, hfz8_0, hfz8_1, hfz8_2, hfz8_3⟩ := c4_ BK102) | ((with_reducible refine gate_callee (f := 90) rfl ?_); refine gl_ (some 6) Tryz.func90 #[.agg #[.bool a0_0, .int .u64 a0_1, .int .u64 a0_2, .int .i64 a0_3]] ?_; (with_reducible refine (prefix_Right.calls a0_0 a0_1 a0_2 a0_3 true _ A3.out).mono ?_); rintro e w9 ⟨rfl, hb⟩; refine ⟨_, rfl, ?_⟩; replace BK102 := bb_ BK102 hb; replace HB := bs_ HB hb; (try clear hb); (try clear hb2); (try clear hk); (try clear hi); obtain ⟨hcz10_0, hcz10_1, hcz10_2, hcz10_3, hfz10_0, hfz10_1, hfz10_2, hfz10_3⟩ := c4_ BK102) | (go_at_call 132; (with_reducible refine (addr_Width.calls a0_0 a0_1 a0_2 t104 _ A6.out).mono ?_); rintro e w11 ⟨rfl, hb⟩; replace BK102 := bb_ BK102 hb; replace HB := bs_ HB hb; (try clear hb); (try clear hb2); (try clear hk); (try clear hi)))
   go_ret
   exact ⟨by first | rfl | (simp [errW_none, errW_some] <;> rfl) | (simp [*, errW_none, errW_some] <;> rfl), pb_ HB⟩
  ·
   rw [if_neg c5] at H
   have c5b0 : decide (a0_3 ≤ a1) = false := decide_eq_false c5
   clear c5
   obtain rfl := Option.some.inj H
   go_enter Tryz.func137, Tryz.ntmps137
   go_wp2_with (first | ((with_reducible refine gate_dst (N := 2) rfl ?_); refine bx_ 2 #[.bool a0_0, .int .u64 a0_1, .int .u64 a0_2, .int .i64 a0_3] 28 ?_; intro gb102 hg w12 hbox hb; have BK102 := Aside0.mk (hbox); have GW102 := gw_ HB hg; have GE102 := gw_ HB hg; replace HB := bs_ HB hb; clear hb hbox hg; obtain ⟨hcz13_0, hcz13_1, hcz13_2, hcz13_3, hfz13_0, hfz13_1, hfz13_2, hfz13_3⟩ := c4_ BK102) | ((with_reducible refine gate_callee (f := 90) rfl ?_); refine gl_ (some 6) Tryz.func90 #[.agg #[.bool a0_0, .int .u64 a0_1, .int .u64 a0_2, .int .i64 a0_3]] ?_; (with_reducible refine (prefix_Right.calls a0_0 a0_1 a0_2 a0_3 true _ A3.out).mono ?_); rintro e w14 ⟨rfl, hb⟩; refine ⟨_, rfl, ?_⟩; replace BK102 := bb_ BK102 hb; replace HB := bs_ HB hb; (try clear hb); (try clear hb2); (try clear hk); (try clear hi); obtain ⟨hcz15_0, hcz15_1, hcz15_2, hcz15_3, hfz15_0, hfz15_1, hfz15_2, hfz15_3⟩ := c4_ BK102))
   go_ret
   exact ⟨by first | rfl | (simp [errW_none, errW_some] <;> rfl) | (simp [*, errW_none, errW_some] <;> rfl), pb_ HB⟩
 ·
  replace c4 := Bool.eq_false_iff.mpr c4
  subst c4
  have H1 : (some false) = some r := by rw [if_neg (show ¬ (false = true) by decide)] at H; exact H
  clear H
  have H := H1
  clear H1
  obtain rfl := Option.some.inj H
  go_enter Tryz.func137, Tryz.ntmps137
  go_wp2_with (first | ((with_reducible refine gate_dst (N := 2) rfl ?_); refine bx_ 2 #[.bool a0_0, .int .u64 a0_1, .int .u64 a0_2, .int .i64 a0_3] 28 ?_; intro gb102 hg w16 hbox hb; have BK102 := Aside0.mk (hbox); have GW102 := gw_ HB hg; have GE102 := gw_ HB hg; replace HB := bs_ HB hb; clear hb hbox hg; obtain ⟨hcz17_0, hcz17_1, hcz17_2, hcz17_3, hfz17_0, hfz17_1, hfz17_2, hfz17_3⟩ := c4_ BK102) | ((with_reducible refine gate_callee (f := 90) rfl ?_); refine gl_ (some 6) Tryz.func90 #[.agg #[.bool a0_0, .int .u64 a0_1, .int .u64 a0_2, .int .i64 a0_3]] ?_; (with_reducible refine (prefix_Right.calls a0_0 a0_1 a0_2 a0_3 false _ A3.out).mono ?_); rintro e w18 ⟨rfl, hb⟩; refine ⟨_, rfl, ?_⟩; replace BK102 := bb_ BK102 hb; replace HB := bs_ HB hb; (try clear hb); (try clear hb2); (try clear hk); (try clear hi)))
  go_ret
  exact ⟨by first | rfl | (simp [errW_none, errW_some] <;> rfl) | (simp [*, errW_none, errW_some] <;> rfl), pb_ HB⟩

def num_Of.f (a0 : Int) : Option (Int × Int) := some (0, a0)
set_option maxHeartbeats 8000000 in
set_option maxRecDepth 100000 in
theorem num_Of.calls (a0 : Int) (r1 : Int) (r2 : Int) (w : World) (h : num_Of.f a0 = some (r1, r2)) :
  Calls Tryz.prog 126 #[.int .u64 a0] w fun e w' => e = .returned (.agg #[.int .u64 r1, .int .u64 r2]) ∧ Below w.heap.size w w' := by
 have hu24 := Tryz.underlying24
 have HB := Aside0.mk (Below.refl w.heap.size w)
 have H : (some (0, a0)) = some (r1, r2) := h
 clear h
 simp only [Option.some.injEq, Prod.mk.injEq] at H
 obtain ⟨rfl, rfl⟩ := H
 go_enter Tryz.func126, Tryz.ntmps126
 go_wp2_with (first | ((with_reducible refine gate_dst (N := 2) rfl ?_); refine bx_ 2 #[.int .u64 0, .int .u64 0] 24 ?_; intro gb105 hg w2 hbox hb; have BK105 := Aside0.mk (hbox); have GW105 := gw_ HB hg; have GE105 := gw_ HB hg; replace HB := bs_ HB hb; clear hb hbox hg; obtain ⟨hcz3_0, hcz3_1, hfz3_0, hfz3_1⟩ := c2_ BK105))
 refine bodyPost_ret (results_cell_row rfl _ _ gb105 24 #[.int .u64 0, .int .u64 a0] (0, 0) _ rfl (by refine pw_ ?_; refine blk_put (cs := #[.int .u64 0, .int .u64 0]) ?_ 1 _ rfl; refine pw_ ?_; refine blk_put (cs := #[.int .u64 0, .int .u64 0]) ?_ 0 _ rfl; refine pw_ ?_; exact BK105.out) Tryz.underlying24 rfl (by kernel_rfl)) rfl ?_
 exact ⟨by first | rfl | (simp [errW_none, errW_some] <;> rfl) | (simp [*, errW_none, errW_some] <;> rfl), pb_ HB⟩

def carve_power.f (a0 : Int) : Option (Int × Int × Bool) := if a0 ≥ 128 then (some (0, 0, false)) else ((num_Of.f 1).bind fun bt107 => ((num_Shl.f bt107.1 bt107.2 a0).bind fun bt109 => (some (bt109.1, bt109.2, true))))
set_option maxHeartbeats 8000000 in
set_option maxRecDepth 100000 in
theorem carve_power.calls (a0 : Int) (r1 : Int) (r2 : Int) (r3 : Bool) (w : World) (h : carve_power.f a0 = some (r1, r2, r3)) :
  Calls Tryz.prog 138 #[.int .i64 a0] w fun e w' => e = .returned (.tuple #[.agg #[.int .u64 r1, .int .u64 r2], .bool r3]) ∧ Below w.heap.size w w' := by
 have hu24 := Tryz.underlying24
 have HB := Aside0.mk (Below.refl w.heap.size w)
 have H : (if a0 ≥ 128 then (some (0, 0, false)) else ((num_Of.f 1).bind fun bt107 => ((num_Shl.f bt107.1 bt107.2 a0).bind fun bt109 => (some (bt109.1, bt109.2, true))))) = some (r1, r2, r3) := h
 clear h
 by_cases c2 : a0 ≥ 128
 ·
  rw [if_pos c2] at H
  have c2b0 : decide (128 ≤ a0) = true := decide_eq_true c2
  clear c2
  simp only [Option.some.injEq, Prod.mk.injEq] at H
  obtain ⟨rfl, rfl, rfl⟩ := H
  go_enter Tryz.func138, Tryz.ntmps138
  go_wp2_with (first | ((with_reducible refine gate_dst (N := 2) rfl ?_); refine bx_ 2 #[.int .u64 0, .int .u64 0] 24 ?_; intro gb106 hg w3 hbox hb; have BK106 := Aside0.mk (hbox); have GW106 := gw_ HB hg; have GE106 := gw_ HB hg; replace HB := bs_ HB hb; clear hb hbox hg; obtain ⟨hcz4_0, hcz4_1, hfz4_0, hfz4_1⟩ := c2_ BK106))
  refine bodyPost_ret (results_ct rfl _ _ gb106 24 #[.int .u64 0, .int .u64 0] (0, 0) _ rfl (by refine pw_ ?_; refine blk_put (cs := #[.int .u64 0, .int .u64 0]) ?_ 1 _ rfl; refine pw_ ?_; refine blk_put (cs := #[.int .u64 0, .int .u64 0]) ?_ 0 _ rfl; refine pw_ ?_; exact BK106.out) Tryz.underlying24 rfl (by kernel_rfl)) rfl ?_
  exact ⟨by first | rfl | (simp [errW_none, errW_some] <;> rfl) | (simp [*, errW_none, errW_some] <;> rfl), pb_ HB⟩
 ·
  rw [if_neg c2] at H
  have c2b0 : decide (128 ≤ a0) = false := decide_eq_false c2
  clear c2
  replace H := Option.bind_eq_some_iff.mp H
  obtain ⟨⟨t107, t108⟩, A50, H⟩ := H
  replace H : ((num_Shl.f t107 t108 a0).bind fun bt109 => (some (bt109.1, bt109.2, true))) = some (r1, r2, r3) := H
  have A5 := Aside0.mk A50
  clear A50
  replace H := Option.bind_eq_some_iff.mp H
  obtain ⟨⟨t109, t110⟩, A60, H⟩ := H
  replace H : (some (t109, t110, true)) = some (r1, r2, r3) := H
  have A6 := Aside0.mk A60
  clear A60
  simp only [Option.some.injEq, Prod.mk.injEq] at H
  obtain ⟨rfl, rfl, rfl⟩ := H
  go_enter Tryz.func138, Tryz.ntmps138
  go_wp2_with (first | ((with_reducible refine gate_dst (N := 2) rfl ?_); refine bx_ 2 #[.int .u64 0, .int .u64 0] 24 ?_; intro gb106 hg w7 hbox hb; have BK106 := Aside0.mk (hbox); have GW106 := gw_ HB hg; have GE106 := gw_ HB hg; replace HB := bs_ HB hb; clear hb hbox hg) | ((with_reducible refine gate_callee (f := 126) rfl ?_); refine gl_ (some 7) Tryz.func126 #[.int .u64 1] ?_; (with_reducible refine (num_Of.calls 1 t107 t108 _ A5.out).mono ?_); rintro e w8 ⟨rfl, hb⟩; refine ⟨_, rfl, ?_⟩; replace BK106 := bb_ BK106 hb; replace HB := bs_ HB hb; (try clear hb); (try clear hb2); (try clear hk); (try clear hi)) | ((with_reducible refine gate_callee (f := 167) rfl ?_); refine gl_ (some 9) Tryz.func167 #[.agg #[.int .u64 t107, .int .u64 t108], .int .i64 a0] ?_; (with_reducible refine (num_Shl.calls t107 t108 a0 t109 t110 _ A6.out).mono ?_); rintro e w9 ⟨rfl, hb⟩; refine ⟨_, rfl, ?_⟩; replace BK106 := bb_ BK106 hb; replace HB := bs_ HB hb; (try clear hb); (try clear hb2); (try clear hk); (try clear hi); obtain ⟨hcz10_0, hcz10_1, hfz10_0, hfz10_1⟩ := c2_ BK106))
  refine bodyPost_ret (results_ct rfl _ _ gb106 24 #[.int .u64 t109, .int .u64 t110] (0, 0) _ rfl (by refine pw_ ?_; refine blk_put (cs := #[.int .u64 t109, .int .u64 0]) ?_ 1 _ rfl; refine pw_ ?_; refine blk_put (cs := #[.int .u64 0, .int .u64 0]) ?_ 0 _ rfl; refine pw_ ?_; exact BK106.out) Tryz.underlying24 rfl (by kernel_rfl)) rfl ?_
  exact ⟨by first | rfl | (simp [errW_none, errW_some] <;> rfl) | (simp [*, errW_none, errW_some] <;> rfl), pb_ HB⟩

def carve_Blocks.f (a0_0 : Bool) (a0_1 : Int) (a0_2 : Int) (a0_3 : Int) (a1 : Int) : Option (Int × Int × Bool × Int) := (carve_cuts.f a0_0 a0_1 a0_2 a0_3 a1).bind fun t113 => (if t113 = true then ((carve_power.f (wrap64 (a1 - a0_3))).bind fun bt114 => (some (bt114.1, bt114.2.1, bt114.2.2, 0))) else (some (0, 0, false, 1)))
set_option maxHeartbeats 8000000 in
set_option maxRecDepth 100000 in
theorem carve_Blocks.calls (a0_0 : Bool) (a0_1 : Int) (a0_2 : Int) (a0_3 : Int) (a1 : Int) (r1 : Int) (r2 : Int) (r3 : Bool) (r4 : Int) (w : World) (h : carve_Blocks.f a0_0 a0_1 a0_2 a0_3 a1 = some (r1, r2, r3, r4)) :
  Calls Tryz.prog 95 #[.agg #[.bool a0_0, .int .u64 a0_1, .int .u64 a0_2, .int .i64 a0_3], .int .i64 a1] w fun e w' => e = .returned (.tuple #[.agg #[.int .u64 r1, .int .u64 r2], .bool r3, .int .i64 r4]) ∧ Below w.heap.size w w' := by
 have hu28 := Tryz.underlying28
 have hu24 := Tryz.underlying24
 have HB := Aside0.mk (Below.refl w.heap.size w)
 have H : ((carve_cuts.f a0_0 a0_1 a0_2 a0_3 a1).bind fun t113 => (if t113 = true then ((carve_power.f (wrap64 (a1 - a0_3))).bind fun bt114 => (some (bt114.1, bt114.2.1, bt114.2.2, 0))) else (some (0, 0, false, 1)))) = some (r1, r2, r3, r4) := h
 clear h
 replace H := Option.bind_eq_some_iff.mp H
 obtain ⟨t113, A30, H⟩ := H
 replace H : (if t113 = true then ((carve_power.f (wrap64 (a1 - a0_3))).bind fun bt114 => (some (bt114.1, bt114.2.1, bt114.2.2, 0))) else (some (0, 0, false, 1))) = some (r1, r2, r3, r4) := H
 have A3 := Aside0.mk A30
 clear A30
 by_cases c4 : t113 = true
 ·
  subst c4
  rw [if_pos rfl] at H
  replace H := Option.bind_eq_some_iff.mp H
  obtain ⟨⟨t114, t115, t116⟩, A50, H⟩ := H
  replace H : (some (t114, t115, t116, 0)) = some (r1, r2, r3, r4) := H
  have A5 := Aside0.mk A50
  clear A50
  simp only [Option.some.injEq, Prod.mk.injEq] at H
  obtain ⟨rfl, rfl, rfl, rfl⟩ := H
  go_enter Tryz.func95, Tryz.ntmps95
  go_wp2_with (first | ((with_reducible refine gate_dst (N := 2) rfl ?_); refine bx_ 2 #[.bool a0_0, .int .u64 a0_1, .int .u64 a0_2, .int .i64 a0_3] 28 ?_; intro gb111 hg w6 hbox hb; have BK111 := Aside0.mk (hbox); have GW111 := gw_ HB hg; have GE111 := gw_ HB hg; replace HB := bs_ HB hb; clear hb hbox hg) | ((with_reducible refine gate_dst (N := 4) rfl ?_); refine bx_ 4 #[.int .u64 0, .int .u64 0] 24 ?_; intro gb112 hg w7 hbox hb; have BK112 := Aside0.mk (hbox); have GW112 := gw_ HB hg; have GE112 := gw_ HB hg; have NB111_112 := nl_ BK111 hg; have NB112_111 := ng_ BK111 hg; replace BK111 := bb_ BK111 hb; replace HB := bs_ HB hb; clear hb hbox hg; have hnb8 := NB111_112.out; have hnc8 := NB112_111.out; obtain ⟨hcz9_0, hcz9_1, hcz9_2, hcz9_3, hfz9_0, hfz9_1, hfz9_2, hfz9_3⟩ := c4_ BK111) | ((with_reducible refine gate_callee (f := 137) rfl ?_); refine gl_ (some 11) Tryz.func137 #[.agg #[.bool a0_0, .int .u64 a0_1, .int .u64 a0_2, .int .i64 a0_3], .int .i64 a1] ?_; (with_reducible refine (carve_cuts.calls a0_0 a0_1 a0_2 a0_3 a1 true _ A3.out).mono ?_); rintro e w10 ⟨rfl, hb⟩; refine ⟨_, rfl, ?_⟩; replace BK111 := bb_ BK111 hb; replace BK112 := bb_ BK112 hb; replace HB := bs_ HB hb; (try clear hb); (try clear hb2); (try clear hk); (try clear hi); obtain ⟨hcz11_0, hcz11_1, hcz11_2, hcz11_3, hfz11_0, hfz11_1, hfz11_2, hfz11_3⟩ := c4_ BK111) | ((with_reducible refine gate_callee (f := 138) rfl ?_); refine gl_ (some 19) Tryz.func138 #[.int .i64 (wrap64 (a1 - a0_3))] ?_; (with_reducible refine (carve_power.calls (wrap64 (a1 - a0_3)) t114 t115 t116 _ A5.out).mono ?_); rintro e w12 ⟨rfl, hb⟩; refine ⟨_, rfl, ?_⟩; replace BK111 := bb_ BK111 hb; replace BK112 := bb_ BK112 hb; replace HB := bs_ HB hb; (try clear hb); (try clear hb2); (try clear hk); (try clear hi)) | ((with_reducible refine gate_dst (N := 7) rfl ?_); refine bx_ 7 #[.int .u64 0, .int .u64 0] 24 ?_; intro gb117 hg w13 hbox hb; have BK117 := Aside0.mk (hbox); have GW117 := gw_ HB hg; have GE117 := gw_ HB hg; have NB111_117 := nl_ BK111 hg; have NB117_111 := ng_ BK111 hg; have NB112_117 := nl_ BK112 hg; have NB117_112 := ng_ BK112 hg; replace BK111 := bb_ BK111 hb; replace BK112 := bb_ BK112 hb; replace HB := bs_ HB hb; clear hb hbox hg; have hnb14 := NB117_111.out; have hnc14 := NB111_117.out; have hnb15 := NB117_112.out; have hnc15 := NB112_117.out; obtain ⟨hcz16_0, hcz16_1, hfz16_0, hfz16_1⟩ := c2_ BK117; obtain ⟨hcz17_0, hcz17_1, hfz17_0, hfz17_1⟩ := c2_ BK112))
  refine bodyPost_ret (results_ctt rfl _ _ gb112 24 #[.int .u64 t114, .int .u64 t115] (0, 0) _ rfl (by refine pw_ ?_; refine blk_put (cs := #[.int .u64 t114, .int .u64 0]) ?_ 1 _ rfl; refine pw_ ?_; refine blk_put (cs := #[.int .u64 0, .int .u64 0]) ?_ 0 _ rfl; refine pw_ ?_; refine blk_far ?_ NB112_117.out _; refine pw_ ?_; refine blk_far ?_ NB112_117.out _; refine pw_ ?_; exact BK112.out) Tryz.underlying24 rfl (by kernel_rfl)) rfl ?_
  exact ⟨by first | rfl | (simp [errW_none, errW_some] <;> rfl) | (simp [*, errW_none, errW_some] <;> rfl), pb_ HB⟩
 ·
  replace c4 := Bool.eq_false_iff.mpr c4
  subst c4
  have H1 : (some (0, 0, false, 1)) = some (r1, r2, r3, r4) := by rw [if_neg (show ¬ (false = true) by decide)] at H; exact H
  clear H
  have H := H1
  clear H1
  simp only [Option.some.injEq, Prod.mk.injEq] at H
  obtain ⟨rfl, rfl, rfl, rfl⟩ := H
  go_enter Tryz.func95, Tryz.ntmps95
  go_wp2_with (first | ((with_reducible refine gate_dst (N := 2) rfl ?_); refine bx_ 2 #[.bool a0_0, .int .u64 a0_1, .int .u64 a0_2, .int .i64 a0_3] 28 ?_; intro gb111 hg w18 hbox hb; have BK111 := Aside0.mk (hbox); have GW111 := gw_ HB hg; have GE111 := gw_ HB hg; replace HB := bs_ HB hb; clear hb hbox hg) | ((with_reducible refine gate_dst (N := 4) rfl ?_); refine bx_ 4 #[.int .u64 0, .int .u64 0] 24 ?_; intro gb112 hg w19 hbox hb; have BK112 := Aside0.mk (hbox); have GW112 := gw_ HB hg; have GE112 := gw_ HB hg; have NB111_112 := nl_ BK111 hg; have NB112_111 := ng_ BK111 hg; replace BK111 := bb_ BK111 hb; replace HB := bs_ HB hb; clear hb hbox hg; have hnb20 := NB111_112.out; have hnc20 := NB112_111.out; obtain ⟨hcz21_0, hcz21_1, hcz21_2, hcz21_3, hfz21_0, hfz21_1, hfz21_2, hfz21_3⟩ := c4_ BK111) | ((with_reducible refine gate_callee (f := 137) rfl ?_); refine gl_ (some 11) Tryz.func137 #[.agg #[.bool a0_0, .int .u64 a0_1, .int .u64 a0_2, .int .i64 a0_3], .int .i64 a1] ?_; (with_reducible refine (carve_cuts.calls a0_0 a0_1 a0_2 a0_3 a1 false _ A3.out).mono ?_); rintro e w22 ⟨rfl, hb⟩; refine ⟨_, rfl, ?_⟩; replace BK111 := bb_ BK111 hb; replace BK112 := bb_ BK112 hb; replace HB := bs_ HB hb; (try clear hb); (try clear hb2); (try clear hk); (try clear hi); obtain ⟨hcz23_0, hcz23_1, hfz23_0, hfz23_1⟩ := c2_ BK112))
  refine bodyPost_ret (results_ctt rfl _ _ gb112 24 #[.int .u64 0, .int .u64 0] (0, 0) _ rfl (by refine pw_ ?_; refine blk_put (cs := #[.int .u64 0, .int .u64 0]) ?_ 1 _ rfl; refine pw_ ?_; refine blk_put (cs := #[.int .u64 0, .int .u64 0]) ?_ 0 _ rfl; refine pw_ ?_; exact BK112.out) Tryz.underlying24 rfl (by kernel_rfl)) rfl ?_
  exact ⟨by first | rfl | (simp [errW_none, errW_some] <;> rfl) | (simp [*, errW_none, errW_some] <;> rfl), pb_ HB⟩

def carve_Hosts.f (a0_0 : Bool) (a0_1 : Int) (a0_2 : Int) (a0_3 : Int) : Option (Int × Int × Bool × Int) := (addr_Width.f a0_0 a0_1 a0_2).bind fun t120 => ((carve_Blocks.f a0_0 a0_1 a0_2 a0_3 t120).bind fun bt121 => (some (bt121.1, bt121.2.1, bt121.2.2.1, bt121.2.2.2)))
def carve_Hosts.T1 : Bool × List (List Nat × List Nat) := (true, [([], []), ([], []), ([1], [1]), ([2], [2]), ([0, 3, 3], [0, 3]), ([4], [4]), ([4], [4]), ([4], [4]), ([5, 4, 0, 1, 2, 3, 4, 5, 6, 7], [5]), ([6, 8, 0, 1, 2, 3, 4, 5, 6, 7, 8], [6]), ([7, 9, 0, 1, 2, 3, 4, 5, 6, 7, 8, 9], [7])])
def carve_Hosts.B1 : List Nat := [0, 0, 2, 6, 15, 31, 31, 31, 255, 511, 1023]
theorem carve_Hosts.tab1 : rtab .any (opsOf Tryz.f119 1) = carve_Hosts.T1 := by kernel_rfl
theorem carve_Hosts.bits1 : waitsOk carve_Hosts.T1.2 carve_Hosts.B1 = true := by kernel_rfl
set_option maxHeartbeats 8000000 in
set_option maxRecDepth 100000 in
theorem carve_Hosts.calls (a0_0 : Bool) (a0_1 : Int) (a0_2 : Int) (a0_3 : Int) (r1 : Int) (r2 : Int) (r3 : Bool) (r4 : Int) (w : World) (h : carve_Hosts.f a0_0 a0_1 a0_2 a0_3 = some (r1, r2, r3, r4)) :
  Calls Tryz.prog 119 #[.agg #[.bool a0_0, .int .u64 a0_1, .int .u64 a0_2, .int .i64 a0_3]] w fun e w' => e = .returned (.tuple #[.agg #[.int .u64 r1, .int .u64 r2], .bool r3, .int .i64 r4]) ∧ Below w.heap.size w w' := by
 have hu28 := Tryz.underlying28
 have hu24 := Tryz.underlying24
 have hu26 := Tryz.underlying26
 have HB := Aside0.mk (Below.refl w.heap.size w)
 have H : ((addr_Width.f a0_0 a0_1 a0_2).bind fun t120 => ((carve_Blocks.f a0_0 a0_1 a0_2 a0_3 t120).bind fun bt121 => (some (bt121.1, bt121.2.1, bt121.2.2.1, bt121.2.2.2)))) = some (r1, r2, r3, r4) := h
 clear h
 replace H := Option.bind_eq_some_iff.mp H
 obtain ⟨t120, A20, H⟩ := H
 replace H : ((carve_Blocks.f a0_0 a0_1 a0_2 a0_3 t120).bind fun bt121 => (some (bt121.1, bt121.2.1, bt121.2.2.1, bt121.2.2.2))) = some (r1, r2, r3, r4) := H
 have A2 := Aside0.mk A20
 clear A20
 replace H := Option.bind_eq_some_iff.mp H
 obtain ⟨⟨t121, t122, t123, t124⟩, A30, H⟩ := H
 replace H : (some (t121, t122, t123, t124)) = some (r1, r2, r3, r4) := H
 have A3 := Aside0.mk A30
 clear A30
 simp only [Option.some.injEq, Prod.mk.injEq] at H
 obtain ⟨rfl, rfl, rfl, rfl⟩ := H
 go_enter Tryz.func119, Tryz.ntmps119
 try go_wp2_with (first | ((with_reducible refine gate_dst (N := 1) rfl ?_); refine bx_ 1 #[.bool a0_0, .int .u64 a0_1, .int .u64 a0_2, .int .i64 a0_3] 28 ?_; intro gb118 hg w4 hbox hb; have BK118 := Aside0.mk (hbox); have GW118 := gw_ HB hg; have GE118 := gw_ HB hg; replace HB := bs_ HB hb; clear hb hbox hg) | ((with_reducible refine gate_dst (N := 2) rfl ?_); refine bx_ 2 #[.int .u64 0, .int .u64 0] 24 ?_; intro gb119 hg w5 hbox hb; have BK119 := Aside0.mk (hbox); have GW119 := gw_ HB hg; have GE119 := gw_ HB hg; have NB118_119 := nl_ BK118 hg; have NB119_118 := ng_ BK118 hg; replace BK118 := bb_ BK118 hb; replace HB := bs_ HB hb; clear hb hbox hg))
 replace BK118 := Aside0.mk (blk_drew BK118.out)
 replace BK119 := Aside0.mk (blk_drew BK119.out)
 replace HB := Aside0.mk (below_drew1 HB.out)
 refine start_ (n := 11) (S := fun w' => w'.cell? ⟨gb118, 0, none⟩ = some (.bool a0_0) ∧ w'.cell? ⟨gb118, 1, none⟩ = some (.int .u64 a0_1) ∧ w'.cell? ⟨gb118, 2, none⟩ = some (.int .u64 a0_2) ∧ w'.cell? ⟨gb118, 3, none⟩ = some (.int .i64 a0_3)) (ds := []) (bm_ 11 0) (by kernel_rfl) rfl rfl ⟨kc_ BK118 0, kc_ BK118 1, kc_ BK118 2, kc_ BK118 3⟩ (fun hHeld => ?_); refine with_tabW carve_Hosts.tab1 carve_Hosts.bits1 (fun HT_ HW_ => ?_)
 generalize w5.drew = w6 at BK118 BK119 HB hHeld ⊢
 refine pu_ 1 (some 6) (bm_ 11 2) rfl HT_ ⟨by rfl, by intro w'; go_simp; with_reducible rfl⟩ ?_
 refine ta_ 0 (some 5) (bm_ 11 3) rfl HT_ HW_ ⟨by rfl, by rintro w' ⟨s0, s1, s2, s3⟩; go_simp; with_reducible rfl⟩ hHeld ?_
 refine ta_ 2 (some 7) (bm_ 11 7) rfl HT_ HW_ ⟨by rfl, by rintro w' ⟨s0, s1, s2, s3⟩; go_simp; with_reducible rfl⟩ hHeld ?_
 refine one_ (i := 3) (N := some 8) (bm_ 11 15) rfl rfl (one_of HT_.out (by kernel_rfl)) (by decide) (fun K hK => ?_)
 refine gr_ Tryz.func132 #[.agg #[.bool a0_0, .int .u64 a0_1, .int .u64 a0_2]] ?_
 with_reducible refine (addr_Width.calls a0_0 a0_1 a0_2 t120 _ A2.out).mono ?_
 rintro e w7 ⟨rfl, hb⟩
 refine ⟨_, rfl, ?_⟩
 replace BK118 := bb_ BK118 hb
 replace BK119 := bb_ BK119 hb
 replace HB := bs_ HB hb
 (try clear hb)
 (try clear hb2)
 (try clear hk)
 (try clear hi)
 refine hK.out _ _ ⟨kc_ BK118 0, kc_ BK118 1, kc_ BK118 2, kc_ BK118 3⟩ (fun hHeld => ?_)
 clear hK K
 refine norm_ (a' := ?_) ?_ ?_
 rotate_left
 ·
  show Act.put _ (some 8) _ = _
  simp only [Act.put, List.setIfInBounds_toArray, List.set_cons_zero, List.set_cons_succ, i64_w, i32_w]
  rfl
 refine one_ (i := 4) (N := some 9) (bm_ 11 31) rfl rfl (one_of HT_.out (by kernel_rfl)) (by decide) (fun K hK => ?_)
 refine gr_ Tryz.func95 #[.agg #[.bool a0_0, .int .u64 a0_1, .int .u64 a0_2, .int .i64 a0_3], .int .i64 t120] ?_
 with_reducible refine (carve_Blocks.calls a0_0 a0_1 a0_2 a0_3 t120 t121 t122 t123 t124 _ A3.out).mono ?_
 rintro e w8 ⟨rfl, hb⟩
 refine ⟨_, rfl, ?_⟩
 replace BK118 := bb_ BK118 hb
 replace BK119 := bb_ BK119 hb
 replace HB := bs_ HB hb
 (try clear hb)
 (try clear hb2)
 (try clear hk)
 (try clear hi)
 refine hK.out _ _ ⟨kc_ BK118 0, kc_ BK118 1, kc_ BK118 2, kc_ BK118 3⟩ (fun hHeld => ?_)
 clear hK K
 refine norm_ (a' := ?_) ?_ ?_
 rotate_left
 ·
  show Act.put _ (some 9) _ = _
  simp only [Act.put, List.setIfInBounds_toArray, List.set_cons_zero, List.set_cons_succ, i64_w, i32_w]
  rfl
 refine pu_ 5 (some 10) (bm_ 11 63) rfl HT_ ⟨by rfl, by intro w'; go_simp; with_reducible rfl⟩ ?_
 refine pu_ 6 (some 11) (bm_ 11 127) rfl HT_ ⟨by rfl, by intro w'; go_simp; with_reducible rfl⟩ ?_
 refine pu_ 7 (some 12) (bm_ 11 255) rfl HT_ ⟨by rfl, by intro w'; go_simp; with_reducible rfl⟩ ?_
 refine one_ (i := 8) (N := none) (bm_ 11 511) rfl rfl (one_of HT_.out (by kernel_rfl)) (by decide) (fun K hK => ?_)
 have hs9 : w8.cell? ⟨gb119, 0, none⟩ = some (.int .u64 0) := kc_ BK119 0
 have hfs9 := blk_frozen BK119.out 0
 have hns9_0 := NB118_119.out
 have hms9_0 := NB119_118.out
 have hs10 : w8.cell? ⟨gb119, 1, none⟩ = some (.int .u64 0) := kc_ BK119 1
 have hfs10 := blk_frozen BK119.out 1
 have hns10_0 := NB118_119.out
 have hms10_0 := NB119_118.out
 refine skip_ (w1 := ?_) (by rfl) rfl ?_ ?_
 rotate_left
 ·
  go_simp
  rfl
 refine hK.out _ _ ⟨((cell_far (p := ⟨gb119, _, none⟩) NB118_119.out _).trans (((cell_far (p := ⟨gb119, _, none⟩) NB118_119.out _).trans (hHeld.1)))), ((cell_far (p := ⟨gb119, _, none⟩) NB118_119.out _).trans (((cell_far (p := ⟨gb119, _, none⟩) NB118_119.out _).trans (hHeld.2.1)))), ((cell_far (p := ⟨gb119, _, none⟩) NB118_119.out _).trans (((cell_far (p := ⟨gb119, _, none⟩) NB118_119.out _).trans (hHeld.2.2.1)))), ((cell_far (p := ⟨gb119, _, none⟩) NB118_119.out _).trans (((cell_far (p := ⟨gb119, _, none⟩) NB118_119.out _).trans (hHeld.2.2.2))))⟩ (fun hHeld => ?_)
 clear hK K
 refine pu_ 9 (some 3) (bm_ 11 1023) rfl HT_ ⟨by rfl, by intro w'; go_simp; with_reducible rfl⟩ ?_
 refine pu_ 10 (some 4) (bm_ 11 2047) rfl HT_ ⟨by rfl, by intro w'; go_simp; with_reducible rfl⟩ ?_
 refine done_ (done_of HT_.out (by kernel_rfl)) ?_
 try go_wp2
 refine bodyPost_ret (results_ctt rfl _ _ gb119 24 #[.int .u64 t121, .int .u64 t122] (0, 0) _ rfl (by refine pw_ ?_; refine blk_put (cs := #[.int .u64 t121, .int .u64 0]) ?_ 1 _ rfl; refine pw_ ?_; refine blk_put (cs := #[.int .u64 0, .int .u64 0]) ?_ 0 _ rfl; refine pw_ ?_; exact BK119.out) Tryz.underlying24 rfl (by kernel_rfl)) rfl ?_
 exact ⟨by first | rfl | (simp [errW_none, errW_some] <;> rfl) | (simp [*, errW_none, errW_some] <;> rfl), pb_ HB⟩

def pool_size.f (a0_0 : Bool) (a0_1 : Int) (a0_2 : Int) (a0_3 : Int) : Option (Int × Bool) := (carve_Hosts.f a0_0 a0_1 a0_2 a0_3).bind fun bt126 => (if bt126.2.2.2 = 0 then ((num_Small.f bt126.1 bt126.2.1).bind fun bt131 => (if bt126.2.2.1 = true then (if bt131.2 = true then (if bt131.1 > 65536 then (some (65536, true)) else (some (wrap64 (bt131.1), decide (bt131.1 ≥ 4)))) else (some (65536, true))) else (some (65536, true)))) else (some (0, false)))
set_option maxHeartbeats 8000000 in
set_option maxRecDepth 100000 in
theorem pool_size.calls (a0_0 : Bool) (a0_1 : Int) (a0_2 : Int) (a0_3 : Int) (r1 : Int) (r2 : Bool) (w : World) (h : pool_size.f a0_0 a0_1 a0_2 a0_3 = some (r1, r2)) :
  Calls Tryz.prog 68 #[.agg #[.bool a0_0, .int .u64 a0_1, .int .u64 a0_2, .int .i64 a0_3]] w fun e w' => e = .returned (.tuple #[.int .i64 r1, .bool r2]) ∧ Below w.heap.size w w' := by
 have hu28 := Tryz.underlying28
 have hu24 := Tryz.underlying24
 have HB := Aside0.mk (Below.refl w.heap.size w)
 have H : ((carve_Hosts.f a0_0 a0_1 a0_2 a0_3).bind fun bt126 => (if bt126.2.2.2 = 0 then ((num_Small.f bt126.1 bt126.2.1).bind fun bt131 => (if bt126.2.2.1 = true then (if bt131.2 = true then (if bt131.1 > 65536 then (some (65536, true)) else (some (wrap64 (bt131.1), decide (bt131.1 ≥ 4)))) else (some (65536, true))) else (some (65536, true)))) else (some (0, false)))) = some (r1, r2) := h
 clear h
 replace H := Option.bind_eq_some_iff.mp H
 obtain ⟨⟨t126, t127, t128, t129⟩, A20, H⟩ := H
 replace H : (if t129 = 0 then ((num_Small.f t126 t127).bind fun bt131 => (if t128 = true then (if bt131.2 = true then (if bt131.1 > 65536 then (some (65536, true)) else (some (wrap64 (bt131.1), decide (bt131.1 ≥ 4)))) else (some (65536, true))) else (some (65536, true)))) else (some (0, false))) = some (r1, r2) := H
 have A2 := Aside0.mk A20
 clear A20
 by_cases c3 : t129 = 0
 ·
  rw [if_pos c3] at H
  have c3b0 : (t129 == 0) = true := beq_iff_eq.mpr c3
  have c3b1 : (t129 != 0) = false := bne_eq_false_iff_eq.mpr c3
  clear c3
  replace H := Option.bind_eq_some_iff.mp H
  obtain ⟨⟨t131, t132⟩, A40, H⟩ := H
  replace H : (if t128 = true then (if t132 = true then (if t131 > 65536 then (some (65536, true)) else (some (wrap64 (t131), decide (t131 ≥ 4)))) else (some (65536, true))) else (some (65536, true))) = some (r1, r2) := H
  have A4 := Aside0.mk A40
  clear A40
  by_cases c5 : t128 = true
  ·
   subst c5
   rw [if_pos rfl] at H
   by_cases c6 : t132 = true
   ·
    subst c6
    rw [if_pos rfl] at H
    by_cases c7 : t131 > 65536
    ·
     rw [if_pos c7] at H
     have c7b0 : decide (65536 < t131) = true := decide_eq_true c7
     clear c7
     simp only [Option.some.injEq, Prod.mk.injEq] at H
     obtain ⟨rfl, rfl⟩ := H
     go_enter Tryz.func68, Tryz.ntmps68
     go_wp2_with (first | ((with_reducible refine gate_dst (N := 1) rfl ?_); refine bx_ 1 #[.bool a0_0, .int .u64 a0_1, .int .u64 a0_2, .int .i64 a0_3] 28 ?_; intro gb125 hg w8 hbox hb; have BK125 := Aside0.mk (hbox); have GW125 := gw_ HB hg; have GE125 := gw_ HB hg; replace HB := bs_ HB hb; clear hb hbox hg; obtain ⟨hcz9_0, hcz9_1, hcz9_2, hcz9_3, hfz9_0, hfz9_1, hfz9_2, hfz9_3⟩ := c4_ BK125) | ((with_reducible refine gate_callee (f := 119) rfl ?_); refine gl_ (some 11) Tryz.func119 #[.agg #[.bool a0_0, .int .u64 a0_1, .int .u64 a0_2, .int .i64 a0_3]] ?_; (with_reducible refine (carve_Hosts.calls a0_0 a0_1 a0_2 a0_3 t126 t127 true t129 _ A2.out).mono ?_); rintro e w10 ⟨rfl, hb⟩; refine ⟨_, rfl, ?_⟩; replace BK125 := bb_ BK125 hb; replace HB := bs_ HB hb; (try clear hb); (try clear hb2); (try clear hk); (try clear hi)) | ((with_reducible refine gate_dst (N := 4) rfl ?_); refine bx_ 4 #[.int .u64 0, .int .u64 0] 24 ?_; intro gb130 hg w11 hbox hb; have BK130 := Aside0.mk (hbox); have GW130 := gw_ HB hg; have GE130 := gw_ HB hg; have NB125_130 := nl_ BK125 hg; have NB130_125 := ng_ BK125 hg; replace BK125 := bb_ BK125 hb; replace HB := bs_ HB hb; clear hb hbox hg; have hnb12 := NB130_125.out; have hnc12 := NB125_130.out; obtain ⟨hcz13_0, hcz13_1, hfz13_0, hfz13_1⟩ := c2_ BK130) | ((with_reducible refine gate_callee (f := 96) rfl ?_); refine gl_ (some 19) Tryz.func96 #[.agg #[.int .u64 t126, .int .u64 t127]] ?_; (with_reducible refine (num_Small.calls t126 t127 t131 true _ A4.out).mono ?_); rintro e w14 ⟨rfl, hb⟩; refine ⟨_, rfl, ?_⟩; replace BK125 := Aside0.mk (blk_below (g := gb125) (o := .cells #[.bool a0_0, .int .u64 a0_1, .int .u64 a0_2, .int .i64 a0_3] 28 (0, 0)) (by refine pw_ ?_; refine blk_far ?_ NB125_130.out _; refine pw_ ?_; refine blk_far ?_ NB125_130.out _; refine pw_ ?_; exact BK125.out) hb); replace BK130 := Aside0.mk (blk_below (g := gb130) (o := .cells #[.int .u64 t126, .int .u64 t127] 24 (0, 0)) (by refine pw_ ?_; refine blk_put (cs := #[.int .u64 t126, .int .u64 0]) ?_ 1 _ rfl; refine pw_ ?_; refine blk_put (cs := #[.int .u64 0, .int .u64 0]) ?_ 0 _ rfl; refine pw_ ?_; exact BK130.out) hb); replace HB := bs_ HB hb; (try clear hb); (try clear hb2); (try clear hk); (try clear hi)))
     go_ret2
     exact ⟨by first | rfl | (simp [errW_none, errW_some] <;> rfl) | (simp [*, errW_none, errW_some] <;> rfl), pb_ HB⟩
    ·
     rw [if_neg c7] at H
     have c7b0 : decide (65536 < t131) = false := decide_eq_false c7
     clear c7
     simp only [Option.some.injEq, Prod.mk.injEq] at H
     obtain ⟨rfl, rfl⟩ := H
     go_enter Tryz.func68, Tryz.ntmps68
     go_wp2_with (first | ((with_reducible refine gate_dst (N := 1) rfl ?_); refine bx_ 1 #[.bool a0_0, .int .u64 a0_1, .int .u64 a0_2, .int .i64 a0_3] 28 ?_; intro gb125 hg w15 hbox hb; have BK125 := Aside0.mk (hbox); have GW125 := gw_ HB hg; have GE125 := gw_ HB hg; replace HB := bs_ HB hb; clear hb hbox hg; obtain ⟨hcz16_0, hcz16_1, hcz16_2, hcz16_3, hfz16_0, hfz16_1, hfz16_2, hfz16_3⟩ := c4_ BK125) | ((with_reducible refine gate_callee (f := 119) rfl ?_); refine gl_ (some 11) Tryz.func119 #[.agg #[.bool a0_0, .int .u64 a0_1, .int .u64 a0_2, .int .i64 a0_3]] ?_; (with_reducible refine (carve_Hosts.calls a0_0 a0_1 a0_2 a0_3 t126 t127 true t129 _ A2.out).mono ?_); rintro e w17 ⟨rfl, hb⟩; refine ⟨_, rfl, ?_⟩; replace BK125 := bb_ BK125 hb; replace HB := bs_ HB hb; (try clear hb); (try clear hb2); (try clear hk); (try clear hi)) | ((with_reducible refine gate_dst (N := 4) rfl ?_); refine bx_ 4 #[.int .u64 0, .int .u64 0] 24 ?_; intro gb130 hg w18 hbox hb; have BK130 := Aside0.mk (hbox); have GW130 := gw_ HB hg; have GE130 := gw_ HB hg; have NB125_130 := nl_ BK125 hg; have NB130_125 := ng_ BK125 hg; replace BK125 := bb_ BK125 hb; replace HB := bs_ HB hb; clear hb hbox hg; have hnb19 := NB130_125.out; have hnc19 := NB125_130.out; obtain ⟨hcz20_0, hcz20_1, hfz20_0, hfz20_1⟩ := c2_ BK130) | ((with_reducible refine gate_callee (f := 96) rfl ?_); refine gl_ (some 19) Tryz.func96 #[.agg #[.int .u64 t126, .int .u64 t127]] ?_; (with_reducible refine (num_Small.calls t126 t127 t131 true _ A4.out).mono ?_); rintro e w21 ⟨rfl, hb⟩; refine ⟨_, rfl, ?_⟩; replace BK125 := Aside0.mk (blk_below (g := gb125) (o := .cells #[.bool a0_0, .int .u64 a0_1, .int .u64 a0_2, .int .i64 a0_3] 28 (0, 0)) (by refine pw_ ?_; refine blk_far ?_ NB125_130.out _; refine pw_ ?_; refine blk_far ?_ NB125_130.out _; refine pw_ ?_; exact BK125.out) hb); replace BK130 := Aside0.mk (blk_below (g := gb130) (o := .cells #[.int .u64 t126, .int .u64 t127] 24 (0, 0)) (by refine pw_ ?_; refine blk_put (cs := #[.int .u64 t126, .int .u64 0]) ?_ 1 _ rfl; refine pw_ ?_; refine blk_put (cs := #[.int .u64 0, .int .u64 0]) ?_ 0 _ rfl; refine pw_ ?_; exact BK130.out) hb); replace HB := bs_ HB hb; (try clear hb); (try clear hb2); (try clear hk); (try clear hi)))
     go_ret2
     exact ⟨by first | rfl | (simp [errW_none, errW_some] <;> rfl) | (simp [*, errW_none, errW_some] <;> rfl), pb_ HB⟩
   ·
    replace c6 := Bool.eq_false_iff.mpr c6
    subst c6
    have H1 : (some (65536, true)) = some (r1, r2) := by rw [if_neg (show ¬ (false = true) by decide)] at H; exact H
    clear H
    have H := H1
    clear H1
    simp only [Option.some.injEq, Prod.mk.injEq] at H
    obtain ⟨rfl, rfl⟩ := H
    go_enter Tryz.func68, Tryz.ntmps68
    go_wp2_with (first | ((with_reducible refine gate_dst (N := 1) rfl ?_); refine bx_ 1 #[.bool a0_0, .int .u64 a0_1, .int .u64 a0_2, .int .i64 a0_3] 28 ?_; intro gb125 hg w22 hbox hb; have BK125 := Aside0.mk (hbox); have GW125 := gw_ HB hg; have GE125 := gw_ HB hg; replace HB := bs_ HB hb; clear hb hbox hg; obtain ⟨hcz23_0, hcz23_1, hcz23_2, hcz23_3, hfz23_0, hfz23_1, hfz23_2, hfz23_3⟩ := c4_ BK125) | ((with_reducible refine gate_callee (f := 119) rfl ?_); refine gl_ (some 11) Tryz.func119 #[.agg #[.bool a0_0, .int .u64 a0_1, .int .u64 a0_2, .int .i64 a0_3]] ?_; (with_reducible refine (carve_Hosts.calls a0_0 a0_1 a0_2 a0_3 t126 t127 true t129 _ A2.out).mono ?_); rintro e w24 ⟨rfl, hb⟩; refine ⟨_, rfl, ?_⟩; replace BK125 := bb_ BK125 hb; replace HB := bs_ HB hb; (try clear hb); (try clear hb2); (try clear hk); (try clear hi)) | ((with_reducible refine gate_dst (N := 4) rfl ?_); refine bx_ 4 #[.int .u64 0, .int .u64 0] 24 ?_; intro gb130 hg w25 hbox hb; have BK130 := Aside0.mk (hbox); have GW130 := gw_ HB hg; have GE130 := gw_ HB hg; have NB125_130 := nl_ BK125 hg; have NB130_125 := ng_ BK125 hg; replace BK125 := bb_ BK125 hb; replace HB := bs_ HB hb; clear hb hbox hg; have hnb26 := NB130_125.out; have hnc26 := NB125_130.out; obtain ⟨hcz27_0, hcz27_1, hfz27_0, hfz27_1⟩ := c2_ BK130) | ((with_reducible refine gate_callee (f := 96) rfl ?_); refine gl_ (some 19) Tryz.func96 #[.agg #[.int .u64 t126, .int .u64 t127]] ?_; (with_reducible refine (num_Small.calls t126 t127 t131 false _ A4.out).mono ?_); rintro e w28 ⟨rfl, hb⟩; refine ⟨_, rfl, ?_⟩; replace BK125 := Aside0.mk (blk_below (g := gb125) (o := .cells #[.bool a0_0, .int .u64 a0_1, .int .u64 a0_2, .int .i64 a0_3] 28 (0, 0)) (by refine pw_ ?_; refine blk_far ?_ NB125_130.out _; refine pw_ ?_; refine blk_far ?_ NB125_130.out _; refine pw_ ?_; exact BK125.out) hb); replace BK130 := Aside0.mk (blk_below (g := gb130) (o := .cells #[.int .u64 t126, .int .u64 t127] 24 (0, 0)) (by refine pw_ ?_; refine blk_put (cs := #[.int .u64 t126, .int .u64 0]) ?_ 1 _ rfl; refine pw_ ?_; refine blk_put (cs := #[.int .u64 0, .int .u64 0]) ?_ 0 _ rfl; refine pw_ ?_; exact BK130.out) hb); replace HB := bs_ HB hb; (try clear hb); (try clear hb2); (try clear hk); (try clear hi)))
    go_ret2
    exact ⟨by first | rfl | (simp [errW_none, errW_some] <;> rfl) | (simp [*, errW_none, errW_some] <;> rfl), pb_ HB⟩
  ·
   replace c5 := Bool.eq_false_iff.mpr c5
   subst c5
   have H1 : (some (65536, true)) = some (r1, r2) := by rw [if_neg (show ¬ (false = true) by decide)] at H; exact H
   clear H
   have H := H1
   clear H1
   simp only [Option.some.injEq, Prod.mk.injEq] at H
   obtain ⟨rfl, rfl⟩ := H
   go_enter Tryz.func68, Tryz.ntmps68
   go_wp2_with (first | ((with_reducible refine gate_dst (N := 1) rfl ?_); refine bx_ 1 #[.bool a0_0, .int .u64 a0_1, .int .u64 a0_2, .int .i64 a0_3] 28 ?_; intro gb125 hg w29 hbox hb; have BK125 := Aside0.mk (hbox); have GW125 := gw_ HB hg; have GE125 := gw_ HB hg; replace HB := bs_ HB hb; clear hb hbox hg; obtain ⟨hcz30_0, hcz30_1, hcz30_2, hcz30_3, hfz30_0, hfz30_1, hfz30_2, hfz30_3⟩ := c4_ BK125) | ((with_reducible refine gate_callee (f := 119) rfl ?_); refine gl_ (some 11) Tryz.func119 #[.agg #[.bool a0_0, .int .u64 a0_1, .int .u64 a0_2, .int .i64 a0_3]] ?_; (with_reducible refine (carve_Hosts.calls a0_0 a0_1 a0_2 a0_3 t126 t127 false t129 _ A2.out).mono ?_); rintro e w31 ⟨rfl, hb⟩; refine ⟨_, rfl, ?_⟩; replace BK125 := bb_ BK125 hb; replace HB := bs_ HB hb; (try clear hb); (try clear hb2); (try clear hk); (try clear hi)) | ((with_reducible refine gate_dst (N := 4) rfl ?_); refine bx_ 4 #[.int .u64 0, .int .u64 0] 24 ?_; intro gb130 hg w32 hbox hb; have BK130 := Aside0.mk (hbox); have GW130 := gw_ HB hg; have GE130 := gw_ HB hg; have NB125_130 := nl_ BK125 hg; have NB130_125 := ng_ BK125 hg; replace BK125 := bb_ BK125 hb; replace HB := bs_ HB hb; clear hb hbox hg; have hnb33 := NB130_125.out; have hnc33 := NB125_130.out; obtain ⟨hcz34_0, hcz34_1, hfz34_0, hfz34_1⟩ := c2_ BK130) | ((with_reducible refine gate_callee (f := 96) rfl ?_); refine gl_ (some 19) Tryz.func96 #[.agg #[.int .u64 t126, .int .u64 t127]] ?_; (with_reducible refine (num_Small.calls t126 t127 t131 t132 _ A4.out).mono ?_); rintro e w35 ⟨rfl, hb⟩; refine ⟨_, rfl, ?_⟩; replace BK125 := Aside0.mk (blk_below (g := gb125) (o := .cells #[.bool a0_0, .int .u64 a0_1, .int .u64 a0_2, .int .i64 a0_3] 28 (0, 0)) (by refine pw_ ?_; refine blk_far ?_ NB125_130.out _; refine pw_ ?_; refine blk_far ?_ NB125_130.out _; refine pw_ ?_; exact BK125.out) hb); replace BK130 := Aside0.mk (blk_below (g := gb130) (o := .cells #[.int .u64 t126, .int .u64 t127] 24 (0, 0)) (by refine pw_ ?_; refine blk_put (cs := #[.int .u64 t126, .int .u64 0]) ?_ 1 _ rfl; refine pw_ ?_; refine blk_put (cs := #[.int .u64 0, .int .u64 0]) ?_ 0 _ rfl; refine pw_ ?_; exact BK130.out) hb); replace HB := bs_ HB hb; (try clear hb); (try clear hb2); (try clear hk); (try clear hi)))
   go_ret2
   exact ⟨by first | rfl | (simp [errW_none, errW_some] <;> rfl) | (simp [*, errW_none, errW_some] <;> rfl), pb_ HB⟩
 ·
  rw [if_neg c3] at H
  have c3b0 : (t129 == 0) = false := beq_eq_false_iff_ne.mpr c3
  have c3b1 : (t129 != 0) = true := bne_iff_ne.mpr c3
  simp only [Option.some.injEq, Prod.mk.injEq] at H
  obtain ⟨rfl, rfl⟩ := H
  go_enter Tryz.func68, Tryz.ntmps68
  go_wp2_with (first | ((with_reducible refine gate_dst (N := 1) rfl ?_); refine bx_ 1 #[.bool a0_0, .int .u64 a0_1, .int .u64 a0_2, .int .i64 a0_3] 28 ?_; intro gb125 hg w36 hbox hb; have BK125 := Aside0.mk (hbox); have GW125 := gw_ HB hg; have GE125 := gw_ HB hg; replace HB := bs_ HB hb; clear hb hbox hg; obtain ⟨hcz37_0, hcz37_1, hcz37_2, hcz37_3, hfz37_0, hfz37_1, hfz37_2, hfz37_3⟩ := c4_ BK125) | ((with_reducible refine gate_callee (f := 119) rfl ?_); refine gl_ (some 11) Tryz.func119 #[.agg #[.bool a0_0, .int .u64 a0_1, .int .u64 a0_2, .int .i64 a0_3]] ?_; (with_reducible refine (carve_Hosts.calls a0_0 a0_1 a0_2 a0_3 t126 t127 t128 t129 _ A2.out).mono ?_); rintro e w38 ⟨rfl, hb⟩; refine ⟨_, rfl, ?_⟩; replace BK125 := bb_ BK125 hb; replace HB := bs_ HB hb; (try clear hb); (try clear hb2); (try clear hk); (try clear hi)) | ((with_reducible refine gate_dst (N := 4) rfl ?_); refine bx_ 4 #[.int .u64 0, .int .u64 0] 24 ?_; intro gb130 hg w39 hbox hb; have BK130 := Aside0.mk (hbox); have GW130 := gw_ HB hg; have GE130 := gw_ HB hg; have NB125_130 := nl_ BK125 hg; have NB130_125 := ng_ BK125 hg; replace BK125 := bb_ BK125 hb; replace HB := bs_ HB hb; clear hb hbox hg; have hnb40 := NB130_125.out; have hnc40 := NB125_130.out; obtain ⟨hcz41_0, hcz41_1, hfz41_0, hfz41_1⟩ := c2_ BK130))
  go_ret2
  exact ⟨by first | rfl | (simp [errW_none, errW_some] <;> rfl) | (simp [*, errW_none, errW_some] <;> rfl), pb_ HB⟩

def prefix_Last.f (a0_0 : Bool) (a0_1 : Int) (a0_2 : Int) (a0_3 : Int) : Option (Bool × Int × Int) := (prefix_Right.f a0_0 a0_1 a0_2 a0_3).bind fun t135 => (if t135 = true then ((prefix_free.f a0_0 a0_1 a0_2 a0_3).bind fun bt136 => ((num_Or.f a0_1 a0_2 bt136.1 bt136.2).bind fun bt138 => (some (a0_0, bt138.1, bt138.2)))) else (some (false, 0, 0)))
def prefix_Last.T3 : Bool × List (List Nat × List Nat) := (true, [([], []), ([0], [0]), ([1], [1]), ([], []), ([3], [3]), ([4], [4]), ([], []), ([6], [6]), ([5, 7, 7], [5, 7]), ([2, 8], [2, 8]), ([9, 8, 0, 1, 2, 3, 4, 5, 6, 7, 8, 9], [9])])
def prefix_Last.B3 : List Nat := [0, 1, 3, 0, 8, 24, 0, 64, 248, 511, 1023]
theorem prefix_Last.tab3 : rtab .any (opsOf Tryz.f34 3) = prefix_Last.T3 := by kernel_rfl
theorem prefix_Last.bits3 : waitsOk prefix_Last.T3.2 prefix_Last.B3 = true := by kernel_rfl
set_option maxHeartbeats 8000000 in
set_option maxRecDepth 100000 in
theorem prefix_Last.calls (a0_0 : Bool) (a0_1 : Int) (a0_2 : Int) (a0_3 : Int) (r1 : Bool) (r2 : Int) (r3 : Int) (w : World) (h : prefix_Last.f a0_0 a0_1 a0_2 a0_3 = some (r1, r2, r3)) :
  Calls Tryz.prog 34 #[.agg #[.bool a0_0, .int .u64 a0_1, .int .u64 a0_2, .int .i64 a0_3]] w fun e w' => e = .returned (.agg #[.bool r1, .int .u64 r2, .int .u64 r3]) ∧ Below w.heap.size w w' := by
 have hu28 := Tryz.underlying28
 have hu26 := Tryz.underlying26
 have hu24 := Tryz.underlying24
 have HB := Aside0.mk (Below.refl w.heap.size w)
 have H : ((prefix_Right.f a0_0 a0_1 a0_2 a0_3).bind fun t135 => (if t135 = true then ((prefix_free.f a0_0 a0_1 a0_2 a0_3).bind fun bt136 => ((num_Or.f a0_1 a0_2 bt136.1 bt136.2).bind fun bt138 => (some (a0_0, bt138.1, bt138.2)))) else (some (false, 0, 0)))) = some (r1, r2, r3) := h
 clear h
 replace H := Option.bind_eq_some_iff.mp H
 obtain ⟨t135, A20, H⟩ := H
 replace H : (if t135 = true then ((prefix_free.f a0_0 a0_1 a0_2 a0_3).bind fun bt136 => ((num_Or.f a0_1 a0_2 bt136.1 bt136.2).bind fun bt138 => (some (a0_0, bt138.1, bt138.2)))) else (some (false, 0, 0))) = some (r1, r2, r3) := H
 have A2 := Aside0.mk A20
 clear A20
 by_cases c3 : t135 = true
 ·
  subst c3
  rw [if_pos rfl] at H
  replace H := Option.bind_eq_some_iff.mp H
  obtain ⟨⟨t136, t137⟩, A40, H⟩ := H
  replace H : ((num_Or.f a0_1 a0_2 t136 t137).bind fun bt138 => (some (a0_0, bt138.1, bt138.2))) = some (r1, r2, r3) := H
  have A4 := Aside0.mk A40
  clear A40
  replace H := Option.bind_eq_some_iff.mp H
  obtain ⟨⟨t138, t139⟩, A50, H⟩ := H
  replace H : (some (a0_0, t138, t139)) = some (r1, r2, r3) := H
  have A5 := Aside0.mk A50
  clear A50
  simp only [Option.some.injEq, Prod.mk.injEq] at H
  obtain ⟨rfl, rfl, rfl⟩ := H
  go_enter Tryz.func34, Tryz.ntmps34
  try go_wp2_with (first | ((with_reducible refine gate_dst (N := 1) rfl ?_); refine bx_ 1 #[.bool a0_0, .int .u64 a0_1, .int .u64 a0_2, .int .i64 a0_3] 28 ?_; intro gb133 hg w6 hbox hb; have BK133 := Aside0.mk (hbox); have GW133 := gw_ HB hg; have GE133 := gw_ HB hg; replace HB := bs_ HB hb; clear hb hbox hg) | ((with_reducible refine gate_dst (N := 2) rfl ?_); refine bx_ 2 #[.bool false, .int .u64 0, .int .u64 0] 26 ?_; intro gb134 hg w7 hbox hb; have BK134 := Aside0.mk (hbox); have GW134 := gw_ HB hg; have GE134 := gw_ HB hg; have NB133_134 := nl_ BK133 hg; have NB134_133 := ng_ BK133 hg; replace BK133 := bb_ BK133 hb; replace HB := bs_ HB hb; clear hb hbox hg; have hnb8 := NB133_134.out; have hnc8 := NB134_133.out; obtain ⟨hcz9_0, hcz9_1, hcz9_2, hcz9_3, hfz9_0, hfz9_1, hfz9_2, hfz9_3⟩ := c4_ BK133) | ((with_reducible refine gate_callee (f := 90) rfl ?_); refine gl_ (some 4) Tryz.func90 #[.agg #[.bool a0_0, .int .u64 a0_1, .int .u64 a0_2, .int .i64 a0_3]] ?_; (with_reducible refine (prefix_Right.calls a0_0 a0_1 a0_2 a0_3 true _ A2.out).mono ?_); rintro e w10 ⟨rfl, hb⟩; refine ⟨_, rfl, ?_⟩; replace BK133 := bb_ BK133 hb; replace BK134 := bb_ BK134 hb; replace HB := bs_ HB hb; (try clear hb); (try clear hb2); (try clear hk); (try clear hi)))
  replace BK133 := Aside0.mk (blk_drew BK133.out)
  replace BK134 := Aside0.mk (blk_drew BK134.out)
  replace HB := Aside0.mk (below_drew1 HB.out)
  refine start_ (n := 11) (S := fun w' => w'.cell? ⟨gb133, 0, none⟩ = some (.bool a0_0) ∧ w'.cell? ⟨gb133, 1, none⟩ = some (.int .u64 a0_1) ∧ w'.cell? ⟨gb133, 2, none⟩ = some (.int .u64 a0_2) ∧ w'.cell? ⟨gb133, 3, none⟩ = some (.int .i64 a0_3)) (ds := []) (bm_ 11 0) (by kernel_rfl) rfl rfl ⟨kc_ BK133 0, kc_ BK133 1, kc_ BK133 2, kc_ BK133 3⟩ (fun hHeld => ?_); refine with_tabW prefix_Last.tab3 prefix_Last.bits3 (fun HT_ HW_ => ?_)
  generalize w10.drew = w11 at BK133 BK134 HB hHeld ⊢
  refine pu_ 0 (some 7) (bm_ 11 1) rfl HT_ ⟨by rfl, by intro w'; go_simp; with_reducible rfl⟩ ?_
  refine pu_ 1 (some 8) (bm_ 11 3) rfl HT_ ⟨by rfl, by intro w'; go_simp; with_reducible rfl⟩ ?_
  refine pu_ 3 (some 10) (bm_ 11 11) rfl HT_ ⟨by rfl, by intro w'; go_simp; with_reducible rfl⟩ ?_
  refine pu_ 4 (some 11) (bm_ 11 27) rfl HT_ ⟨by rfl, by intro w'; go_simp; with_reducible rfl⟩ ?_
  refine ta_ 2 (some 9) (bm_ 11 31) rfl HT_ HW_ ⟨by rfl, by rintro w' ⟨s0, s1, s2, s3⟩; go_simp; with_reducible rfl⟩ hHeld ?_
  refine ta_ 5 (some 12) (bm_ 11 63) rfl HT_ HW_ ⟨by rfl, by rintro w' ⟨s0, s1, s2, s3⟩; go_simp; with_reducible rfl⟩ hHeld ?_
  refine ta_ 6 (some 13) (bm_ 11 127) rfl HT_ HW_ ⟨by rfl, by rintro w' ⟨s0, s1, s2, s3⟩; go_simp; with_reducible rfl⟩ hHeld ?_
  refine one_ (i := 7) (N := some 14) (bm_ 11 255) rfl rfl (one_of HT_.out (by kernel_rfl)) (by decide) (fun K hK => ?_)
  refine gr_ Tryz.func94 #[.agg #[.bool a0_0, .int .u64 a0_1, .int .u64 a0_2, .int .i64 a0_3]] ?_
  with_reducible refine (prefix_free.calls a0_0 a0_1 a0_2 a0_3 t136 t137 _ A4.out).mono ?_
  rintro e w12 ⟨rfl, hb⟩
  refine ⟨_, rfl, ?_⟩
  replace BK133 := bb_ BK133 hb
  replace BK134 := bb_ BK134 hb
  replace HB := bs_ HB hb
  (try clear hb)
  (try clear hb2)
  (try clear hk)
  (try clear hi)
  refine hK.out _ _ ⟨kc_ BK133 0, kc_ BK133 1, kc_ BK133 2, kc_ BK133 3⟩ (fun hHeld => ?_)
  clear hK K
  refine norm_ (a' := ?_) ?_ ?_
  rotate_left
  ·
   show Act.put _ (some 14) _ = _
   simp only [Act.put, List.setIfInBounds_toArray, List.set_cons_zero, List.set_cons_succ, i64_w, i32_w]
   rfl
  refine one_ (i := 8) (N := some 15) (bm_ 11 511) rfl rfl (one_of HT_.out (by kernel_rfl)) (by decide) (fun K hK => ?_)
  refine gr_ Tryz.func93 #[.agg #[.int .u64 a0_1, .int .u64 a0_2], .agg #[.int .u64 t136, .int .u64 t137]] ?_
  with_reducible refine (num_Or.calls a0_1 a0_2 t136 t137 t138 t139 _ A5.out).mono ?_
  rintro e w13 ⟨rfl, hb⟩
  refine ⟨_, rfl, ?_⟩
  replace BK133 := bb_ BK133 hb
  replace BK134 := bb_ BK134 hb
  replace HB := bs_ HB hb
  (try clear hb)
  (try clear hb2)
  (try clear hk)
  (try clear hi)
  refine hK.out _ _ ⟨kc_ BK133 0, kc_ BK133 1, kc_ BK133 2, kc_ BK133 3⟩ (fun hHeld => ?_)
  clear hK K
  refine norm_ (a' := ?_) ?_ ?_
  rotate_left
  ·
   show Act.put _ (some 15) _ = _
   simp only [Act.put, List.setIfInBounds_toArray, List.set_cons_zero, List.set_cons_succ, i64_w, i32_w]
   rfl
  refine pu_ 9 (some 16) (bm_ 11 1023) rfl HT_ ⟨by rfl, by intro w'; go_simp; with_reducible rfl⟩ ?_
  refine one_ (i := 10) (N := none) (bm_ 11 2047) rfl rfl (one_of HT_.out (by kernel_rfl)) (by decide) (fun K hK => ?_)
  have hs14 : w13.cell? ⟨gb134, 0, none⟩ = some (.bool false) := kc_ BK134 0
  have hfs14 := blk_frozen BK134.out 0
  have hns14_0 := NB133_134.out
  have hms14_0 := NB134_133.out
  have hs15 : w13.cell? ⟨gb134, 1, none⟩ = some (.int .u64 0) := kc_ BK134 1
  have hfs15 := blk_frozen BK134.out 1
  have hns15_0 := NB133_134.out
  have hms15_0 := NB134_133.out
  have hs16 : w13.cell? ⟨gb134, 2, none⟩ = some (.int .u64 0) := kc_ BK134 2
  have hfs16 := blk_frozen BK134.out 2
  have hns16_0 := NB133_134.out
  have hms16_0 := NB134_133.out
  refine skip_ (w1 := ?_) (by rfl) rfl ?_ ?_
  rotate_left
  ·
   go_simp
   rfl
  refine hK.out _ _ ⟨((cell_far (p := ⟨gb134, _, none⟩) NB133_134.out _).trans (((cell_far (p := ⟨gb134, _, none⟩) NB133_134.out _).trans (((cell_far (p := ⟨gb134, _, none⟩) NB133_134.out _).trans (hHeld.1)))))), ((cell_far (p := ⟨gb134, _, none⟩) NB133_134.out _).trans (((cell_far (p := ⟨gb134, _, none⟩) NB133_134.out _).trans (((cell_far (p := ⟨gb134, _, none⟩) NB133_134.out _).trans (hHeld.2.1)))))), ((cell_far (p := ⟨gb134, _, none⟩) NB133_134.out _).trans (((cell_far (p := ⟨gb134, _, none⟩) NB133_134.out _).trans (((cell_far (p := ⟨gb134, _, none⟩) NB133_134.out _).trans (hHeld.2.2.1)))))), ((cell_far (p := ⟨gb134, _, none⟩) NB133_134.out _).trans (((cell_far (p := ⟨gb134, _, none⟩) NB133_134.out _).trans (((cell_far (p := ⟨gb134, _, none⟩) NB133_134.out _).trans (hHeld.2.2.2))))))⟩ (fun hHeld => ?_)
  clear hK K
  refine done_ (done_of HT_.out (by kernel_rfl)) ?_
  try go_wp2
  refine bodyPost_ret (results_cell_row rfl _ _ gb134 26 #[.bool a0_0, .int .u64 t138, .int .u64 t139] (0, 0) _ rfl (by refine pw_ ?_; refine blk_put (cs := #[.bool a0_0, .int .u64 t138, .int .u64 0]) ?_ 2 _ rfl; refine pw_ ?_; refine blk_put (cs := #[.bool a0_0, .int .u64 0, .int .u64 0]) ?_ 1 _ rfl; refine pw_ ?_; refine blk_put (cs := #[.bool false, .int .u64 0, .int .u64 0]) ?_ 0 _ rfl; refine pw_ ?_; exact BK134.out) Tryz.underlying26 rfl (by kernel_rfl)) rfl ?_
  exact ⟨by first | rfl | (simp [errW_none, errW_some] <;> rfl) | (simp [*, errW_none, errW_some] <;> rfl), pb_ HB⟩
 ·
  replace c3 := Bool.eq_false_iff.mpr c3
  subst c3
  have H1 : (some (false, 0, 0)) = some (r1, r2, r3) := by rw [if_neg (show ¬ (false = true) by decide)] at H; exact H
  clear H
  have H := H1
  clear H1
  simp only [Option.some.injEq, Prod.mk.injEq] at H
  obtain ⟨rfl, rfl, rfl⟩ := H
  go_enter Tryz.func34, Tryz.ntmps34
  go_wp2_with (first | ((with_reducible refine gate_dst (N := 1) rfl ?_); refine bx_ 1 #[.bool a0_0, .int .u64 a0_1, .int .u64 a0_2, .int .i64 a0_3] 28 ?_; intro gb133 hg w17 hbox hb; have BK133 := Aside0.mk (hbox); have GW133 := gw_ HB hg; have GE133 := gw_ HB hg; replace HB := bs_ HB hb; clear hb hbox hg) | ((with_reducible refine gate_dst (N := 2) rfl ?_); refine bx_ 2 #[.bool false, .int .u64 0, .int .u64 0] 26 ?_; intro gb134 hg w18 hbox hb; have BK134 := Aside0.mk (hbox); have GW134 := gw_ HB hg; have GE134 := gw_ HB hg; have NB133_134 := nl_ BK133 hg; have NB134_133 := ng_ BK133 hg; replace BK133 := bb_ BK133 hb; replace HB := bs_ HB hb; clear hb hbox hg; have hnb19 := NB133_134.out; have hnc19 := NB134_133.out; obtain ⟨hcz20_0, hcz20_1, hcz20_2, hcz20_3, hfz20_0, hfz20_1, hfz20_2, hfz20_3⟩ := c4_ BK133) | ((with_reducible refine gate_callee (f := 90) rfl ?_); refine gl_ (some 4) Tryz.func90 #[.agg #[.bool a0_0, .int .u64 a0_1, .int .u64 a0_2, .int .i64 a0_3]] ?_; (with_reducible refine (prefix_Right.calls a0_0 a0_1 a0_2 a0_3 false _ A2.out).mono ?_); rintro e w21 ⟨rfl, hb⟩; refine ⟨_, rfl, ?_⟩; replace BK133 := bb_ BK133 hb; replace BK134 := bb_ BK134 hb; replace HB := bs_ HB hb; (try clear hb); (try clear hb2); (try clear hk); (try clear hi); obtain ⟨hcz22_0, hcz22_1, hcz22_2, hfz22_0, hfz22_1, hfz22_2⟩ := c3_ BK134))
  refine bodyPost_ret (results_cell_row rfl _ _ gb134 26 #[.bool false, .int .u64 0, .int .u64 0] (0, 0) _ rfl (by refine pw_ ?_; refine blk_put (cs := #[.bool false, .int .u64 0, .int .u64 0]) ?_ 2 _ rfl; refine pw_ ?_; refine blk_put (cs := #[.bool false, .int .u64 0, .int .u64 0]) ?_ 1 _ rfl; refine pw_ ?_; refine blk_put (cs := #[.bool false, .int .u64 0, .int .u64 0]) ?_ 0 _ rfl; refine pw_ ?_; exact BK134.out) Tryz.underlying26 rfl (by kernel_rfl)) rfl ?_
  exact ⟨by first | rfl | (simp [errW_none, errW_some] <;> rfl) | (simp [*, errW_none, errW_some] <;> rfl), pb_ HB⟩

def prefix_Of.j0 : Nat → Int → Bool → Bool → Int → Int → Option (Bool × Int × Int × Int × Int)
 | 0, _, _, _, _, _ => none
 | k + 1, x1, x19, x141000, x141001, x141002 => if x19 = true then (some (false, 0, 0, 0, 1)) else ((prefix_free.f x141000 x141001 x141002 x1).bind fun bt145 => ((num_Not.f bt145.1 bt145.2).bind fun bt147 => ((num_And.f x141001 x141002 bt147.1 bt147.2).bind fun bt149 => (some (x141000, bt149.1, bt149.2, x1, 0)))))
def prefix_Of.f (k : Nat) (a0_0 : Bool) (a0_1 : Int) (a0_2 : Int) (a1 : Int) : Option (Bool × Int × Int × Int × Int) := (addr_Right.f a0_0 a0_1 a0_2).bind fun t142 => (if t142 = true then (if a1 < 0 then (prefix_Of.j0 k a1 true a0_0 a0_1 a0_2) else ((addr_Width.f a0_0 a0_1 a0_2).bind fun t143 => (prefix_Of.j0 k a1 (decide (a1 > t143)) a0_0 a0_1 a0_2))) else (prefix_Of.j0 k a1 true a0_0 a0_1 a0_2))
def prefix_Of.T4 : Bool × List (List Nat × List Nat) := (true, [([], []), ([0], [0]), ([], []), ([2], [2]), ([3, 3], [3]), ([1, 4, 4], [1, 4]), ([0, 1, 2, 3, 4, 5], []), ([6, 0, 1, 2, 3, 4, 5], [6]), ([7, 5, 5, 0, 1, 2, 3, 4, 5], [5, 7])])
def prefix_Of.B4 : List Nat := [0, 1, 0, 4, 12, 31, 63, 127, 255]
theorem prefix_Of.tab4 : rtab .any (opsOf Tryz.f92 4) = prefix_Of.T4 := by kernel_rfl
theorem prefix_Of.bits4 : waitsOk prefix_Of.T4.2 prefix_Of.B4 = true := by kernel_rfl
set_option maxHeartbeats 8000000 in
set_option maxRecDepth 100000 in
theorem prefix_Of.calls (k : Nat) (a0_0 : Bool) (a0_1 : Int) (a0_2 : Int) (a1 : Int) (r1 : Bool) (r2 : Int) (r3 : Int) (r4 : Int) (r5 : Int) (w : World) (h : prefix_Of.f k a0_0 a0_1 a0_2 a1 = some (r1, r2, r3, r4, r5)) :
  Calls Tryz.prog 92 #[.agg #[.bool a0_0, .int .u64 a0_1, .int .u64 a0_2], .int .i64 a1] w fun e w' => e = .returned (.tuple #[.agg #[.bool r1, .int .u64 r2, .int .u64 r3, .int .i64 r4], .int .i64 r5]) ∧ Below w.heap.size w w' := by
 have hu26 := Tryz.underlying26
 have hu28 := Tryz.underlying28
 have hu24 := Tryz.underlying24
 have HB := Aside0.mk (Below.refl w.heap.size w)
 have H : ((addr_Right.f a0_0 a0_1 a0_2).bind fun t142 => (if t142 = true then (if a1 < 0 then (prefix_Of.j0 k a1 true a0_0 a0_1 a0_2) else ((addr_Width.f a0_0 a0_1 a0_2).bind fun t143 => (prefix_Of.j0 k a1 (decide (a1 > t143)) a0_0 a0_1 a0_2))) else (prefix_Of.j0 k a1 true a0_0 a0_1 a0_2))) = some (r1, r2, r3, r4, r5) := h
 clear h
 have HC3 := Aside0.mk H
 clear H
 go_enter Tryz.func92, Tryz.ntmps92
 go_upto_region 1 with (first | ((with_reducible refine gate_dst (N := 2) rfl ?_); refine bx_ 2 #[.bool a0_0, .int .u64 a0_1, .int .u64 a0_2] 26 ?_; intro gb140 hg w4 hbox hb; have BK140 := Aside0.mk (hbox); have GW140 := gw_ HB hg; have GE140 := gw_ HB hg; replace HB := bs_ HB hb; clear hb hbox hg) | ((with_reducible refine gate_dst (N := 4) rfl ?_); refine bx_ 4 #[.bool false, .int .u64 0, .int .u64 0, .int .i64 0] 28 ?_; intro gb141 hg w5 hbox hb; have BK141 := Aside0.mk (hbox); have GW141 := gw_ HB hg; have GE141 := gw_ HB hg; have NB140_141 := nl_ BK140 hg; have NB141_140 := ng_ BK140 hg; replace BK140 := bb_ BK140 hb; replace HB := bs_ HB hb; clear hb hbox hg))
 (try simp only [Act.put, List.setIfInBounds_toArray, List.set_cons_zero, List.set_cons_succ])
 go_cut [19] (fun v19 wc => ∃ (kq : Nat) (x19_2 : Bool), v19 = .bool x19_2 ∧ Aside0 (prefix_Of.j0 kq a1 x19_2 a0_0 a0_1 a0_2 = some (r1, r2, r3, r4, r5)) ∧ Aside0 (kq ≤ k) ∧ Aside0 (wc.heap[gb140]? = some (.cells #[.bool a0_0, .int .u64 a0_1, .int .u64 a0_2] 26 (0, 0))) ∧ Aside0 (wc.heap[gb141]? = some (.cells #[.bool false, .int .u64 0, .int .u64 0, .int .i64 0] 28 (0, 0))) ∧ Aside0 (Below w.heap.size w wc))
 case first =>
  have H := HC3.out
  clear HC3
  replace H := Option.bind_eq_some_iff.mp H
  obtain ⟨t142, A60, H⟩ := H
  replace H : (if t142 = true then (if a1 < 0 then (prefix_Of.j0 k a1 true a0_0 a0_1 a0_2) else ((addr_Width.f a0_0 a0_1 a0_2).bind fun t143 => (prefix_Of.j0 k a1 (decide (a1 > t143)) a0_0 a0_1 a0_2))) else (prefix_Of.j0 k a1 true a0_0 a0_1 a0_2)) = some (r1, r2, r3, r4, r5) := H
  have A6 := Aside0.mk A60
  clear A60
  by_cases c7 : t142 = true
  ·
   subst c7
   rw [if_pos rfl] at H
   by_cases c8 : a1 < 0
   ·
    rw [if_pos c8] at H
    have c8b0 : decide (a1 < 0) = true := decide_eq_true c8
    clear c8
    (first | rw [c8b0] | (simp only [i64_w, i32_w]; rw [c8b0]) | skip)
    have H' := Aside0.mk H
    clear H
    have hnb9 := NB140_141.out
    have hnc9 := NB141_140.out
    obtain ⟨hcz10_0, hcz10_1, hcz10_2, hfz10_0, hfz10_1, hfz10_2⟩ := c3_ BK140
    go_wp2_with (first | ((with_reducible refine gate_callee (f := 91) rfl ?_); refine gl_ (some 8) Tryz.func91 #[.agg #[.bool a0_0, .int .u64 a0_1, .int .u64 a0_2]] ?_; (with_reducible refine (addr_Right.calls a0_0 a0_1 a0_2 true _ A6.out).mono ?_); rintro e w11 ⟨rfl, hb⟩; refine ⟨_, rfl, ?_⟩; replace BK140 := bb_ BK140 hb; replace BK141 := bb_ BK141 hb; replace HB := bs_ HB hb; (try clear hb); (try clear hb2); (try clear hk); (try clear hi)))
    go_meet
    case rel => exact ⟨_, (true), (by first | rfl | (simp; done) | (simp [*]; done)), H', ⟨by first | omega | exact Nat.le_refl _⟩, ⟨by refine pw_ ?_; exact BK140.out⟩, ⟨by refine pw_ ?_; exact BK141.out⟩, ⟨pb_ HB⟩⟩
   ·
    rw [if_neg c8] at H
    have c8b0 : decide (a1 < 0) = false := decide_eq_false c8
    clear c8
    (first | rw [c8b0] | (simp only [i64_w, i32_w]; rw [c8b0]) | skip)
    replace H := Option.bind_eq_some_iff.mp H
    obtain ⟨t143, A120, H⟩ := H
    replace H : (prefix_Of.j0 k a1 (decide (a1 > t143)) a0_0 a0_1 a0_2) = some (r1, r2, r3, r4, r5) := H
    have A12 := Aside0.mk A120
    clear A120
    have H' := Aside0.mk H
    clear H
    have hnb13 := NB140_141.out
    have hnc13 := NB141_140.out
    obtain ⟨hcz14_0, hcz14_1, hcz14_2, hfz14_0, hfz14_1, hfz14_2⟩ := c3_ BK140
    go_wp2_with (first | ((with_reducible refine gate_callee (f := 91) rfl ?_); refine gl_ (some 8) Tryz.func91 #[.agg #[.bool a0_0, .int .u64 a0_1, .int .u64 a0_2]] ?_; (with_reducible refine (addr_Right.calls a0_0 a0_1 a0_2 true _ A6.out).mono ?_); rintro e w15 ⟨rfl, hb⟩; refine ⟨_, rfl, ?_⟩; replace BK140 := bb_ BK140 hb; replace BK141 := bb_ BK141 hb; replace HB := bs_ HB hb; (try clear hb); (try clear hb2); (try clear hk); (try clear hi); obtain ⟨hcz16_0, hcz16_1, hcz16_2, hfz16_0, hfz16_1, hfz16_2⟩ := c3_ BK140) | (go_at_call 132; (with_reducible refine (addr_Width.calls a0_0 a0_1 a0_2 t143 _ A12.out).mono ?_); rintro e w17 ⟨rfl, hb⟩; replace BK140 := bb_ BK140 hb; replace BK141 := bb_ BK141 hb; replace HB := bs_ HB hb; (try clear hb); (try clear hb2); (try clear hk); (try clear hi)))
    go_meet
    case rel => exact ⟨_, (decide (a1 > t143)), (by first | rfl | (simp; done) | (simp [*]; done)), H', ⟨by first | omega | exact Nat.le_refl _⟩, ⟨by refine pw_ ?_; exact BK140.out⟩, ⟨by refine pw_ ?_; exact BK141.out⟩, ⟨pb_ HB⟩⟩
  ·
   replace c7 := Bool.eq_false_iff.mpr c7
   subst c7
   have H1 : (prefix_Of.j0 k a1 true a0_0 a0_1 a0_2) = some (r1, r2, r3, r4, r5) := by rw [if_neg (show ¬ (false = true) by decide)] at H; exact H
   clear H
   have H := H1
   clear H1
   have H' := Aside0.mk H
   clear H
   have hnb18 := NB140_141.out
   have hnc18 := NB141_140.out
   obtain ⟨hcz19_0, hcz19_1, hcz19_2, hfz19_0, hfz19_1, hfz19_2⟩ := c3_ BK140
   go_wp2_with (first | ((with_reducible refine gate_callee (f := 91) rfl ?_); refine gl_ (some 8) Tryz.func91 #[.agg #[.bool a0_0, .int .u64 a0_1, .int .u64 a0_2]] ?_; (with_reducible refine (addr_Right.calls a0_0 a0_1 a0_2 false _ A6.out).mono ?_); rintro e w20 ⟨rfl, hb⟩; refine ⟨_, rfl, ?_⟩; replace BK140 := bb_ BK140 hb; replace BK141 := bb_ BK141 hb; replace HB := bs_ HB hb; (try clear hb); (try clear hb2); (try clear hk); (try clear hi)))
   go_meet
   case rel => exact ⟨_, (true), (by first | rfl | (simp; done) | (simp [*]; done)), H', ⟨by first | omega | exact Nat.le_refl _⟩, ⟨by refine pw_ ?_; exact BK140.out⟩, ⟨by refine pw_ ?_; exact BK141.out⟩, ⟨pb_ HB⟩⟩
 case rest =>
  clear HC3
  try clear c1
  try clear p2
  try clear c7
  try clear c8
  try clear c8b0
  try clear c9
  try clear c13
  try clear c18
  try clear hcz10_0
  try clear hcz10_1
  try clear hcz10_2
  try clear hcz14_0
  try clear hcz14_1
  try clear hcz14_2
  try clear hcz16_0
  try clear hcz16_1
  try clear hcz16_2
  try clear hcz19_0
  try clear hcz19_1
  try clear hcz19_2
  try clear hfz10_0
  try clear hfz10_1
  try clear hfz10_2
  try clear hfz14_0
  try clear hfz14_1
  try clear hfz14_2
  try clear hfz16_0
  try clear hfz16_1
  try clear hfz16_2
  try clear hfz19_0
  try clear hfz19_1
  try clear hfz19_2
  obtain ⟨kq, x19_2, rfl, HA, HJ2, BK140, BK141, HB⟩ := hcut
  cases kq with
  | zero => exact absurd HA.out (by simp [prefix_Of.j0])
  | succ kj2 =>
   have H := HA.out
   clear HA
   simp only [prefix_Of.j0] at H
   by_cases c21 : x19_2 = true
   ·
    subst c21
    rw [if_pos rfl] at H
    simp only [Option.some.injEq, Prod.mk.injEq] at H
    obtain ⟨rfl, rfl, rfl, rfl, rfl⟩ := H
    have hnb22 := NB141_140.out
    have hnc22 := NB140_141.out
    obtain ⟨hcz23_0, hcz23_1, hcz23_2, hcz23_3, hfz23_0, hfz23_1, hfz23_2, hfz23_3⟩ := c4_ BK141
    go_wp2
    refine bodyPost_ret (results_ct rfl _ _ gb141 28 #[.bool false, .int .u64 0, .int .u64 0, .int .i64 0] (0, 0) _ rfl (by refine pw_ ?_; refine blk_put (cs := #[.bool false, .int .u64 0, .int .u64 0, .int .i64 0]) ?_ 3 _ rfl; refine pw_ ?_; refine blk_put (cs := #[.bool false, .int .u64 0, .int .u64 0, .int .i64 0]) ?_ 2 _ rfl; refine pw_ ?_; refine blk_put (cs := #[.bool false, .int .u64 0, .int .u64 0, .int .i64 0]) ?_ 1 _ rfl; refine pw_ ?_; refine blk_put (cs := #[.bool false, .int .u64 0, .int .u64 0, .int .i64 0]) ?_ 0 _ rfl; refine pw_ ?_; exact BK141.out) Tryz.underlying28 rfl (by kernel_rfl)) rfl ?_
    exact ⟨by first | rfl | (simp [errW_none, errW_some] <;> rfl) | (simp [*, errW_none, errW_some] <;> rfl), pb_ HB⟩
   ·
    replace c21 := Bool.eq_false_iff.mpr c21
    subst c21
    have H1 : ((prefix_free.f a0_0 a0_1 a0_2 a1).bind fun bt145 => ((num_Not.f bt145.1 bt145.2).bind fun bt147 => ((num_And.f a0_1 a0_2 bt147.1 bt147.2).bind fun bt149 => (some (a0_0, bt149.1, bt149.2, a1, 0))))) = some (r1, r2, r3, r4, r5) := by rw [if_neg (show ¬ (false = true) by decide)] at H; exact H
    clear H
    have H := H1
    clear H1
    replace H := Option.bind_eq_some_iff.mp H
    obtain ⟨⟨t145, t146⟩, A240, H⟩ := H
    replace H : ((num_Not.f t145 t146).bind fun bt147 => ((num_And.f a0_1 a0_2 bt147.1 bt147.2).bind fun bt149 => (some (a0_0, bt149.1, bt149.2, a1, 0)))) = some (r1, r2, r3, r4, r5) := H
    have A24 := Aside0.mk A240
    clear A240
    replace H := Option.bind_eq_some_iff.mp H
    obtain ⟨⟨t147, t148⟩, A250, H⟩ := H
    replace H : ((num_And.f a0_1 a0_2 t147 t148).bind fun bt149 => (some (a0_0, bt149.1, bt149.2, a1, 0))) = some (r1, r2, r3, r4, r5) := H
    have A25 := Aside0.mk A250
    clear A250
    replace H := Option.bind_eq_some_iff.mp H
    obtain ⟨⟨t149, t150⟩, A260, H⟩ := H
    replace H : (some (a0_0, t149, t150, a1, 0)) = some (r1, r2, r3, r4, r5) := H
    have A26 := Aside0.mk A260
    clear A260
    simp only [Option.some.injEq, Prod.mk.injEq] at H
    obtain ⟨rfl, rfl, rfl, rfl, rfl⟩ := H
    have hnb27 := NB140_141.out
    have hnc27 := NB141_140.out
    obtain ⟨hcz28_0, hcz28_1, hcz28_2, hfz28_0, hfz28_1, hfz28_2⟩ := c3_ BK140
    try go_wp2_with (first | ((with_reducible refine gate_dst (N := 6) rfl ?_); refine bx_ 6 #[.bool false, .int .u64 0, .int .u64 0, .int .i64 0] 28 ?_; intro gb144 hg w29 hbox hb; have BK144 := Aside0.mk (hbox); have GW144 := gw_ HB hg; have GE144 := gw_ HB hg; have NB140_144 := nl_ BK140 hg; have NB144_140 := ng_ BK140 hg; have NB141_144 := nl_ BK141 hg; have NB144_141 := ng_ BK141 hg; replace BK140 := bb_ BK140 hb; replace BK141 := bb_ BK141 hb; replace HB := bs_ HB hb; clear hb hbox hg; have hnb30 := NB144_140.out; have hnc30 := NB140_144.out; have hnb31 := NB144_141.out; have hnc31 := NB141_144.out; obtain ⟨hcz32_0, hcz32_1, hcz32_2, hcz32_3, hfz32_0, hfz32_1, hfz32_2, hfz32_3⟩ := c4_ BK144))
    have n0_ : Aside0 (((((w29.setCell ⟨gb144, 0, none⟩ (.bool a0_0)).setCell ⟨gb144, 1, none⟩ (.int .u64 a0_1)).setCell ⟨gb144, 2, none⟩ (.int .u64 a0_2)).setCell ⟨gb144, 3, none⟩ (.int .i64 a1)).heap[gb140]? = some (.cells #[.bool a0_0, .int .u64 a0_1, .int .u64 a0_2] 26 (0, 0))) := ⟨by refine pw_ ?_; refine blk_far ?_ NB140_144.out _; refine pw_ ?_; refine blk_far ?_ NB140_144.out _; refine pw_ ?_; refine blk_far ?_ NB140_144.out _; refine pw_ ?_; refine blk_far ?_ NB140_144.out _; refine pw_ ?_; exact BK140.out⟩
    have n1_ : Aside0 (((((w29.setCell ⟨gb144, 0, none⟩ (.bool a0_0)).setCell ⟨gb144, 1, none⟩ (.int .u64 a0_1)).setCell ⟨gb144, 2, none⟩ (.int .u64 a0_2)).setCell ⟨gb144, 3, none⟩ (.int .i64 a1)).heap[gb141]? = some (.cells #[.bool false, .int .u64 0, .int .u64 0, .int .i64 0] 28 (0, 0))) := ⟨by refine pw_ ?_; refine blk_far ?_ NB141_144.out _; refine pw_ ?_; refine blk_far ?_ NB141_144.out _; refine pw_ ?_; refine blk_far ?_ NB141_144.out _; refine pw_ ?_; refine blk_far ?_ NB141_144.out _; refine pw_ ?_; exact BK141.out⟩
    have n2_ : Aside0 (((((w29.setCell ⟨gb144, 0, none⟩ (.bool a0_0)).setCell ⟨gb144, 1, none⟩ (.int .u64 a0_1)).setCell ⟨gb144, 2, none⟩ (.int .u64 a0_2)).setCell ⟨gb144, 3, none⟩ (.int .i64 a1)).heap[gb144]? = some (.cells #[.bool a0_0, .int .u64 a0_1, .int .u64 a0_2, .int .i64 a1] 28 (0, 0))) := ⟨by refine pw_ ?_; refine blk_put (cs := #[.bool a0_0, .int .u64 a0_1, .int .u64 a0_2, .int .i64 0]) ?_ 3 _ rfl; refine pw_ ?_; refine blk_put (cs := #[.bool a0_0, .int .u64 a0_1, .int .u64 0, .int .i64 0]) ?_ 2 _ rfl; refine pw_ ?_; refine blk_put (cs := #[.bool a0_0, .int .u64 0, .int .u64 0, .int .i64 0]) ?_ 1 _ rfl; refine pw_ ?_; refine blk_put (cs := #[.bool false, .int .u64 0, .int .u64 0, .int .i64 0]) ?_ 0 _ rfl; refine pw_ ?_; exact BK144.out⟩
    have n3_ : Aside0 (Below w.heap.size w ((((w29.setCell ⟨gb144, 0, none⟩ (.bool a0_0)).setCell ⟨gb144, 1, none⟩ (.int .u64 a0_1)).setCell ⟨gb144, 2, none⟩ (.int .u64 a0_2)).setCell ⟨gb144, 3, none⟩ (.int .i64 a1))) := ⟨pb_ HB⟩
    (try clear BK140)
    (try clear BK141)
    (try clear BK144)
    (try clear HB)
    generalize ((((w29.setCell ⟨gb144, 0, none⟩ (.bool a0_0)).setCell ⟨gb144, 1, none⟩ (.int .u64 a0_1)).setCell ⟨gb144, 2, none⟩ (.int .u64 a0_2)).setCell ⟨gb144, 3, none⟩ (.int .i64 a1)) = w33 at n0_ n1_ n2_ n3_ ⊢
    have BK140 := n0_
    have BK141 := n1_
    have BK144 := n2_
    have HB := n3_
    clear n0_ n1_ n2_ n3_
    replace BK140 := Aside0.mk (blk_drew BK140.out)
    replace BK141 := Aside0.mk (blk_drew BK141.out)
    replace BK144 := Aside0.mk (blk_drew BK144.out)
    replace HB := Aside0.mk (below_drew1 HB.out)
    refine start_ (n := 9) (S := fun w' => w'.cell? ⟨gb140, 0, none⟩ = some (.bool a0_0) ∧ w'.cell? ⟨gb140, 1, none⟩ = some (.int .u64 a0_1) ∧ w'.cell? ⟨gb140, 2, none⟩ = some (.int .u64 a0_2) ∧ w'.cell? ⟨gb144, 0, none⟩ = some (.bool a0_0) ∧ w'.cell? ⟨gb144, 1, none⟩ = some (.int .u64 a0_1) ∧ w'.cell? ⟨gb144, 2, none⟩ = some (.int .u64 a0_2) ∧ w'.cell? ⟨gb144, 3, none⟩ = some (.int .i64 a1)) (ds := [8]) (bm_ 9 0) (by kernel_rfl) rfl rfl ⟨kc_ BK140 0, kc_ BK140 1, kc_ BK140 2, kc_ BK144 0, kc_ BK144 1, kc_ BK144 2, kc_ BK144 3⟩ (fun hHeld => ?_); refine with_tabW prefix_Of.tab4 prefix_Of.bits4 (fun HT_ HW_ => ?_)
    generalize w33.drew = w34 at BK140 BK141 BK144 HB hHeld ⊢
    refine pu_ 0 (some 24) (bm_ 9 1) rfl HT_ ⟨by rfl, by intro w'; go_simp; with_reducible rfl⟩ ?_
    refine ta_ 1 (some 25) (bm_ 9 3) rfl HT_ HW_ ⟨by rfl, by rintro w' ⟨s0, s1, s2, s3, s4, s5, s6⟩; go_simp; with_reducible rfl⟩ hHeld ?_
    refine ta_ 2 (some 26) (bm_ 9 7) rfl HT_ HW_ ⟨by rfl, by rintro w' ⟨s0, s1, s2, s3, s4, s5, s6⟩; go_simp; with_reducible rfl⟩ hHeld ?_
    refine one_ (i := 3) (N := some 27) (bm_ 9 15) rfl rfl (one_of HT_.out (by kernel_rfl)) (by decide) (fun K hK => ?_)
    refine gr_ Tryz.func94 #[.agg #[.bool a0_0, .int .u64 a0_1, .int .u64 a0_2, .int .i64 a1]] ?_
    with_reducible refine (prefix_free.calls a0_0 a0_1 a0_2 a1 t145 t146 _ A24.out).mono ?_
    rintro e w35 ⟨rfl, hb⟩
    refine ⟨_, rfl, ?_⟩
    replace BK140 := bb_ BK140 hb
    replace BK141 := bb_ BK141 hb
    replace BK144 := bb_ BK144 hb
    replace HB := bs_ HB hb
    (try clear hb)
    (try clear hb2)
    (try clear hk)
    (try clear hi)
    refine hK.out _ _ ⟨kc_ BK140 0, kc_ BK140 1, kc_ BK140 2, kc_ BK144 0, kc_ BK144 1, kc_ BK144 2, kc_ BK144 3⟩ (fun hHeld => ?_)
    clear hK K
    refine norm_ (a' := ?_) ?_ ?_
    rotate_left
    ·
     show Act.put _ (some 27) _ = _
     simp only [Act.put, List.setIfInBounds_toArray, List.set_cons_zero, List.set_cons_succ, i64_w, i32_w]
     rfl
    refine one_ (i := 4) (N := some 28) (bm_ 9 31) rfl rfl (one_of HT_.out (by kernel_rfl)) (by decide) (fun K hK => ?_)
    refine gr_ Tryz.func135 #[.agg #[.int .u64 t145, .int .u64 t146]] ?_
    with_reducible refine (num_Not.calls t145 t146 t147 t148 _ A25.out).mono ?_
    rintro e w36 ⟨rfl, hb⟩
    refine ⟨_, rfl, ?_⟩
    replace BK140 := bb_ BK140 hb
    replace BK141 := bb_ BK141 hb
    replace BK144 := bb_ BK144 hb
    replace HB := bs_ HB hb
    (try clear hb)
    (try clear hb2)
    (try clear hk)
    (try clear hi)
    refine hK.out _ _ ⟨kc_ BK140 0, kc_ BK140 1, kc_ BK140 2, kc_ BK144 0, kc_ BK144 1, kc_ BK144 2, kc_ BK144 3⟩ (fun hHeld => ?_)
    clear hK K
    refine norm_ (a' := ?_) ?_ ?_
    rotate_left
    ·
     show Act.put _ (some 28) _ = _
     simp only [Act.put, List.setIfInBounds_toArray, List.set_cons_zero, List.set_cons_succ, i64_w, i32_w]
     rfl
    refine one_ (i := 5) (N := some 29) (bm_ 9 63) rfl rfl (one_of HT_.out (by kernel_rfl)) (by decide) (fun K hK => ?_)
    refine gr_ Tryz.func133 #[.agg #[.int .u64 a0_1, .int .u64 a0_2], .agg #[.int .u64 t147, .int .u64 t148]] ?_
    with_reducible refine (num_And.calls a0_1 a0_2 t147 t148 t149 t150 _ A26.out).mono ?_
    rintro e w37 ⟨rfl, hb⟩
    refine ⟨_, rfl, ?_⟩
    replace BK140 := bb_ BK140 hb
    replace BK141 := bb_ BK141 hb
    replace BK144 := bb_ BK144 hb
    replace HB := bs_ HB hb
    (try clear hb)
    (try clear hb2)
    (try clear hk)
    (try clear hi)
    refine hK.out _ _ ⟨kc_ BK140 0, kc_ BK140 1, kc_ BK140 2, kc_ BK144 0, kc_ BK144 1, kc_ BK144 2, kc_ BK144 3⟩ (fun hHeld => ?_)
    clear hK K
    refine norm_ (a' := ?_) ?_ ?_
    rotate_left
    ·
     show Act.put _ (some 29) _ = _
     simp only [Act.put, List.setIfInBounds_toArray, List.set_cons_zero, List.set_cons_succ, i64_w, i32_w]
     rfl
    refine pu_ 6 (some 30) (bm_ 9 127) rfl HT_ ⟨by rfl, by intro w'; go_simp; with_reducible rfl⟩ ?_
    refine pu_ 7 (some 31) (bm_ 9 255) rfl HT_ ⟨by rfl, by intro w'; go_simp; with_reducible rfl⟩ ?_
    refine last_ (i := 8) (N := none) (bm_ 9 511) rfl rfl (one_of HT_.out (by kernel_rfl)) (by decide) (fun K hK => ?_)
    have hs38 : w37.cell? ⟨gb144, 1, none⟩ = some (.int .u64 a0_1) := kc_ BK144 1
    have hfs38 := blk_frozen BK144.out 1
    have hns38_0 := NB140_144.out
    have hns38_1 := NB141_144.out
    have hms38_0 := NB144_140.out
    have hms38_1 := NB144_141.out
    have hs39 : w37.cell? ⟨gb144, 2, none⟩ = some (.int .u64 a0_2) := kc_ BK144 2
    have hfs39 := blk_frozen BK144.out 2
    have hns39_0 := NB140_144.out
    have hns39_1 := NB141_144.out
    have hms39_0 := NB144_140.out
    have hms39_1 := NB144_141.out
    refine skip_ (w1 := ?_) (by rfl) rfl ?_ ?_
    rotate_left
    ·
     go_simp
     rfl
    refine hK.out _ _ ?_
    clear hK K
    refine done_ (done_of HT_.out (by kernel_rfl)) ?_
    obtain ⟨hcz40_0, hcz40_1, hcz40_2, hcz40_3, hfz40_0, hfz40_1, hfz40_2, hfz40_3⟩ := c4_ BK144
    obtain ⟨hcz41_0, hcz41_1, hcz41_2, hcz41_3, hfz41_0, hfz41_1, hfz41_2, hfz41_3⟩ := c4_ BK141
    try go_wp2
    refine bodyPost_ret (results_ct rfl _ _ gb141 28 #[.bool a0_0, .int .u64 t149, .int .u64 t150, .int .i64 a1] (0, 0) _ rfl (by refine pw_ ?_; refine blk_put (cs := #[.bool a0_0, .int .u64 t149, .int .u64 t150, .int .i64 0]) ?_ 3 _ rfl; refine pw_ ?_; refine blk_put (cs := #[.bool a0_0, .int .u64 t149, .int .u64 0, .int .i64 0]) ?_ 2 _ rfl; refine pw_ ?_; refine blk_put (cs := #[.bool a0_0, .int .u64 0, .int .u64 0, .int .i64 0]) ?_ 1 _ rfl; refine pw_ ?_; refine blk_put (cs := #[.bool false, .int .u64 0, .int .u64 0, .int .i64 0]) ?_ 0 _ rfl; refine pw_ ?_; refine blk_far ?_ NB141_144.out _; refine pw_ ?_; refine blk_far ?_ NB141_144.out _; refine pw_ ?_; exact BK141.out) Tryz.underlying28 rfl (by kernel_rfl)) rfl ?_
    exact ⟨by first | rfl | (simp [errW_none, errW_some] <;> rfl) | (simp [*, errW_none, errW_some] <;> rfl), pb_ HB⟩

end Go.Proofs.YtpfilldnfpcpkaaGreatDoor.PPo

namespace Go.Proofs.YtpfilldnfpcpkaaGreatDoor.PPo
open Go.RowKit Go.Proofs.YtpfilldnfpcpkaaGreatDoorW.PrintWords Go.Proofs.YtpfilldnfpcpkaaGreatDoorW.PrintLast Go.Proofs.YtpfilldnfpcpkaaGreatDoorW.PrintMore
attribute [local go_sem] max2_int min2_int max_two min_two max_three min_three max_four min_four   -- for this text's walks alone

theorem eqA24 (d : Nat) (w : World) (x0 y0 : Int) (x1 y1 : Int) :
    (Op.equalIn (d + 2) 24 (.agg #[.int .u64 x0, .int .u64 x1]) (.agg #[.int .u64 y0, .int .u64 y1])).run Tryz.prog w = .ok (x0 == y0 && (x1 == y1)) w := by
  refine eqA_of Tryz.underlying24 (by kernel_rfl) ?_
  refine eqf_cons (by rfl) (by go_simp; rfl) (by go_simp; rfl) (by go_simp) ?_
  exact eqf_last (by rfl) (by go_simp; rfl) (by go_simp; rfl) (by go_simp)
theorem eqA26 (d : Nat) (w : World) (x0 y0 : Bool) (x1 y1 : Int) (x2 y2 : Int) :
    (Op.equalIn (d + 3) 26 (.agg #[.bool x0, .int .u64 x1, .int .u64 x2]) (.agg #[.bool y0, .int .u64 y1, .int .u64 y2])).run Tryz.prog w = .ok (x0 == y0 && ((x1 == y1 && (x2 == y2)))) w := by
  refine eqA_of Tryz.underlying26 (by kernel_rfl) ?_
  refine eqf_cons (by rfl) (by go_simp; rfl) (by go_simp; rfl) (by go_simp) ?_
  exact eqf_last (by rfl) (by go_simp) (by go_simp) (eqA24 (d + 0) w _ _ _ _)
end Go.Proofs.YtpfilldnfpcpkaaGreatDoor.PPo

namespace Go.Proofs.YtpfilldnfpcpkaaGreatDoor.PPo
open Go.RowKit Go.Proofs.YtpfilldnfpcpkaaGreatDoorW.PrintWords Go.Proofs.YtpfilldnfpcpkaaGreatDoorW.PrintLast Go.Proofs.YtpfilldnfpcpkaaGreatDoorW.PrintMore
attribute [local go_sem] max2_int min2_int max_two min_two max_three min_three max_four min_four   -- for this text's walks alone

theorem eqA28 (d : Nat) (w : World) (x0 y0 : Bool) (x1 y1 : Int) (x2 y2 : Int) (x3 y3 : Int) :
    (Op.equalIn (d + 4) 28 (.agg #[.bool x0, .int .u64 x1, .int .u64 x2, .int .i64 x3]) (.agg #[.bool y0, .int .u64 y1, .int .u64 y2, .int .i64 y3])).run Tryz.prog w = .ok ((x0 == y0 && ((x1 == y1 && (x2 == y2)))) && (x3 == y3)) w := by
  refine eqA_of Tryz.underlying28 (by kernel_rfl) ?_
  refine eqf_cons (by rfl) (by go_simp) (by go_simp) (eqA26 (d + 0) w _ _ _ _ _ _) ?_
  exact eqf_last (by rfl) (by go_simp; rfl) (by go_simp; rfl) (by go_simp)
end Go.Proofs.YtpfilldnfpcpkaaGreatDoor.PPo

namespace Go.Proofs.YtpfilldnfpcpkaaGreatDoor.PPo
open Go.RowKit Go.Proofs.YtpfilldnfpcpkaaGreatDoorW.PrintWords Go.Proofs.YtpfilldnfpcpkaaGreatDoorW.PrintLast Go.Proofs.YtpfilldnfpcpkaaGreatDoorW.PrintMore
attribute [local go_sem] max2_int min2_int max_two min_two max_three min_three max_four min_four   -- for this text's walks alone

attribute [local go_sem high] eqA28
def prefix_Has.f (k : Nat) (a0_0 : Bool) (a0_1 : Int) (a0_2 : Int) (a0_3 : Int) (a1_0 : Bool) (a1_1 : Int) (a1_2 : Int) : Option (Bool) := (prefix_Right.f a0_0 a0_1 a0_2 a0_3).bind fun t153 => (if t153 = true then ((addr_Right.f a1_0 a1_1 a1_2).bind fun t154 => (if t154 = true then (if (a1_0 != a0_0) = true then (some false) else ((prefix_Of.f k a1_0 a1_1 a1_2 a0_3).bind fun bt155 => (some ((bt155.1 == a0_0 && ((bt155.2.1 == a0_1 && (bt155.2.2.1 == a0_2)))) && (bt155.2.2.2.1 == a0_3))))) else (some false))) else (some false))
set_option maxHeartbeats 8000000 in
set_option maxRecDepth 100000 in
theorem prefix_Has.calls (k : Nat) (a0_0 : Bool) (a0_1 : Int) (a0_2 : Int) (a0_3 : Int) (a1_0 : Bool) (a1_1 : Int) (a1_2 : Int) (r : Bool) (w : World) (h : prefix_Has.f k a0_0 a0_1 a0_2 a0_3 a1_0 a1_1 a1_2 = some r) :
  Calls Tryz.prog 32 #[.agg #[.bool a0_0, .int .u64 a0_1, .int .u64 a0_2, .int .i64 a0_3], .agg #[.bool a1_0, .int .u64 a1_1, .int .u64 a1_2]] w fun e w' => e = .returned (.bool r) ∧ Below w.heap.size w w' := by
 have hu28 := Tryz.underlying28
 have hu26 := Tryz.underlying26
 have HB := Aside0.mk (Below.refl w.heap.size w)
 have H : ((prefix_Right.f a0_0 a0_1 a0_2 a0_3).bind fun t153 => (if t153 = true then ((addr_Right.f a1_0 a1_1 a1_2).bind fun t154 => (if t154 = true then (if (a1_0 != a0_0) = true then (some false) else ((prefix_Of.f k a1_0 a1_1 a1_2 a0_3).bind fun bt155 => (some ((bt155.1 == a0_0 && ((bt155.2.1 == a0_1 && (bt155.2.2.1 == a0_2)))) && (bt155.2.2.2.1 == a0_3))))) else (some false))) else (some false))) = some r := h
 clear h
 replace H := Option.bind_eq_some_iff.mp H
 obtain ⟨t153, A30, H⟩ := H
 replace H : (if t153 = true then ((addr_Right.f a1_0 a1_1 a1_2).bind fun t154 => (if t154 = true then (if (a1_0 != a0_0) = true then (some false) else ((prefix_Of.f k a1_0 a1_1 a1_2 a0_3).bind fun bt155 => (some ((bt155.1 == a0_0 && ((bt155.2.1 == a0_1 && (bt155.2.2.1 == a0_2)))) && (bt155.2.2.2.1 == a0_3))))) else (some false))) else (some false)) = some r := H
 have A3 := Aside0.mk A30
 clear A30
 by_cases c4 : t153 = true
 ·
  subst c4
  rw [if_pos rfl] at H
  replace H := Option.bind_eq_some_iff.mp H
  obtain ⟨t154, A50, H⟩ := H
  replace H : (if t154 = true then (if (a1_0 != a0_0) = true then (some false) else ((prefix_Of.f k a1_0 a1_1 a1_2 a0_3).bind fun bt155 => (some ((bt155.1 == a0_0 && ((bt155.2.1 == a0_1 && (bt155.2.2.1 == a0_2)))) && (bt155.2.2.2.1 == a0_3))))) else (some false)) = some r := H
  have A5 := Aside0.mk A50
  clear A50
  by_cases c6 : t154 = true
  ·
   subst c6
   rw [if_pos rfl] at H
   by_cases c7 : (a1_0 != a0_0) = true
   ·
    rw [if_pos c7] at H
    have c7b0 : (a1_0 != a0_0) = true := c7
    (try (have c7b1 : decide (a1_0 = a0_0) = false := by simpa using c7))
    (try (have c7b2 : (a1_0 == a0_0) = false := by simpa using c7))
    (try (have c7b3 : ¬ (a1_0 = a0_0) := by simpa using c7))
    clear c7
    obtain rfl := Option.some.inj H
    go_enter Tryz.func32, Tryz.ntmps32
    go_wp2_with (first | ((with_reducible refine gate_dst (N := 2) rfl ?_); refine bx_ 2 #[.bool a0_0, .int .u64 a0_1, .int .u64 a0_2, .int .i64 a0_3] 28 ?_; intro gb151 hg w8 hbox hb; have BK151 := Aside0.mk (hbox); have GW151 := gw_ HB hg; have GE151 := gw_ HB hg; replace HB := bs_ HB hb; clear hb hbox hg) | ((with_reducible refine gate_dst (N := 3) rfl ?_); refine bx_ 3 #[.bool a1_0, .int .u64 a1_1, .int .u64 a1_2] 26 ?_; intro gb152 hg w9 hbox hb; have BK152 := Aside0.mk (hbox); have GW152 := gw_ HB hg; have GE152 := gw_ HB hg; have NB151_152 := nl_ BK151 hg; have NB152_151 := ng_ BK151 hg; replace BK151 := bb_ BK151 hb; replace HB := bs_ HB hb; clear hb hbox hg; have hnb10 := NB151_152.out; have hnc10 := NB152_151.out; obtain ⟨hcz11_0, hcz11_1, hcz11_2, hcz11_3, hfz11_0, hfz11_1, hfz11_2, hfz11_3⟩ := c4_ BK151) | ((with_reducible refine gate_callee (f := 90) rfl ?_); refine gl_ (some 8) Tryz.func90 #[.agg #[.bool a0_0, .int .u64 a0_1, .int .u64 a0_2, .int .i64 a0_3]] ?_; (with_reducible refine (prefix_Right.calls a0_0 a0_1 a0_2 a0_3 true _ A3.out).mono ?_); rintro e w12 ⟨rfl, hb⟩; refine ⟨_, rfl, ?_⟩; replace BK151 := bb_ BK151 hb; replace BK152 := bb_ BK152 hb; replace HB := bs_ HB hb; (try clear hb); (try clear hb2); (try clear hk); (try clear hi); obtain ⟨hcz13_0, hcz13_1, hcz13_2, hfz13_0, hfz13_1, hfz13_2⟩ := c3_ BK152) | (go_at_call 91; (with_reducible refine (addr_Right.calls a1_0 a1_1 a1_2 true _ A5.out).mono ?_); rintro e w14 ⟨rfl, hb⟩; replace BK151 := bb_ BK151 hb; replace BK152 := bb_ BK152 hb; replace HB := bs_ HB hb; (try clear hb); (try clear hb2); (try clear hk); (try clear hi); obtain ⟨hcz15_0, hcz15_1, hcz15_2, hfz15_0, hfz15_1, hfz15_2⟩ := c3_ BK152; obtain ⟨hcz16_0, hcz16_1, hcz16_2, hcz16_3, hfz16_0, hfz16_1, hfz16_2, hfz16_3⟩ := c4_ BK151))
    go_ret
    exact ⟨by first | rfl | (simp [errW_none, errW_some] <;> rfl) | (simp [*, errW_none, errW_some] <;> rfl), pb_ HB⟩
   ·
    rw [if_neg c7] at H
    have c7b0 : (a1_0 != a0_0) = false := by simpa using c7
    (try (have c7b1 : decide (a1_0 = a0_0) = true := by simpa using c7))
    (try (have c7b2 : (a1_0 == a0_0) = true := by simpa using c7))
    clear c7
    replace H := Option.bind_eq_some_iff.mp H
    obtain ⟨⟨t155, t156, t157, t158, t159⟩, A170, H⟩ := H
    replace H : (some ((t155 == a0_0 && ((t156 == a0_1 && (t157 == a0_2)))) && (t158 == a0_3))) = some r := H
    have A17 := Aside0.mk A170
    clear A170
    obtain rfl := Option.some.inj H
    go_enter Tryz.func32, Tryz.ntmps32
    go_wp2_with (first | ((with_reducible refine gate_dst (N := 2) rfl ?_); refine bx_ 2 #[.bool a0_0, .int .u64 a0_1, .int .u64 a0_2, .int .i64 a0_3] 28 ?_; intro gb151 hg w18 hbox hb; have BK151 := Aside0.mk (hbox); have GW151 := gw_ HB hg; have GE151 := gw_ HB hg; replace HB := bs_ HB hb; clear hb hbox hg) | ((with_reducible refine gate_dst (N := 3) rfl ?_); refine bx_ 3 #[.bool a1_0, .int .u64 a1_1, .int .u64 a1_2] 26 ?_; intro gb152 hg w19 hbox hb; have BK152 := Aside0.mk (hbox); have GW152 := gw_ HB hg; have GE152 := gw_ HB hg; have NB151_152 := nl_ BK151 hg; have NB152_151 := ng_ BK151 hg; replace BK151 := bb_ BK151 hb; replace HB := bs_ HB hb; clear hb hbox hg; have hnb20 := NB151_152.out; have hnc20 := NB152_151.out; obtain ⟨hcz21_0, hcz21_1, hcz21_2, hcz21_3, hfz21_0, hfz21_1, hfz21_2, hfz21_3⟩ := c4_ BK151) | ((with_reducible refine gate_callee (f := 90) rfl ?_); refine gl_ (some 8) Tryz.func90 #[.agg #[.bool a0_0, .int .u64 a0_1, .int .u64 a0_2, .int .i64 a0_3]] ?_; (with_reducible refine (prefix_Right.calls a0_0 a0_1 a0_2 a0_3 true _ A3.out).mono ?_); rintro e w22 ⟨rfl, hb⟩; refine ⟨_, rfl, ?_⟩; replace BK151 := bb_ BK151 hb; replace BK152 := bb_ BK152 hb; replace HB := bs_ HB hb; (try clear hb); (try clear hb2); (try clear hk); (try clear hi); obtain ⟨hcz23_0, hcz23_1, hcz23_2, hfz23_0, hfz23_1, hfz23_2⟩ := c3_ BK152) | (go_at_call 91; (with_reducible refine (addr_Right.calls a1_0 a1_1 a1_2 true _ A5.out).mono ?_); rintro e w24 ⟨rfl, hb⟩; replace BK151 := bb_ BK151 hb; replace BK152 := bb_ BK152 hb; replace HB := bs_ HB hb; (try clear hb); (try clear hb2); (try clear hk); (try clear hi); obtain ⟨hcz25_0, hcz25_1, hcz25_2, hfz25_0, hfz25_1, hfz25_2⟩ := c3_ BK152; obtain ⟨hcz26_0, hcz26_1, hcz26_2, hcz26_3, hfz26_0, hfz26_1, hfz26_2, hfz26_3⟩ := c4_ BK151) | ((with_reducible refine gate_callee (f := 92) rfl ?_); refine gl_ (some 27) Tryz.func92 #[.agg #[.bool a1_0, .int .u64 a1_1, .int .u64 a1_2], .int .i64 a0_3] ?_; (with_reducible refine (prefix_Of.calls k a1_0 a1_1 a1_2 a0_3 t155 t156 t157 t158 t159 _ A17.out).mono ?_); rintro e w27 ⟨rfl, hb⟩; refine ⟨_, rfl, ?_⟩; replace BK151 := bb_ BK151 hb; replace BK152 := bb_ BK152 hb; replace HB := bs_ HB hb; (try clear hb); (try clear hb2); (try clear hk); (try clear hi)) | ((with_reducible refine gate_dst (N := 5) rfl ?_); refine bx_ 5 #[.bool false, .int .u64 0, .int .u64 0, .int .i64 0] 28 ?_; intro gb160 hg w28 hbox hb; have BK160 := Aside0.mk (hbox); have GW160 := gw_ HB hg; have GE160 := gw_ HB hg; have NB151_160 := nl_ BK151 hg; have NB160_151 := ng_ BK151 hg; have NB152_160 := nl_ BK152 hg; have NB160_152 := ng_ BK152 hg; replace BK151 := bb_ BK151 hb; replace BK152 := bb_ BK152 hb; replace HB := bs_ HB hb; clear hb hbox hg; have hnb29 := NB160_151.out; have hnc29 := NB151_160.out; have hnb30 := NB160_152.out; have hnc30 := NB152_160.out; obtain ⟨hcz31_0, hcz31_1, hcz31_2, hcz31_3, hfz31_0, hfz31_1, hfz31_2, hfz31_3⟩ := c4_ BK160; obtain ⟨hcz32_0, hcz32_1, hcz32_2, hcz32_3, hfz32_0, hfz32_1, hfz32_2, hfz32_3⟩ := c4_ BK151))
    go_ret
    exact ⟨by first | rfl | (simp [errW_none, errW_some] <;> rfl) | (simp [*, errW_none, errW_some] <;> rfl), pb_ HB⟩
  ·
   replace c6 := Bool.eq_false_iff.mpr c6
   subst c6
   have H1 : (some false) = some r := by rw [if_neg (show ¬ (false = true) by decide)] at H; exact H
   clear H
   have H := H1
   clear H1
   obtain rfl := Option.some.inj H
   go_enter Tryz.func32, Tryz.ntmps32
   go_wp2_with (first | ((with_reducible refine gate_dst (N := 2) rfl ?_); refine bx_ 2 #[.bool a0_0, .int .u64 a0_1, .int .u64 a0_2, .int .i64 a0_3] 28 ?_; intro gb151 hg w33 hbox hb; have BK151 := Aside0.mk (hbox); have GW151 := gw_ HB hg; have GE151 := gw_ HB hg; replace HB := bs_ HB hb; clear hb hbox hg) | ((with_reducible refine gate_dst (N := 3) rfl ?_); refine bx_ 3 #[.bool a1_0, .int .u64 a1_1, .int .u64 a1_2] 26 ?_; intro gb152 hg w34 hbox hb; have BK152 := Aside0.mk (hbox); have GW152 := gw_ HB hg; have GE152 := gw_ HB hg; have NB151_152 := nl_ BK151 hg; have NB152_151 := ng_ BK151 hg; replace BK151 := bb_ BK151 hb; replace HB := bs_ HB hb; clear hb hbox hg; have hnb35 := NB151_152.out; have hnc35 := NB152_151.out; obtain ⟨hcz36_0, hcz36_1, hcz36_2, hcz36_3, hfz36_0, hfz36_1, hfz36_2, hfz36_3⟩ := c4_ BK151) | ((with_reducible refine gate_callee (f := 90) rfl ?_); refine gl_ (some 8) Tryz.func90 #[.agg #[.bool a0_0, .int .u64 a0_1, .int .u64 a0_2, .int .i64 a0_3]] ?_; (with_reducible refine (prefix_Right.calls a0_0 a0_1 a0_2 a0_3 true _ A3.out).mono ?_); rintro e w37 ⟨rfl, hb⟩; refine ⟨_, rfl, ?_⟩; replace BK151 := bb_ BK151 hb; replace BK152 := bb_ BK152 hb; replace HB := bs_ HB hb; (try clear hb); (try clear hb2); (try clear hk); (try clear hi); obtain ⟨hcz38_0, hcz38_1, hcz38_2, hfz38_0, hfz38_1, hfz38_2⟩ := c3_ BK152) | (go_at_call 91; (with_reducible refine (addr_Right.calls a1_0 a1_1 a1_2 false _ A5.out).mono ?_); rintro e w39 ⟨rfl, hb⟩; replace BK151 := bb_ BK151 hb; replace BK152 := bb_ BK152 hb; replace HB := bs_ HB hb; (try clear hb); (try clear hb2); (try clear hk); (try clear hi)))
   go_ret
   exact ⟨by first | rfl | (simp [errW_none, errW_some] <;> rfl) | (simp [*, errW_none, errW_some] <;> rfl), pb_ HB⟩
 ·
  replace c4 := Bool.eq_false_iff.mpr c4
  subst c4
  have H1 : (some false) = some r := by rw [if_neg (show ¬ (false = true) by decide)] at H; exact H
  clear H
  have H := H1
  clear H1
  obtain rfl := Option.some.inj H
  go_enter Tryz.func32, Tryz.ntmps32
  go_wp2_with (first | ((with_reducible refine gate_dst (N := 2) rfl ?_); refine bx_ 2 #[.bool a0_0, .int .u64 a0_1, .int .u64 a0_2, .int .i64 a0_3] 28 ?_; intro gb151 hg w40 hbox hb; have BK151 := Aside0.mk (hbox); have GW151 := gw_ HB hg; have GE151 := gw_ HB hg; replace HB := bs_ HB hb; clear hb hbox hg) | ((with_reducible refine gate_dst (N := 3) rfl ?_); refine bx_ 3 #[.bool a1_0, .int .u64 a1_1, .int .u64 a1_2] 26 ?_; intro gb152 hg w41 hbox hb; have BK152 := Aside0.mk (hbox); have GW152 := gw_ HB hg; have GE152 := gw_ HB hg; have NB151_152 := nl_ BK151 hg; have NB152_151 := ng_ BK151 hg; replace BK151 := bb_ BK151 hb; replace HB := bs_ HB hb; clear hb hbox hg; have hnb42 := NB151_152.out; have hnc42 := NB152_151.out; obtain ⟨hcz43_0, hcz43_1, hcz43_2, hcz43_3, hfz43_0, hfz43_1, hfz43_2, hfz43_3⟩ := c4_ BK151) | ((with_reducible refine gate_callee (f := 90) rfl ?_); refine gl_ (some 8) Tryz.func90 #[.agg #[.bool a0_0, .int .u64 a0_1, .int .u64 a0_2, .int .i64 a0_3]] ?_; (with_reducible refine (prefix_Right.calls a0_0 a0_1 a0_2 a0_3 false _ A3.out).mono ?_); rintro e w44 ⟨rfl, hb⟩; refine ⟨_, rfl, ?_⟩; replace BK151 := bb_ BK151 hb; replace BK152 := bb_ BK152 hb; replace HB := bs_ HB hb; (try clear hb); (try clear hb2); (try clear hk); (try clear hi)))
  go_ret
  exact ⟨by first | rfl | (simp [errW_none, errW_some] <;> rfl) | (simp [*, errW_none, errW_some] <;> rfl), pb_ HB⟩

def carve_below.f (a0_0 : Bool) (a0_1 : Int) (a0_2 : Int) (a0_3 : Int) (a1_0 : Bool) (a1_1 : Int) (a1_2 : Int) (a2 : Int) : Option (Int × Int) := (addr_Width.f a1_0 a1_1 a1_2).bind fun t164 => ((num_Ones.f (wrap64 (t164 - a0_3))).bind fun bt165 => ((num_And.f a1_1 a1_2 bt165.1 bt165.2).bind fun bt167 => ((num_Shr.f bt167.1 bt167.2 a2).bind fun bt169 => (some (bt169.1, bt169.2)))))
def carve_below.T1 : Bool × List (List Nat × List Nat) := (true, [([], []), ([0], [0]), ([], []), ([2], [2]), ([], []), ([4], [4]), ([3, 5], [3, 5]), ([6, 3], [6]), ([1, 7, 7], [1, 7]), ([], []), ([8, 9, 8], [8, 9]), ([10, 10, 0, 1, 2, 3, 4, 5, 6, 7, 8, 9, 10], [10])])
def carve_below.B1 : List Nat := [0, 1, 0, 4, 0, 16, 60, 124, 255, 0, 1023, 2047]
theorem carve_below.tab1 : rtab .any (opsOf Tryz.f161 1) = carve_below.T1 := by kernel_rfl
theorem carve_below.bits1 : waitsOk carve_below.T1.2 carve_below.B1 = true := by kernel_rfl
set_option maxHeartbeats 8000000 in
set_option maxRecDepth 100000 in
theorem carve_below.calls (a0_0 : Bool) (a0_1 : Int) (a0_2 : Int) (a0_3 : Int) (a1_0 : Bool) (a1_1 : Int) (a1_2 : Int) (a2 : Int) (r1 : Int) (r2 : Int) (w : World) (h : carve_below.f a0_0 a0_1 a0_2 a0_3 a1_0 a1_1 a1_2 a2 = some (r1, r2)) :
  Calls Tryz.prog 161 #[.agg #[.bool a0_0, .int .u64 a0_1, .int .u64 a0_2, .int .i64 a0_3], .agg #[.bool a1_0, .int .u64 a1_1, .int .u64 a1_2], .int .i64 a2] w fun e w' => e = .returned (.agg #[.int .u64 r1, .int .u64 r2]) ∧ Below w.heap.size w w' := by
 have hu28 := Tryz.underlying28
 have hu26 := Tryz.underlying26
 have hu24 := Tryz.underlying24
 have HB := Aside0.mk (Below.refl w.heap.size w)
 have H : ((addr_Width.f a1_0 a1_1 a1_2).bind fun t164 => ((num_Ones.f (wrap64 (t164 - a0_3))).bind fun bt165 => ((num_And.f a1_1 a1_2 bt165.1 bt165.2).bind fun bt167 => ((num_Shr.f bt167.1 bt167.2 a2).bind fun bt169 => (some (bt169.1, bt169.2)))))) = some (r1, r2) := h
 clear h
 replace H := Option.bind_eq_some_iff.mp H
 obtain ⟨t164, A40, H⟩ := H
 replace H : ((num_Ones.f (wrap64 (t164 - a0_3))).bind fun bt165 => ((num_And.f a1_1 a1_2 bt165.1 bt165.2).bind fun bt167 => ((num_Shr.f bt167.1 bt167.2 a2).bind fun bt169 => (some (bt169.1, bt169.2))))) = some (r1, r2) := H
 have A4 := Aside0.mk A40
 clear A40
 replace H := Option.bind_eq_some_iff.mp H
 obtain ⟨⟨t165, t166⟩, A50, H⟩ := H
 replace H : ((num_And.f a1_1 a1_2 t165 t166).bind fun bt167 => ((num_Shr.f bt167.1 bt167.2 a2).bind fun bt169 => (some (bt169.1, bt169.2)))) = some (r1, r2) := H
 have A5 := Aside0.mk A50
 clear A50
 replace H := Option.bind_eq_some_iff.mp H
 obtain ⟨⟨t167, t168⟩, A60, H⟩ := H
 replace H : ((num_Shr.f t167 t168 a2).bind fun bt169 => (some (bt169.1, bt169.2))) = some (r1, r2) := H
 have A6 := Aside0.mk A60
 clear A60
 replace H := Option.bind_eq_some_iff.mp H
 obtain ⟨⟨t169, t170⟩, A70, H⟩ := H
 replace H : (some (t169, t170)) = some (r1, r2) := H
 have A7 := Aside0.mk A70
 clear A70
 simp only [Option.some.injEq, Prod.mk.injEq] at H
 obtain ⟨rfl, rfl⟩ := H
 go_enter Tryz.func161, Tryz.ntmps161
 try go_wp2_with (first | ((with_reducible refine gate_dst (N := 3) rfl ?_); refine bx_ 3 #[.bool a0_0, .int .u64 a0_1, .int .u64 a0_2, .int .i64 a0_3] 28 ?_; intro gb161 hg w8 hbox hb; have BK161 := Aside0.mk (hbox); have GW161 := gw_ HB hg; have GE161 := gw_ HB hg; replace HB := bs_ HB hb; clear hb hbox hg) | ((with_reducible refine gate_dst (N := 4) rfl ?_); refine bx_ 4 #[.bool a1_0, .int .u64 a1_1, .int .u64 a1_2] 26 ?_; intro gb162 hg w9 hbox hb; have BK162 := Aside0.mk (hbox); have GW162 := gw_ HB hg; have GE162 := gw_ HB hg; have NB161_162 := nl_ BK161 hg; have NB162_161 := ng_ BK161 hg; replace BK161 := bb_ BK161 hb; replace HB := bs_ HB hb; clear hb hbox hg) | ((with_reducible refine gate_dst (N := 6) rfl ?_); refine bx_ 6 #[.int .u64 0, .int .u64 0] 24 ?_; intro gb163 hg w10 hbox hb; have BK163 := Aside0.mk (hbox); have GW163 := gw_ HB hg; have GE163 := gw_ HB hg; have NB161_163 := nl_ BK161 hg; have NB163_161 := ng_ BK161 hg; have NB162_163 := nl_ BK162 hg; have NB163_162 := ng_ BK162 hg; replace BK161 := bb_ BK161 hb; replace BK162 := bb_ BK162 hb; replace HB := bs_ HB hb; clear hb hbox hg))
 replace BK161 := Aside0.mk (blk_drew BK161.out)
 replace BK162 := Aside0.mk (blk_drew BK162.out)
 replace BK163 := Aside0.mk (blk_drew BK163.out)
 replace HB := Aside0.mk (below_drew1 HB.out)
 refine start_ (n := 12) (S := fun w' => w'.cell? ⟨gb162, 0, none⟩ = some (.bool a1_0) ∧ w'.cell? ⟨gb162, 1, none⟩ = some (.int .u64 a1_1) ∧ w'.cell? ⟨gb162, 2, none⟩ = some (.int .u64 a1_2) ∧ w'.cell? ⟨gb161, 0, none⟩ = some (.bool a0_0) ∧ w'.cell? ⟨gb161, 1, none⟩ = some (.int .u64 a0_1) ∧ w'.cell? ⟨gb161, 2, none⟩ = some (.int .u64 a0_2) ∧ w'.cell? ⟨gb161, 3, none⟩ = some (.int .i64 a0_3)) (ds := []) (bm_ 12 0) (by kernel_rfl) rfl rfl ⟨kc_ BK162 0, kc_ BK162 1, kc_ BK162 2, kc_ BK161 0, kc_ BK161 1, kc_ BK161 2, kc_ BK161 3⟩ (fun hHeld => ?_); refine with_tabW carve_below.tab1 carve_below.bits1 (fun HT_ HW_ => ?_)
 generalize w10.drew = w11 at BK161 BK162 BK163 HB hHeld ⊢
 refine pu_ 0 (some 7) (bm_ 12 1) rfl HT_ ⟨by rfl, by intro w'; go_simp; with_reducible rfl⟩ ?_
 refine pu_ 4 (some 11) (bm_ 12 17) rfl HT_ ⟨by rfl, by intro w'; go_simp; with_reducible rfl⟩ ?_
 refine pu_ 9 (some 16) (bm_ 12 529) rfl HT_ ⟨by rfl, by intro w'; go_simp; with_reducible rfl⟩ ?_
 refine ta_ 1 (some 8) (bm_ 12 531) rfl HT_ HW_ ⟨by rfl, by rintro w' ⟨s0, s1, s2, s3, s4, s5, s6⟩; go_simp; with_reducible rfl⟩ hHeld ?_
 refine ta_ 2 (some 9) (bm_ 12 535) rfl HT_ HW_ ⟨by rfl, by rintro w' ⟨s0, s1, s2, s3, s4, s5, s6⟩; go_simp; with_reducible rfl⟩ hHeld ?_
 refine ta_ 5 (some 12) (bm_ 12 567) rfl HT_ HW_ ⟨by rfl, by rintro w' ⟨s0, s1, s2, s3, s4, s5, s6⟩; go_simp; with_reducible rfl⟩ hHeld ?_
 refine one_ (i := 3) (N := some 10) (bm_ 12 575) rfl rfl (one_of HT_.out (by kernel_rfl)) (by decide) (fun K hK => ?_)
 refine gr_ Tryz.func132 #[.agg #[.bool a1_0, .int .u64 a1_1, .int .u64 a1_2]] ?_
 with_reducible refine (addr_Width.calls a1_0 a1_1 a1_2 t164 _ A4.out).mono ?_
 rintro e w12 ⟨rfl, hb⟩
 refine ⟨_, rfl, ?_⟩
 replace BK161 := bb_ BK161 hb
 replace BK162 := bb_ BK162 hb
 replace BK163 := bb_ BK163 hb
 replace HB := bs_ HB hb
 (try clear hb)
 (try clear hb2)
 (try clear hk)
 (try clear hi)
 refine hK.out _ _ ⟨kc_ BK162 0, kc_ BK162 1, kc_ BK162 2, kc_ BK161 0, kc_ BK161 1, kc_ BK161 2, kc_ BK161 3⟩ (fun hHeld => ?_)
 clear hK K
 refine norm_ (a' := ?_) ?_ ?_
 rotate_left
 ·
  show Act.put _ (some 10) _ = _
  simp only [Act.put, List.setIfInBounds_toArray, List.set_cons_zero, List.set_cons_succ, i64_w, i32_w]
  rfl
 refine pu_ 6 (some 13) (bm_ 12 639) rfl HT_ ⟨by rfl, by intro w'; go_simp; with_reducible rfl⟩ ?_
 refine one_ (i := 7) (N := some 14) (bm_ 12 767) rfl rfl (one_of HT_.out (by kernel_rfl)) (by decide) (fun K hK => ?_)
 refine gr_ Tryz.func136 #[.int .i64 (wrap64 (t164 - a0_3))] ?_
 with_reducible refine (num_Ones.calls (wrap64 (t164 - a0_3)) t165 t166 _ A5.out).mono ?_
 rintro e w13 ⟨rfl, hb⟩
 refine ⟨_, rfl, ?_⟩
 replace BK161 := bb_ BK161 hb
 replace BK162 := bb_ BK162 hb
 replace BK163 := bb_ BK163 hb
 replace HB := bs_ HB hb
 (try clear hb)
 (try clear hb2)
 (try clear hk)
 (try clear hi)
 refine hK.out _ _ ⟨kc_ BK162 0, kc_ BK162 1, kc_ BK162 2, kc_ BK161 0, kc_ BK161 1, kc_ BK161 2, kc_ BK161 3⟩ (fun hHeld => ?_)
 clear hK K
 refine norm_ (a' := ?_) ?_ ?_
 rotate_left
 ·
  show Act.put _ (some 14) _ = _
  simp only [Act.put, List.setIfInBounds_toArray, List.set_cons_zero, List.set_cons_succ, i64_w, i32_w]
  rfl
 refine one_ (i := 8) (N := some 15) (bm_ 12 1023) rfl rfl (one_of HT_.out (by kernel_rfl)) (by decide) (fun K hK => ?_)
 refine gr_ Tryz.func133 #[.agg #[.int .u64 a1_1, .int .u64 a1_2], .agg #[.int .u64 t165, .int .u64 t166]] ?_
 with_reducible refine (num_And.calls a1_1 a1_2 t165 t166 t167 t168 _ A6.out).mono ?_
 rintro e w14 ⟨rfl, hb⟩
 refine ⟨_, rfl, ?_⟩
 replace BK161 := bb_ BK161 hb
 replace BK162 := bb_ BK162 hb
 replace BK163 := bb_ BK163 hb
 replace HB := bs_ HB hb
 (try clear hb)
 (try clear hb2)
 (try clear hk)
 (try clear hi)
 refine hK.out _ _ ⟨kc_ BK162 0, kc_ BK162 1, kc_ BK162 2, kc_ BK161 0, kc_ BK161 1, kc_ BK161 2, kc_ BK161 3⟩ (fun hHeld => ?_)
 clear hK K
 refine norm_ (a' := ?_) ?_ ?_
 rotate_left
 ·
  show Act.put _ (some 15) _ = _
  simp only [Act.put, List.setIfInBounds_toArray, List.set_cons_zero, List.set_cons_succ, i64_w, i32_w]
  rfl
 refine one_ (i := 10) (N := some 17) (bm_ 12 2047) rfl rfl (one_of HT_.out (by kernel_rfl)) (by decide) (fun K hK => ?_)
 refine gr_ Tryz.func159 #[.agg #[.int .u64 t167, .int .u64 t168], .int .i64 a2] ?_
 with_reducible refine (num_Shr.calls t167 t168 a2 t169 t170 _ A7.out).mono ?_
 rintro e w15 ⟨rfl, hb⟩
 refine ⟨_, rfl, ?_⟩
 replace BK161 := bb_ BK161 hb
 replace BK162 := bb_ BK162 hb
 replace BK163 := bb_ BK163 hb
 replace HB := bs_ HB hb
 (try clear hb)
 (try clear hb2)
 (try clear hk)
 (try clear hi)
 refine hK.out _ _ ⟨kc_ BK162 0, kc_ BK162 1, kc_ BK162 2, kc_ BK161 0, kc_ BK161 1, kc_ BK161 2, kc_ BK161 3⟩ (fun hHeld => ?_)
 clear hK K
 refine norm_ (a' := ?_) ?_ ?_
 rotate_left
 ·
  show Act.put _ (some 17) _ = _
  simp only [Act.put, List.setIfInBounds_toArray, List.set_cons_zero, List.set_cons_succ, i64_w, i32_w]
  rfl
 refine one_ (i := 11) (N := none) (bm_ 12 4095) rfl rfl (one_of HT_.out (by kernel_rfl)) (by decide) (fun K hK => ?_)
 have hs16 : w15.cell? ⟨gb163, 0, none⟩ = some (.int .u64 0) := kc_ BK163 0
 have hfs16 := blk_frozen BK163.out 0
 have hns16_0 := NB161_163.out
 have hns16_1 := NB162_163.out
 have hms16_0 := NB163_161.out
 have hms16_1 := NB163_162.out
 have hs17 : w15.cell? ⟨gb163, 1, none⟩ = some (.int .u64 0) := kc_ BK163 1
 have hfs17 := blk_frozen BK163.out 1
 have hns17_0 := NB161_163.out
 have hns17_1 := NB162_163.out
 have hms17_0 := NB163_161.out
 have hms17_1 := NB163_162.out
 refine skip_ (w1 := ?_) (by rfl) rfl ?_ ?_
 rotate_left
 ·
  go_simp
  rfl
 refine hK.out _ _ ⟨((cell_far (p := ⟨gb163, _, none⟩) NB162_163.out _).trans (((cell_far (p := ⟨gb163, _, none⟩) NB162_163.out _).trans (hHeld.1)))), ((cell_far (p := ⟨gb163, _, none⟩) NB162_163.out _).trans (((cell_far (p := ⟨gb163, _, none⟩) NB162_163.out _).trans (hHeld.2.1)))), ((cell_far (p := ⟨gb163, _, none⟩) NB162_163.out _).trans (((cell_far (p := ⟨gb163, _, none⟩) NB162_163.out _).trans (hHeld.2.2.1)))), ((cell_far (p := ⟨gb163, _, none⟩) NB161_163.out _).trans (((cell_far (p := ⟨gb163, _, none⟩) NB161_163.out _).trans (hHeld.2.2.2.1)))), ((cell_far (p := ⟨gb163, _, none⟩) NB161_163.out _).trans (((cell_far (p := ⟨gb163, _, none⟩) NB161_163.out _).trans (hHeld.2.2.2.2.1)))), ((cell_far (p := ⟨gb163, _, none⟩) NB161_163.out _).trans (((cell_far (p := ⟨gb163, _, none⟩) NB161_163.out _).trans (hHeld.2.2.2.2.2.1)))), ((cell_far (p := ⟨gb163, _, none⟩) NB161_163.out _).trans (((cell_far (p := ⟨gb163, _, none⟩) NB161_163.out _).trans (hHeld.2.2.2.2.2.2))))⟩ (fun hHeld => ?_)
 clear hK K
 refine done_ (done_of HT_.out (by kernel_rfl)) ?_
 try go_wp2
 refine bodyPost_ret (results_cell_row rfl _ _ gb163 24 #[.int .u64 t169, .int .u64 t170] (0, 0) _ rfl (by refine pw_ ?_; refine blk_put (cs := #[.int .u64 t169, .int .u64 0]) ?_ 1 _ rfl; refine pw_ ?_; refine blk_put (cs := #[.int .u64 0, .int .u64 0]) ?_ 0 _ rfl; refine pw_ ?_; exact BK163.out) Tryz.underlying24 rfl (by kernel_rfl)) rfl ?_
 exact ⟨by first | rfl | (simp [errW_none, errW_some] <;> rfl) | (simp [*, errW_none, errW_some] <;> rfl), pb_ HB⟩

def carve_Number.f (k : Nat) (a0_0 : Bool) (a0_1 : Int) (a0_2 : Int) (a0_3 : Int) (a1_0 : Bool) (a1_1 : Int) (a1_2 : Int) : Option (Int × Int × Int) := (prefix_Right.f a0_0 a0_1 a0_2 a0_3).bind fun t174 => (if t174 = true then ((prefix_Has.f k a0_0 a0_1 a0_2 a0_3 a1_0 a1_1 a1_2).bind fun t175 => (if t175 = true then ((carve_below.f a0_0 a0_1 a0_2 a0_3 a1_0 a1_1 a1_2 0).bind fun bt176 => (some (bt176.1, bt176.2, 0))) else (some (0, 0, 12)))) else (some (0, 0, 1)))
set_option maxHeartbeats 8000000 in
set_option maxRecDepth 100000 in
theorem carve_Number.calls (k : Nat) (a0_0 : Bool) (a0_1 : Int) (a0_2 : Int) (a0_3 : Int) (a1_0 : Bool) (a1_1 : Int) (a1_2 : Int) (r1 : Int) (r2 : Int) (r3 : Int) (w : World) (h : carve_Number.f k a0_0 a0_1 a0_2 a0_3 a1_0 a1_1 a1_2 = some (r1, r2, r3)) :
  Calls Tryz.prog 122 #[.agg #[.bool a0_0, .int .u64 a0_1, .int .u64 a0_2, .int .i64 a0_3], .agg #[.bool a1_0, .int .u64 a1_1, .int .u64 a1_2]] w fun e w' => e = .returned (.tuple #[.agg #[.int .u64 r1, .int .u64 r2], .int .i64 r3]) ∧ Below w.heap.size w w' := by
 have hu28 := Tryz.underlying28
 have hu26 := Tryz.underlying26
 have hu24 := Tryz.underlying24
 have HB := Aside0.mk (Below.refl w.heap.size w)
 have H : ((prefix_Right.f a0_0 a0_1 a0_2 a0_3).bind fun t174 => (if t174 = true then ((prefix_Has.f k a0_0 a0_1 a0_2 a0_3 a1_0 a1_1 a1_2).bind fun t175 => (if t175 = true then ((carve_below.f a0_0 a0_1 a0_2 a0_3 a1_0 a1_1 a1_2 0).bind fun bt176 => (some (bt176.1, bt176.2, 0))) else (some (0, 0, 12)))) else (some (0, 0, 1)))) = some (r1, r2, r3) := h
 clear h
 replace H := Option.bind_eq_some_iff.mp H
 obtain ⟨t174, A30, H⟩ := H
 replace H : (if t174 = true then ((prefix_Has.f k a0_0 a0_1 a0_2 a0_3 a1_0 a1_1 a1_2).bind fun t175 => (if t175 = true then ((carve_below.f a0_0 a0_1 a0_2 a0_3 a1_0 a1_1 a1_2 0).bind fun bt176 => (some (bt176.1, bt176.2, 0))) else (some (0, 0, 12)))) else (some (0, 0, 1))) = some (r1, r2, r3) := H
 have A3 := Aside0.mk A30
 clear A30
 by_cases c4 : t174 = true
 ·
  subst c4
  rw [if_pos rfl] at H
  replace H := Option.bind_eq_some_iff.mp H
  obtain ⟨t175, A50, H⟩ := H
  replace H : (if t175 = true then ((carve_below.f a0_0 a0_1 a0_2 a0_3 a1_0 a1_1 a1_2 0).bind fun bt176 => (some (bt176.1, bt176.2, 0))) else (some (0, 0, 12))) = some (r1, r2, r3) := H
  have A5 := Aside0.mk A50
  clear A50
  by_cases c6 : t175 = true
  ·
   subst c6
   rw [if_pos rfl] at H
   replace H := Option.bind_eq_some_iff.mp H
   obtain ⟨⟨t176, t177⟩, A70, H⟩ := H
   replace H : (some (t176, t177, 0)) = some (r1, r2, r3) := H
   have A7 := Aside0.mk A70
   clear A70
   simp only [Option.some.injEq, Prod.mk.injEq] at H
   obtain ⟨rfl, rfl, rfl⟩ := H
   go_enter Tryz.func122, Tryz.ntmps122
   go_wp2_with (first | ((with_reducible refine gate_dst (N := 2) rfl ?_); refine bx_ 2 #[.bool a0_0, .int .u64 a0_1, .int .u64 a0_2, .int .i64 a0_3] 28 ?_; intro gb171 hg w8 hbox hb; have BK171 := Aside0.mk (hbox); have GW171 := gw_ HB hg; have GE171 := gw_ HB hg; replace HB := bs_ HB hb; clear hb hbox hg) | ((with_reducible refine gate_dst (N := 3) rfl ?_); refine bx_ 3 #[.bool a1_0, .int .u64 a1_1, .int .u64 a1_2] 26 ?_; intro gb172 hg w9 hbox hb; have BK172 := Aside0.mk (hbox); have GW172 := gw_ HB hg; have GE172 := gw_ HB hg; have NB171_172 := nl_ BK171 hg; have NB172_171 := ng_ BK171 hg; replace BK171 := bb_ BK171 hb; replace HB := bs_ HB hb; clear hb hbox hg) | ((with_reducible refine gate_dst (N := 4) rfl ?_); refine bx_ 4 #[.int .u64 0, .int .u64 0] 24 ?_; intro gb173 hg w10 hbox hb; have BK173 := Aside0.mk (hbox); have GW173 := gw_ HB hg; have GE173 := gw_ HB hg; have NB171_173 := nl_ BK171 hg; have NB173_171 := ng_ BK171 hg; have NB172_173 := nl_ BK172 hg; have NB173_172 := ng_ BK172 hg; replace BK171 := bb_ BK171 hb; replace BK172 := bb_ BK172 hb; replace HB := bs_ HB hb; clear hb hbox hg; have hnb11 := NB171_172.out; have hnc11 := NB172_171.out; have hnb12 := NB171_173.out; have hnc12 := NB173_171.out; obtain ⟨hcz13_0, hcz13_1, hcz13_2, hcz13_3, hfz13_0, hfz13_1, hfz13_2, hfz13_3⟩ := c4_ BK171) | ((with_reducible refine gate_callee (f := 90) rfl ?_); refine gl_ (some 8) Tryz.func90 #[.agg #[.bool a0_0, .int .u64 a0_1, .int .u64 a0_2, .int .i64 a0_3]] ?_; (with_reducible refine (prefix_Right.calls a0_0 a0_1 a0_2 a0_3 true _ A3.out).mono ?_); rintro e w14 ⟨rfl, hb⟩; refine ⟨_, rfl, ?_⟩; replace BK171 := bb_ BK171 hb; replace BK172 := bb_ BK172 hb; replace BK173 := bb_ BK173 hb; replace HB := bs_ HB hb; (try clear hb); (try clear hb2); (try clear hk); (try clear hi); obtain ⟨hcz15_0, hcz15_1, hcz15_2, hcz15_3, hfz15_0, hfz15_1, hfz15_2, hfz15_3⟩ := c4_ BK171; have hnb16 := NB172_173.out; have hnc16 := NB173_172.out; obtain ⟨hcz17_0, hcz17_1, hcz17_2, hfz17_0, hfz17_1, hfz17_2⟩ := c3_ BK172) | ((with_reducible refine gate_callee (f := 32) rfl ?_); refine gl_ (some 14) Tryz.func32 #[.agg #[.bool a0_0, .int .u64 a0_1, .int .u64 a0_2, .int .i64 a0_3], .agg #[.bool a1_0, .int .u64 a1_1, .int .u64 a1_2]] ?_; (with_reducible refine (prefix_Has.calls k a0_0 a0_1 a0_2 a0_3 a1_0 a1_1 a1_2 true _ A5.out).mono ?_); rintro e w18 ⟨rfl, hb⟩; refine ⟨_, rfl, ?_⟩; replace BK171 := bb_ BK171 hb; replace BK172 := bb_ BK172 hb; replace BK173 := bb_ BK173 hb; replace HB := bs_ HB hb; (try clear hb); (try clear hb2); (try clear hk); (try clear hi); obtain ⟨hcz19_0, hcz19_1, hcz19_2, hcz19_3, hfz19_0, hfz19_1, hfz19_2, hfz19_3⟩ := c4_ BK171; obtain ⟨hcz20_0, hcz20_1, hcz20_2, hfz20_0, hfz20_1, hfz20_2⟩ := c3_ BK172) | ((with_reducible refine gate_callee (f := 161) rfl ?_); refine gl_ (some 19) Tryz.func161 #[.agg #[.bool a0_0, .int .u64 a0_1, .int .u64 a0_2, .int .i64 a0_3], .agg #[.bool a1_0, .int .u64 a1_1, .int .u64 a1_2], .int .i64 0] ?_; (with_reducible refine (carve_below.calls a0_0 a0_1 a0_2 a0_3 a1_0 a1_1 a1_2 0 t176 t177 _ A7.out).mono ?_); rintro e w21 ⟨rfl, hb⟩; refine ⟨_, rfl, ?_⟩; replace BK171 := bb_ BK171 hb; replace BK172 := bb_ BK172 hb; replace BK173 := bb_ BK173 hb; replace HB := bs_ HB hb; (try clear hb); (try clear hb2); (try clear hk); (try clear hi); obtain ⟨hcz22_0, hcz22_1, hfz22_0, hfz22_1⟩ := c2_ BK173))
   refine bodyPost_ret (results_ct rfl _ _ gb173 24 #[.int .u64 t176, .int .u64 t177] (0, 0) _ rfl (by refine pw_ ?_; refine blk_put (cs := #[.int .u64 t176, .int .u64 0]) ?_ 1 _ rfl; refine pw_ ?_; refine blk_put (cs := #[.int .u64 0, .int .u64 0]) ?_ 0 _ rfl; refine pw_ ?_; exact BK173.out) Tryz.underlying24 rfl (by kernel_rfl)) rfl ?_
   exact ⟨by first | rfl | (simp [errW_none, errW_some] <;> rfl) | (simp [*, errW_none, errW_some] <;> rfl), pb_ HB⟩
  ·
   replace c6 := Bool.eq_false_iff.mpr c6
   subst c6
   have H1 : (some (0, 0, 12)) = some (r1, r2, r3) := by rw [if_neg (show ¬ (false = true) by decide)] at H; exact H
   clear H
   have H := H1
   clear H1
   simp only [Option.some.injEq, Prod.mk.injEq] at H
   obtain ⟨rfl, rfl, rfl⟩ := H
   go_enter Tryz.func122, Tryz.ntmps122
   go_wp2_with (first | ((with_reducible refine gate_dst (N := 2) rfl ?_); refine bx_ 2 #[.bool a0_0, .int .u64 a0_1, .int .u64 a0_2, .int .i64 a0_3] 28 ?_; intro gb171 hg w23 hbox hb; have BK171 := Aside0.mk (hbox); have GW171 := gw_ HB hg; have GE171 := gw_ HB hg; replace HB := bs_ HB hb; clear hb hbox hg) | ((with_reducible refine gate_dst (N := 3) rfl ?_); refine bx_ 3 #[.bool a1_0, .int .u64 a1_1, .int .u64 a1_2] 26 ?_; intro gb172 hg w24 hbox hb; have BK172 := Aside0.mk (hbox); have GW172 := gw_ HB hg; have GE172 := gw_ HB hg; have NB171_172 := nl_ BK171 hg; have NB172_171 := ng_ BK171 hg; replace BK171 := bb_ BK171 hb; replace HB := bs_ HB hb; clear hb hbox hg) | ((with_reducible refine gate_dst (N := 4) rfl ?_); refine bx_ 4 #[.int .u64 0, .int .u64 0] 24 ?_; intro gb173 hg w25 hbox hb; have BK173 := Aside0.mk (hbox); have GW173 := gw_ HB hg; have GE173 := gw_ HB hg; have NB171_173 := nl_ BK171 hg; have NB173_171 := ng_ BK171 hg; have NB172_173 := nl_ BK172 hg; have NB173_172 := ng_ BK172 hg; replace BK171 := bb_ BK171 hb; replace BK172 := bb_ BK172 hb; replace HB := bs_ HB hb; clear hb hbox hg; have hnb26 := NB171_172.out; have hnc26 := NB172_171.out; have hnb27 := NB171_173.out; have hnc27 := NB173_171.out; obtain ⟨hcz28_0, hcz28_1, hcz28_2, hcz28_3, hfz28_0, hfz28_1, hfz28_2, hfz28_3⟩ := c4_ BK171) | ((with_reducible refine gate_callee (f := 90) rfl ?_); refine gl_ (some 8) Tryz.func90 #[.agg #[.bool a0_0, .int .u64 a0_1, .int .u64 a0_2, .int .i64 a0_3]] ?_; (with_reducible refine (prefix_Right.calls a0_0 a0_1 a0_2 a0_3 true _ A3.out).mono ?_); rintro e w29 ⟨rfl, hb⟩; refine ⟨_, rfl, ?_⟩; replace BK171 := bb_ BK171 hb; replace BK172 := bb_ BK172 hb; replace BK173 := bb_ BK173 hb; replace HB := bs_ HB hb; (try clear hb); (try clear hb2); (try clear hk); (try clear hi); obtain ⟨hcz30_0, hcz30_1, hcz30_2, hcz30_3, hfz30_0, hfz30_1, hfz30_2, hfz30_3⟩ := c4_ BK171; have hnb31 := NB172_173.out; have hnc31 := NB173_172.out; obtain ⟨hcz32_0, hcz32_1, hcz32_2, hfz32_0, hfz32_1, hfz32_2⟩ := c3_ BK172) | ((with_reducible refine gate_callee (f := 32) rfl ?_); refine gl_ (some 14) Tryz.func32 #[.agg #[.bool a0_0, .int .u64 a0_1, .int .u64 a0_2, .int .i64 a0_3], .agg #[.bool a1_0, .int .u64 a1_1, .int .u64 a1_2]] ?_; (with_reducible refine (prefix_Has.calls k a0_0 a0_1 a0_2 a0_3 a1_0 a1_1 a1_2 false _ A5.out).mono ?_); rintro e w33 ⟨rfl, hb⟩; refine ⟨_, rfl, ?_⟩; replace BK171 := bb_ BK171 hb; replace BK172 := bb_ BK172 hb; replace BK173 := bb_ BK173 hb; replace HB := bs_ HB hb; (try clear hb); (try clear hb2); (try clear hk); (try clear hi); obtain ⟨hcz34_0, hcz34_1, hfz34_0, hfz34_1⟩ := c2_ BK173))
   refine bodyPost_ret (results_ct rfl _ _ gb173 24 #[.int .u64 0, .int .u64 0] (0, 0) _ rfl (by refine pw_ ?_; refine blk_put (cs := #[.int .u64 0, .int .u64 0]) ?_ 1 _ rfl; refine pw_ ?_; refine blk_put (cs := #[.int .u64 0, .int .u64 0]) ?_ 0 _ rfl; refine pw_ ?_; exact BK173.out) Tryz.underlying24 rfl (by kernel_rfl)) rfl ?_
   exact ⟨by first | rfl | (simp [errW_none, errW_some] <;> rfl) | (simp [*, errW_none, errW_some] <;> rfl), pb_ HB⟩
 ·
  replace c4 := Bool.eq_false_iff.mpr c4
  subst c4
  have H1 : (some (0, 0, 1)) = some (r1, r2, r3) := by rw [if_neg (show ¬ (false = true) by decide)] at H; exact H
  clear H
  have H := H1
  clear H1
  simp only [Option.some.injEq, Prod.mk.injEq] at H
  obtain ⟨rfl, rfl, rfl⟩ := H
  go_enter Tryz.func122, Tryz.ntmps122
  go_wp2_with (first | ((with_reducible refine gate_dst (N := 2) rfl ?_); refine bx_ 2 #[.bool a0_0, .int .u64 a0_1, .int .u64 a0_2, .int .i64 a0_3] 28 ?_; intro gb171 hg w35 hbox hb; have BK171 := Aside0.mk (hbox); have GW171 := gw_ HB hg; have GE171 := gw_ HB hg; replace HB := bs_ HB hb; clear hb hbox hg) | ((with_reducible refine gate_dst (N := 3) rfl ?_); refine bx_ 3 #[.bool a1_0, .int .u64 a1_1, .int .u64 a1_2] 26 ?_; intro gb172 hg w36 hbox hb; have BK172 := Aside0.mk (hbox); have GW172 := gw_ HB hg; have GE172 := gw_ HB hg; have NB171_172 := nl_ BK171 hg; have NB172_171 := ng_ BK171 hg; replace BK171 := bb_ BK171 hb; replace HB := bs_ HB hb; clear hb hbox hg) | ((with_reducible refine gate_dst (N := 4) rfl ?_); refine bx_ 4 #[.int .u64 0, .int .u64 0] 24 ?_; intro gb173 hg w37 hbox hb; have BK173 := Aside0.mk (hbox); have GW173 := gw_ HB hg; have GE173 := gw_ HB hg; have NB171_173 := nl_ BK171 hg; have NB173_171 := ng_ BK171 hg; have NB172_173 := nl_ BK172 hg; have NB173_172 := ng_ BK172 hg; replace BK171 := bb_ BK171 hb; replace BK172 := bb_ BK172 hb; replace HB := bs_ HB hb; clear hb hbox hg; have hnb38 := NB171_172.out; have hnc38 := NB172_171.out; have hnb39 := NB171_173.out; have hnc39 := NB173_171.out; obtain ⟨hcz40_0, hcz40_1, hcz40_2, hcz40_3, hfz40_0, hfz40_1, hfz40_2, hfz40_3⟩ := c4_ BK171) | ((with_reducible refine gate_callee (f := 90) rfl ?_); refine gl_ (some 8) Tryz.func90 #[.agg #[.bool a0_0, .int .u64 a0_1, .int .u64 a0_2, .int .i64 a0_3]] ?_; (with_reducible refine (prefix_Right.calls a0_0 a0_1 a0_2 a0_3 false _ A3.out).mono ?_); rintro e w41 ⟨rfl, hb⟩; refine ⟨_, rfl, ?_⟩; replace BK171 := bb_ BK171 hb; replace BK172 := bb_ BK172 hb; replace BK173 := bb_ BK173 hb; replace HB := bs_ HB hb; (try clear hb); (try clear hb2); (try clear hk); (try clear hi); have hnb42 := NB173_172.out; have hnc42 := NB172_173.out; obtain ⟨hcz43_0, hcz43_1, hfz43_0, hfz43_1⟩ := c2_ BK173))
  refine bodyPost_ret (results_ct rfl _ _ gb173 24 #[.int .u64 0, .int .u64 0] (0, 0) _ rfl (by refine pw_ ?_; refine blk_put (cs := #[.int .u64 0, .int .u64 0]) ?_ 1 _ rfl; refine pw_ ?_; refine blk_put (cs := #[.int .u64 0, .int .u64 0]) ?_ 0 _ rfl; refine pw_ ?_; exact BK173.out) Tryz.underlying24 rfl (by kernel_rfl)) rfl ?_
  exact ⟨by first | rfl | (simp [errW_none, errW_some] <;> rfl) | (simp [*, errW_none, errW_some] <;> rfl), pb_ HB⟩

end Go.Proofs.YtpfilldnfpcpkaaGreatDoor.PPo

namespace Go.Proofs.YtpfilldnfpcpkaaGreatDoor.PPo
open Go.RowKit Go.Proofs.YtpfilldnfpcpkaaGreatDoorW.PrintWords Go.Proofs.YtpfilldnfpcpkaaGreatDoorW.PrintLast Go.Proofs.YtpfilldnfpcpkaaGreatDoorW.PrintMore
attribute [local go_sem] max2_int min2_int max_two min_two max_three min_three max_four min_four   -- for this text's walks alone

def pool_broadcast.f (k : Nat) (a0_0 : Bool) (a0_1 : Int) (a0_2 : Int) (a0_3 : Int) (a1 : Int) : Option (Int × Bool) := (prefix_Last.f a0_0 a0_1 a0_2 a0_3).bind fun bt179 => ((carve_Number.f k a0_0 a0_1 a0_2 a0_3 bt179.1 bt179.2.1 bt179.2.2).bind fun bt182 => ((num_Small.f bt182.1 bt182.2.1).bind fun bt186 => (if bt182.2.2 = 0 then (if bt186.2 = true then (if a0_0 = true then (some (wrap64 (a1 - 1), false)) else (some (wrap64 (a1 - 1), (bt186.1 == (IntKind.u64.wrap (wrap64 (a1 - 1))))))) else (some (wrap64 (a1 - 1), false))) else (some (wrap64 (a1 - 1), false)))))
def pool_broadcast.T1 : Bool × List (List Nat × List Nat) := (true, [([], []), ([], []), ([1], [1]), ([0, 2, 2], [0, 2]), ([3], [3]), ([4], [4]), ([4], [4]), ([], []), ([7, 5, 3, 0, 1, 2, 3, 4, 5, 7], [5, 7]), ([6, 8, 0, 1, 2, 3, 4, 5, 6, 7, 8], [6])])
def pool_broadcast.B1 : List Nat := [0, 0, 2, 7, 15, 31, 31, 0, 191, 511]
theorem pool_broadcast.tab1 : rtab .any (opsOf Tryz.f71 1) = pool_broadcast.T1 := by kernel_rfl
theorem pool_broadcast.bits1 : waitsOk pool_broadcast.T1.2 pool_broadcast.B1 = true := by kernel_rfl
set_option maxHeartbeats 8000000 in
set_option maxRecDepth 100000 in
theorem pool_broadcast.calls (k : Nat) (a0_0 : Bool) (a0_1 : Int) (a0_2 : Int) (a0_3 : Int) (a1 : Int) (r1 : Int) (r2 : Bool) (w : World) (h : pool_broadcast.f k a0_0 a0_1 a0_2 a0_3 a1 = some (r1, r2)) :
  Calls Tryz.prog 71 #[.agg #[.bool a0_0, .int .u64 a0_1, .int .u64 a0_2, .int .i64 a0_3], .int .i64 a1] w fun e w' => e = .returned (.tuple #[.int .i64 r1, .bool r2]) ∧ Below w.heap.size w w' := by
 have hu28 := Tryz.underlying28
 have hu24 := Tryz.underlying24
 have HB := Aside0.mk (Below.refl w.heap.size w)
 have H : ((prefix_Last.f a0_0 a0_1 a0_2 a0_3).bind fun bt179 => ((carve_Number.f k a0_0 a0_1 a0_2 a0_3 bt179.1 bt179.2.1 bt179.2.2).bind fun bt182 => ((num_Small.f bt182.1 bt182.2.1).bind fun bt186 => (if bt182.2.2 = 0 then (if bt186.2 = true then (if a0_0 = true then (some (wrap64 (a1 - 1), false)) else (some (wrap64 (a1 - 1), (bt186.1 == (IntKind.u64.wrap (wrap64 (a1 - 1))))))) else (some (wrap64 (a1 - 1), false))) else (some (wrap64 (a1 - 1), false)))))) = some (r1, r2) := h
 clear h
 replace H := Option.bind_eq_some_iff.mp H
 obtain ⟨⟨t179, t180, t181⟩, A30, H⟩ := H
 replace H : ((carve_Number.f k a0_0 a0_1 a0_2 a0_3 t179 t180 t181).bind fun bt182 => ((num_Small.f bt182.1 bt182.2.1).bind fun bt186 => (if bt182.2.2 = 0 then (if bt186.2 = true then (if a0_0 = true then (some (wrap64 (a1 - 1), false)) else (some (wrap64 (a1 - 1), (bt186.1 == (IntKind.u64.wrap (wrap64 (a1 - 1))))))) else (some (wrap64 (a1 - 1), false))) else (some (wrap64 (a1 - 1), false))))) = some (r1, r2) := H
 have A3 := Aside0.mk A30
 clear A30
 replace H := Option.bind_eq_some_iff.mp H
 obtain ⟨⟨t182, t183, t184⟩, A40, H⟩ := H
 replace H : ((num_Small.f t182 t183).bind fun bt186 => (if t184 = 0 then (if bt186.2 = true then (if a0_0 = true then (some (wrap64 (a1 - 1), false)) else (some (wrap64 (a1 - 1), (bt186.1 == (IntKind.u64.wrap (wrap64 (a1 - 1))))))) else (some (wrap64 (a1 - 1), false))) else (some (wrap64 (a1 - 1), false)))) = some (r1, r2) := H
 have A4 := Aside0.mk A40
 clear A40
 replace H := Option.bind_eq_some_iff.mp H
 obtain ⟨⟨t186, t187⟩, A50, H⟩ := H
 replace H : (if t184 = 0 then (if t187 = true then (if a0_0 = true then (some (wrap64 (a1 - 1), false)) else (some (wrap64 (a1 - 1), (t186 == (IntKind.u64.wrap (wrap64 (a1 - 1))))))) else (some (wrap64 (a1 - 1), false))) else (some (wrap64 (a1 - 1), false))) = some (r1, r2) := H
 have A5 := Aside0.mk A50
 clear A50
 by_cases c6 : t184 = 0
 ·
  rw [if_pos c6] at H
  have c6b0 : (t184 == 0) = true := beq_iff_eq.mpr c6
  have c6b1 : (t184 != 0) = false := bne_eq_false_iff_eq.mpr c6
  clear c6
  by_cases c7 : t187 = true
  ·
   subst c7
   rw [if_pos rfl] at H
   by_cases c8 : a0_0 = true
   ·
    subst c8
    rw [if_pos rfl] at H
    simp only [Option.some.injEq, Prod.mk.injEq] at H
    obtain ⟨rfl, rfl⟩ := H
    go_enter Tryz.func71, Tryz.ntmps71
    try go_wp2_with (first | ((with_reducible refine gate_dst (N := 2) rfl ?_); refine bx_ 2 #[.bool true, .int .u64 a0_1, .int .u64 a0_2, .int .i64 a0_3] 28 ?_; intro gb178 hg w9 hbox hb; have BK178 := Aside0.mk (hbox); have GW178 := gw_ HB hg; have GE178 := gw_ HB hg; replace HB := bs_ HB hb; clear hb hbox hg))
    replace BK178 := Aside0.mk (blk_drew BK178.out)
    replace HB := Aside0.mk (below_drew1 HB.out)
    refine start_ (n := 10) (S := fun w' => w'.cell? ⟨gb178, 0, none⟩ = some (.bool true) ∧ w'.cell? ⟨gb178, 1, none⟩ = some (.int .u64 a0_1) ∧ w'.cell? ⟨gb178, 2, none⟩ = some (.int .u64 a0_2) ∧ w'.cell? ⟨gb178, 3, none⟩ = some (.int .i64 a0_3)) (ds := []) (bm_ 10 0) (by kernel_rfl) rfl rfl ⟨kc_ BK178 0, kc_ BK178 1, kc_ BK178 2, kc_ BK178 3⟩ (fun hHeld => ?_); refine with_tabW pool_broadcast.tab1 pool_broadcast.bits1 (fun HT_ HW_ => ?_)
    generalize w9.drew = w10 at BK178 HB hHeld ⊢
    refine ta_ 0 (some 11) (bm_ 10 1) rfl HT_ HW_ ⟨by rfl, by rintro w' ⟨s0, s1, s2, s3⟩; go_simp; with_reducible rfl⟩ hHeld ?_
    refine ta_ 1 (some 12) (bm_ 10 3) rfl HT_ HW_ ⟨by rfl, by rintro w' ⟨s0, s1, s2, s3⟩; go_simp; with_reducible rfl⟩ hHeld ?_
    refine join_ (σ := Nat) 2 (bm_ 10 255) (fun s_ => [(13, .agg #[.bool t179, .int .u64 t180, .int .u64 t181]), (14, .tuple #[.agg #[.int .u64 t182, .int .u64 t183], .int .i64 t184]), (6, .pointer (some ⟨s_, 0, none⟩)), (10, .tuple #[.agg #[.int .u64 t182, .int .u64 t183], .int .i64 t184]), (15, .agg #[.int .u64 t182, .int .u64 t183]), (16, .int .i64 t184)]) (fun s_ w' => (w'.cell? ⟨gb178, 0, none⟩ = some (.bool true) ∧ w'.cell? ⟨gb178, 1, none⟩ = some (.int .u64 a0_1) ∧ w'.cell? ⟨gb178, 2, none⟩ = some (.int .u64 a0_2) ∧ w'.cell? ⟨gb178, 3, none⟩ = some (.int .i64 a0_3)) ∧ (w'.heap[gb178]? = some (.cells #[.bool true, .int .u64 a0_1, .int .u64 a0_2, .int .i64 a0_3] 28 (0, 0))) ∧ (w'.heap[s_]? = some (.cells #[.int .u64 0, .int .u64 0] 24 (0, 0))) ∧ (w.heap.size ≤ s_) ∧ (w.heap.size ≤ s_) ∧ (gb178 ≠ s_) ∧ (s_ ≠ gb178) ∧ (Below w.heap.size w w')) ?_ ?_
    rotate_left
    ·
     intro hCont
     refine two_ (i := 2) (j := 7) (Ni := some 13) (Nj := some 6) (bm_ 10 7) (bm_ 10 131) rfl rfl rfl rfl (two_of HT_.out (by kernel_rfl)) (by decide) (by decide) (fun K hK => ?_) (fun K hK => ?_)
     ·
      skip
      refine gr_ Tryz.func34 #[.agg #[.bool true, .int .u64 a0_1, .int .u64 a0_2, .int .i64 a0_3]] ?_
      with_reducible refine (prefix_Last.calls true a0_1 a0_2 a0_3 t179 t180 t181 _ A3.out).mono ?_
      rintro e w11 ⟨rfl, hb⟩
      refine ⟨_, rfl, ?_⟩
      replace BK178 := bb_ BK178 hb
      replace HB := bs_ HB hb
      (try clear hb)
      (try clear hb2)
      (try clear hk)
      (try clear hi)
      refine hK.out _ _ ⟨kc_ BK178 0, kc_ BK178 1, kc_ BK178 2, kc_ BK178 3⟩ (fun hHeld => ?_)
      clear hK K
      refine norm_ (a' := ?_) ?_ ?_
      rotate_left
      ·
       show Act.put _ (some 13) _ = _
       simp only [Act.put, List.setIfInBounds_toArray, List.set_cons_zero, List.set_cons_succ, i64_w, i32_w]
       rfl
      refine two_ (i := 3) (j := 7) (Ni := some 14) (Nj := some 6) (bm_ 10 15) (bm_ 10 135) rfl rfl rfl rfl (two_of HT_.out (by kernel_rfl)) (by decide) (by decide) (fun K hK => ?_) (fun K hK => ?_)
      ·
       skip
       refine gr_ Tryz.func122 #[.agg #[.bool true, .int .u64 a0_1, .int .u64 a0_2, .int .i64 a0_3], .agg #[.bool t179, .int .u64 t180, .int .u64 t181]] ?_
       with_reducible refine (carve_Number.calls k true a0_1 a0_2 a0_3 t179 t180 t181 t182 t183 t184 _ A4.out).mono ?_
       rintro e w12 ⟨rfl, hb⟩
       refine ⟨_, rfl, ?_⟩
       replace BK178 := bb_ BK178 hb
       replace HB := bs_ HB hb
       (try clear hb)
       (try clear hb2)
       (try clear hk)
       (try clear hi)
       refine hK.out _ _ ⟨kc_ BK178 0, kc_ BK178 1, kc_ BK178 2, kc_ BK178 3⟩ (fun hHeld => ?_)
       clear hK K
       refine norm_ (a' := ?_) ?_ ?_
       rotate_left
       ·
        show Act.put _ (some 14) _ = _
        simp only [Act.put, List.setIfInBounds_toArray, List.set_cons_zero, List.set_cons_succ, i64_w, i32_w]
        rfl
       refine pu_ 4 (some 10) (bm_ 10 31) rfl HT_ ⟨by rfl, by intro w'; go_simp; with_reducible rfl⟩ ?_
       refine pu_ 5 (some 15) (bm_ 10 63) rfl HT_ ⟨by rfl, by intro w'; go_simp; with_reducible rfl⟩ ?_
       refine pu_ 6 (some 16) (bm_ 10 127) rfl HT_ ⟨by rfl, by intro w'; go_simp; with_reducible rfl⟩ ?_
       refine one_ (i := 7) (N := some 6) (bm_ 10 255) rfl rfl (one_of HT_.out (by kernel_rfl)) (by decide) (fun K hK => ?_)
       refine box_step ?hg (N := 6) ?hd (cs := #[.int .u64 0, .int .u64 0]) (t := 24) ?hr ?_; (case hd => rfl); (case hg => rfl); (case hr => first | (go_simp; done) | (go_simp; rfl))
       intro gb185 hg w13 hbox hb
       have BK185 := Aside0.mk (hbox)
       have GW185 := gw_ HB hg
       have GE185 := gw_ HB hg
       have NB178_185 := nl_ BK178 hg
       have NB185_178 := ng_ BK178 hg
       replace BK178 := bb_ BK178 hb
       replace HB := bs_ HB hb
       clear hb hbox hg
       refine hK.out _ _ ⟨kc_ BK178 0, kc_ BK178 1, kc_ BK178 2, kc_ BK178 3⟩ (fun hHeld => ?_)
       clear hK K
       refine norm_ (a' := ?_) ?_ ?_
       rotate_left
       ·
        show Act.put _ (some 6) _ = _
        simp only [Act.put, List.setIfInBounds_toArray, List.set_cons_zero, List.set_cons_succ, i64_w, i32_w]
        rfl
       exact norm_ (by simp only [putAll, Act.put, List.setIfInBounds_toArray, List.set_cons_zero, List.set_cons_succ]) (hCont (gb185) _ ⟨hHeld, (pk_ BK178), (pk_ BK185), GW185.out, GE185.out, NB178_185.out, NB185_178.out, (pb_ HB)⟩)
      ·
       skip
       refine box_step ?hg (N := 6) ?hd (cs := #[.int .u64 0, .int .u64 0]) (t := 24) ?hr ?_; (case hd => rfl); (case hg => rfl); (case hr => first | (go_simp; done) | (go_simp; rfl))
       intro gb185 hg w12 hbox hb
       have BK185 := Aside0.mk (hbox)
       have GW185 := gw_ HB hg
       have GE185 := gw_ HB hg
       have NB178_185 := nl_ BK178 hg
       have NB185_178 := ng_ BK178 hg
       replace BK178 := bb_ BK178 hb
       replace HB := bs_ HB hb
       clear hb hbox hg
       refine hK.out _ _ ⟨kc_ BK178 0, kc_ BK178 1, kc_ BK178 2, kc_ BK178 3⟩ (fun hHeld => ?_)
       clear hK K
       refine norm_ (a' := ?_) ?_ ?_
       rotate_left
       ·
        show Act.put _ (some 6) _ = _
        simp only [Act.put, List.setIfInBounds_toArray, List.set_cons_zero, List.set_cons_succ, i64_w, i32_w]
        rfl
       refine one_ (i := 3) (N := some 14) (bm_ 10 143) rfl rfl (one_of HT_.out (by kernel_rfl)) (by decide) (fun K hK => ?_)
       refine gr_ Tryz.func122 #[.agg #[.bool true, .int .u64 a0_1, .int .u64 a0_2, .int .i64 a0_3], .agg #[.bool t179, .int .u64 t180, .int .u64 t181]] ?_
       with_reducible refine (carve_Number.calls k true a0_1 a0_2 a0_3 t179 t180 t181 t182 t183 t184 _ A4.out).mono ?_
       rintro e w13 ⟨rfl, hb⟩
       refine ⟨_, rfl, ?_⟩
       replace BK178 := bb_ BK178 hb
       replace BK185 := bb_ BK185 hb
       replace HB := bs_ HB hb
       (try clear hb)
       (try clear hb2)
       (try clear hk)
       (try clear hi)
       refine hK.out _ _ ⟨kc_ BK178 0, kc_ BK178 1, kc_ BK178 2, kc_ BK178 3⟩ (fun hHeld => ?_)
       clear hK K
       refine norm_ (a' := ?_) ?_ ?_
       rotate_left
       ·
        show Act.put _ (some 14) _ = _
        simp only [Act.put, List.setIfInBounds_toArray, List.set_cons_zero, List.set_cons_succ, i64_w, i32_w]
        rfl
       refine pu_ 4 (some 10) (bm_ 10 159) rfl HT_ ⟨by rfl, by intro w'; go_simp; with_reducible rfl⟩ ?_
       refine pu_ 5 (some 15) (bm_ 10 191) rfl HT_ ⟨by rfl, by intro w'; go_simp; with_reducible rfl⟩ ?_
       refine pu_ 6 (some 16) (bm_ 10 255) rfl HT_ ⟨by rfl, by intro w'; go_simp; with_reducible rfl⟩ ?_
       exact norm_ (by simp only [putAll, Act.put, List.setIfInBounds_toArray, List.set_cons_zero, List.set_cons_succ]) (hCont (gb185) _ ⟨hHeld, (pk_ BK178), (pk_ BK185), GW185.out, GE185.out, NB178_185.out, NB185_178.out, (pb_ HB)⟩)
     ·
      skip
      refine box_step ?hg (N := 6) ?hd (cs := #[.int .u64 0, .int .u64 0]) (t := 24) ?hr ?_; (case hd => rfl); (case hg => rfl); (case hr => first | (go_simp; done) | (go_simp; rfl))
      intro gb185 hg w11 hbox hb
      have BK185 := Aside0.mk (hbox)
      have GW185 := gw_ HB hg
      have GE185 := gw_ HB hg
      have NB178_185 := nl_ BK178 hg
      have NB185_178 := ng_ BK178 hg
      replace BK178 := bb_ BK178 hb
      replace HB := bs_ HB hb
      clear hb hbox hg
      refine hK.out _ _ ⟨kc_ BK178 0, kc_ BK178 1, kc_ BK178 2, kc_ BK178 3⟩ (fun hHeld => ?_)
      clear hK K
      refine norm_ (a' := ?_) ?_ ?_
      rotate_left
      ·
       show Act.put _ (some 6) _ = _
       simp only [Act.put, List.setIfInBounds_toArray, List.set_cons_zero, List.set_cons_succ, i64_w, i32_w]
       rfl
      refine one_ (i := 2) (N := some 13) (bm_ 10 135) rfl rfl (one_of HT_.out (by kernel_rfl)) (by decide) (fun K hK => ?_)
      refine gr_ Tryz.func34 #[.agg #[.bool true, .int .u64 a0_1, .int .u64 a0_2, .int .i64 a0_3]] ?_
      with_reducible refine (prefix_Last.calls true a0_1 a0_2 a0_3 t179 t180 t181 _ A3.out).mono ?_
      rintro e w12 ⟨rfl, hb⟩
      refine ⟨_, rfl, ?_⟩
      replace BK178 := bb_ BK178 hb
      replace BK185 := bb_ BK185 hb
      replace HB := bs_ HB hb
      (try clear hb)
      (try clear hb2)
      (try clear hk)
      (try clear hi)
      refine hK.out _ _ ⟨kc_ BK178 0, kc_ BK178 1, kc_ BK178 2, kc_ BK178 3⟩ (fun hHeld => ?_)
      clear hK K
      refine norm_ (a' := ?_) ?_ ?_
      rotate_left
      ·
       show Act.put _ (some 13) _ = _
       simp only [Act.put, List.setIfInBounds_toArray, List.set_cons_zero, List.set_cons_succ, i64_w, i32_w]
       rfl
      refine one_ (i := 3) (N := some 14) (bm_ 10 143) rfl rfl (one_of HT_.out (by kernel_rfl)) (by decide) (fun K hK => ?_)
      refine gr_ Tryz.func122 #[.agg #[.bool true, .int .u64 a0_1, .int .u64 a0_2, .int .i64 a0_3], .agg #[.bool t179, .int .u64 t180, .int .u64 t181]] ?_
      with_reducible refine (carve_Number.calls k true a0_1 a0_2 a0_3 t179 t180 t181 t182 t183 t184 _ A4.out).mono ?_
      rintro e w13 ⟨rfl, hb⟩
      refine ⟨_, rfl, ?_⟩
      replace BK178 := bb_ BK178 hb
      replace BK185 := bb_ BK185 hb
      replace HB := bs_ HB hb
      (try clear hb)
      (try clear hb2)
      (try clear hk)
      (try clear hi)
      refine hK.out _ _ ⟨kc_ BK178 0, kc_ BK178 1, kc_ BK178 2, kc_ BK178 3⟩ (fun hHeld => ?_)
      clear hK K
      refine norm_ (a' := ?_) ?_ ?_
      rotate_left
      ·
       show Act.put _ (some 14) _ = _
       simp only [Act.put, List.setIfInBounds_toArray, List.set_cons_zero, List.set_cons_succ, i64_w, i32_w]
       rfl
      refine pu_ 4 (some 10) (bm_ 10 159) rfl HT_ ⟨by rfl, by intro w'; go_simp; with_reducible rfl⟩ ?_
      refine pu_ 5 (some 15) (bm_ 10 191) rfl HT_ ⟨by rfl, by intro w'; go_simp; with_reducible rfl⟩ ?_
      refine pu_ 6 (some 16) (bm_ 10 255) rfl HT_ ⟨by rfl, by intro w'; go_simp; with_reducible rfl⟩ ?_
      exact norm_ (by simp only [putAll, Act.put, List.setIfInBounds_toArray, List.set_cons_zero, List.set_cons_succ]) (hCont (gb185) _ ⟨hHeld, (pk_ BK178), (pk_ BK185), GW185.out, GE185.out, NB178_185.out, NB185_178.out, (pb_ HB)⟩)
    rintro gb185 w14 ⟨hS_, h0_, h1_, h2_, h3_, h4_, h5_, h6_⟩
    have n0_ : Aside0 (w14.heap[gb178]? = some (.cells #[.bool true, .int .u64 a0_1, .int .u64 a0_2, .int .i64 a0_3] 28 (0, 0))) := ⟨h0_⟩
    have n1_ : Aside0 (w14.heap[gb185]? = some (.cells #[.int .u64 0, .int .u64 0] 24 (0, 0))) := ⟨h1_⟩
    have n2_ : Aside0 (w.heap.size ≤ gb185) := ⟨h2_⟩
    have n3_ : Aside0 (w.heap.size ≤ gb185) := ⟨h3_⟩
    have n4_ : Aside0 (gb178 ≠ gb185) := ⟨h4_⟩
    have n5_ : Aside0 (gb185 ≠ gb178) := ⟨h5_⟩
    have n6_ : Aside0 (Below w.heap.size w w14) := ⟨h6_⟩
    clear BK178
    clear HB
    clear h0_ h1_ h2_ h3_ h4_ h5_ h6_
    have BK178 := n0_
    have BK185 := n1_
    have GW185 := n2_
    have GE185 := n3_
    have NB178_185 := n4_
    have NB185_178 := n5_
    have HB := n6_
    clear n0_ n1_ n2_ n3_ n4_ n5_ n6_
    have hHeld : w14.cell? ⟨gb178, 0, none⟩ = some (.bool true) ∧ w14.cell? ⟨gb178, 1, none⟩ = some (.int .u64 a0_1) ∧ w14.cell? ⟨gb178, 2, none⟩ = some (.int .u64 a0_2) ∧ w14.cell? ⟨gb178, 3, none⟩ = some (.int .i64 a0_3) := hS_
    refine norm_ (a' := ?_) ?_ ?_
    rotate_left
    ·
     simp only [putAll, Act.put, List.setIfInBounds_toArray, List.set_cons_zero, List.set_cons_succ]
     rfl
    refine one_ (i := 8) (N := none) (bm_ 10 511) rfl rfl (one_of HT_.out (by kernel_rfl)) (by decide) (fun K hK => ?_)
    have hs15 : w14.cell? ⟨gb185, 0, none⟩ = some (.int .u64 0) := kc_ BK185 0
    have hfs15 := blk_frozen BK185.out 0
    have hns15_0 := NB178_185.out
    have hms15_0 := NB185_178.out
    have hs16 : w14.cell? ⟨gb185, 1, none⟩ = some (.int .u64 0) := kc_ BK185 1
    have hfs16 := blk_frozen BK185.out 1
    have hns16_0 := NB178_185.out
    have hms16_0 := NB185_178.out
    refine skip_ (w1 := ?_) (by rfl) rfl ?_ ?_
    rotate_left
    ·
     go_simp
     rfl
    refine hK.out _ _ ⟨((cell_far (p := ⟨gb185, _, none⟩) NB178_185.out _).trans (((cell_far (p := ⟨gb185, _, none⟩) NB178_185.out _).trans (hHeld.1)))), ((cell_far (p := ⟨gb185, _, none⟩) NB178_185.out _).trans (((cell_far (p := ⟨gb185, _, none⟩) NB178_185.out _).trans (hHeld.2.1)))), ((cell_far (p := ⟨gb185, _, none⟩) NB178_185.out _).trans (((cell_far (p := ⟨gb185, _, none⟩) NB178_185.out _).trans (hHeld.2.2.1)))), ((cell_far (p := ⟨gb185, _, none⟩) NB178_185.out _).trans (((cell_far (p := ⟨gb185, _, none⟩) NB178_185.out _).trans (hHeld.2.2.2))))⟩ (fun hHeld => ?_)
    clear hK K
    refine pu_ 9 (some 7) (bm_ 10 1023) rfl HT_ ⟨by rfl, by intro w'; go_simp; with_reducible rfl⟩ ?_
    refine done_ (done_of HT_.out (by kernel_rfl)) ?_
    have hnb17 := NB185_178.out
    have hnc17 := NB178_185.out
    obtain ⟨hcz18_0, hcz18_1, hfz18_0, hfz18_1⟩ := c2_ BK185
    try go_wp2_with (first | ((with_reducible refine gate_callee (f := 96) rfl ?_); refine gl_ (some 19) Tryz.func96 #[.agg #[.int .u64 t182, .int .u64 t183]] ?_; (with_reducible refine (num_Small.calls t182 t183 t186 true _ A5.out).mono ?_); rintro e w19 ⟨rfl, hb⟩; refine ⟨_, rfl, ?_⟩; replace BK178 := Aside0.mk (blk_below (g := gb178) (o := .cells #[.bool true, .int .u64 a0_1, .int .u64 a0_2, .int .i64 a0_3] 28 (0, 0)) (by refine pw_ ?_; refine blk_far ?_ NB178_185.out _; refine pw_ ?_; refine blk_far ?_ NB178_185.out _; refine pw_ ?_; exact BK178.out) hb); replace BK185 := Aside0.mk (blk_below (g := gb185) (o := .cells #[.int .u64 t182, .int .u64 t183] 24 (0, 0)) (by refine pw_ ?_; refine blk_put (cs := #[.int .u64 t182, .int .u64 0]) ?_ 1 _ rfl; refine pw_ ?_; refine blk_put (cs := #[.int .u64 0, .int .u64 0]) ?_ 0 _ rfl; refine pw_ ?_; exact BK185.out) hb); replace HB := bs_ HB hb; (try clear hb); (try clear hb2); (try clear hk); (try clear hi); obtain ⟨hcz20_0, hcz20_1, hcz20_2, hcz20_3, hfz20_0, hfz20_1, hfz20_2, hfz20_3⟩ := c4_ BK178))
    go_ret2
    exact ⟨by first | rfl | (simp [errW_none, errW_some] <;> rfl) | (simp [*, errW_none, errW_some] <;> rfl), pb_ HB⟩
   ·
    replace c8 := Bool.eq_false_iff.mpr c8
    subst c8
    have H1 : (some (wrap64 (a1 - 1), (t186 == (IntKind.u64.wrap (wrap64 (a1 - 1)))))) = some (r1, r2) := by rw [if_neg (show ¬ (false = true) by decide)] at H; exact H
    clear H
    have H := H1
    clear H1
    simp only [Option.some.injEq, Prod.mk.injEq] at H
    obtain ⟨rfl, rfl⟩ := H
    go_enter Tryz.func71, Tryz.ntmps71
    try go_wp2_with (first | ((with_reducible refine gate_dst (N := 2) rfl ?_); refine bx_ 2 #[.bool false, .int .u64 a0_1, .int .u64 a0_2, .int .i64 a0_3] 28 ?_; intro gb178 hg w21 hbox hb; have BK178 := Aside0.mk (hbox); have GW178 := gw_ HB hg; have GE178 := gw_ HB hg; replace HB := bs_ HB hb; clear hb hbox hg))
    replace BK178 := Aside0.mk (blk_drew BK178.out)
    replace HB := Aside0.mk (below_drew1 HB.out)
    refine start_ (n := 10) (S := fun w' => w'.cell? ⟨gb178, 0, none⟩ = some (.bool false) ∧ w'.cell? ⟨gb178, 1, none⟩ = some (.int .u64 a0_1) ∧ w'.cell? ⟨gb178, 2, none⟩ = some (.int .u64 a0_2) ∧ w'.cell? ⟨gb178, 3, none⟩ = some (.int .i64 a0_3)) (ds := []) (bm_ 10 0) (by kernel_rfl) rfl rfl ⟨kc_ BK178 0, kc_ BK178 1, kc_ BK178 2, kc_ BK178 3⟩ (fun hHeld => ?_); refine with_tabW pool_broadcast.tab1 pool_broadcast.bits1 (fun HT_ HW_ => ?_)
    generalize w21.drew = w22 at BK178 HB hHeld ⊢
    refine ta_ 0 (some 11) (bm_ 10 1) rfl HT_ HW_ ⟨by rfl, by rintro w' ⟨s0, s1, s2, s3⟩; go_simp; with_reducible rfl⟩ hHeld ?_
    refine ta_ 1 (some 12) (bm_ 10 3) rfl HT_ HW_ ⟨by rfl, by rintro w' ⟨s0, s1, s2, s3⟩; go_simp; with_reducible rfl⟩ hHeld ?_
    refine join_ (σ := Nat) 2 (bm_ 10 255) (fun s_ => [(13, .agg #[.bool t179, .int .u64 t180, .int .u64 t181]), (14, .tuple #[.agg #[.int .u64 t182, .int .u64 t183], .int .i64 t184]), (6, .pointer (some ⟨s_, 0, none⟩)), (10, .tuple #[.agg #[.int .u64 t182, .int .u64 t183], .int .i64 t184]), (15, .agg #[.int .u64 t182, .int .u64 t183]), (16, .int .i64 t184)]) (fun s_ w' => (w'.cell? ⟨gb178, 0, none⟩ = some (.bool false) ∧ w'.cell? ⟨gb178, 1, none⟩ = some (.int .u64 a0_1) ∧ w'.cell? ⟨gb178, 2, none⟩ = some (.int .u64 a0_2) ∧ w'.cell? ⟨gb178, 3, none⟩ = some (.int .i64 a0_3)) ∧ (w'.heap[gb178]? = some (.cells #[.bool false, .int .u64 a0_1, .int .u64 a0_2, .int .i64 a0_3] 28 (0, 0))) ∧ (w'.heap[s_]? = some (.cells #[.int .u64 0, .int .u64 0] 24 (0, 0))) ∧ (w.heap.size ≤ s_) ∧ (w.heap.size ≤ s_) ∧ (gb178 ≠ s_) ∧ (s_ ≠ gb178) ∧ (Below w.heap.size w w')) ?_ ?_
    rotate_left
    ·
     intro hCont
     refine two_ (i := 2) (j := 7) (Ni := some 13) (Nj := some 6) (bm_ 10 7) (bm_ 10 131) rfl rfl rfl rfl (two_of HT_.out (by kernel_rfl)) (by decide) (by decide) (fun K hK => ?_) (fun K hK => ?_)
     ·
      skip
      refine gr_ Tryz.func34 #[.agg #[.bool false, .int .u64 a0_1, .int .u64 a0_2, .int .i64 a0_3]] ?_
      with_reducible refine (prefix_Last.calls false a0_1 a0_2 a0_3 t179 t180 t181 _ A3.out).mono ?_
      rintro e w23 ⟨rfl, hb⟩
      refine ⟨_, rfl, ?_⟩
      replace BK178 := bb_ BK178 hb
      replace HB := bs_ HB hb
      (try clear hb)
      (try clear hb2)
      (try clear hk)
      (try clear hi)
      refine hK.out _ _ ⟨kc_ BK178 0, kc_ BK178 1, kc_ BK178 2, kc_ BK178 3⟩ (fun hHeld => ?_)
      clear hK K
      refine norm_ (a' := ?_) ?_ ?_
      rotate_left
      ·
       show Act.put _ (some 13) _ = _
       simp only [Act.put, List.setIfInBounds_toArray, List.set_cons_zero, List.set_cons_succ, i64_w, i32_w]
       rfl
      refine two_ (i := 3) (j := 7) (Ni := some 14) (Nj := some 6) (bm_ 10 15) (bm_ 10 135) rfl rfl rfl rfl (two_of HT_.out (by kernel_rfl)) (by decide) (by decide) (fun K hK => ?_) (fun K hK => ?_)
      ·
       skip
       refine gr_ Tryz.func122 #[.agg #[.bool false, .int .u64 a0_1, .int .u64 a0_2, .int .i64 a0_3], .agg #[.bool t179, .int .u64 t180, .int .u64 t181]] ?_
       with_reducible refine (carve_Number.calls k false a0_1 a0_2 a0_3 t179 t180 t181 t182 t183 t184 _ A4.out).mono ?_
       rintro e w24 ⟨rfl, hb⟩
       refine ⟨_, rfl, ?_⟩
       replace BK178 := bb_ BK178 hb
       replace HB := bs_ HB hb
       (try clear hb)
       (try clear hb2)
       (try clear hk)
       (try clear hi)
       refine hK.out _ _ ⟨kc_ BK178 0, kc_ BK178 1, kc_ BK178 2, kc_ BK178 3⟩ (fun hHeld => ?_)
       clear hK K
       refine norm_ (a' := ?_) ?_ ?_
       rotate_left
       ·
        show Act.put _ (some 14) _ = _
        simp only [Act.put, List.setIfInBounds_toArray, List.set_cons_zero, List.set_cons_succ, i64_w, i32_w]
        rfl
       refine pu_ 4 (some 10) (bm_ 10 31) rfl HT_ ⟨by rfl, by intro w'; go_simp; with_reducible rfl⟩ ?_
       refine pu_ 5 (some 15) (bm_ 10 63) rfl HT_ ⟨by rfl, by intro w'; go_simp; with_reducible rfl⟩ ?_
       refine pu_ 6 (some 16) (bm_ 10 127) rfl HT_ ⟨by rfl, by intro w'; go_simp; with_reducible rfl⟩ ?_
       refine one_ (i := 7) (N := some 6) (bm_ 10 255) rfl rfl (one_of HT_.out (by kernel_rfl)) (by decide) (fun K hK => ?_)
       refine box_step ?hg (N := 6) ?hd (cs := #[.int .u64 0, .int .u64 0]) (t := 24) ?hr ?_; (case hd => rfl); (case hg => rfl); (case hr => first | (go_simp; done) | (go_simp; rfl))
       intro gb185 hg w25 hbox hb
       have BK185 := Aside0.mk (hbox)
       have GW185 := gw_ HB hg
       have GE185 := gw_ HB hg
       have NB178_185 := nl_ BK178 hg
       have NB185_178 := ng_ BK178 hg
       replace BK178 := bb_ BK178 hb
       replace HB := bs_ HB hb
       clear hb hbox hg
       refine hK.out _ _ ⟨kc_ BK178 0, kc_ BK178 1, kc_ BK178 2, kc_ BK178 3⟩ (fun hHeld => ?_)
       clear hK K
       refine norm_ (a' := ?_) ?_ ?_
       rotate_left
       ·
        show Act.put _ (some 6) _ = _
        simp only [Act.put, List.setIfInBounds_toArray, List.set_cons_zero, List.set_cons_succ, i64_w, i32_w]
        rfl
       exact norm_ (by simp only [putAll, Act.put, List.setIfInBounds_toArray, List.set_cons_zero, List.set_cons_succ]) (hCont (gb185) _ ⟨hHeld, (pk_ BK178), (pk_ BK185), GW185.out, GE185.out, NB178_185.out, NB185_178.out, (pb_ HB)⟩)
      ·
       skip
       refine box_step ?hg (N := 6) ?hd (cs := #[.int .u64 0, .int .u64 0]) (t := 24) ?hr ?_; (case hd => rfl); (case hg => rfl); (case hr => first | (go_simp; done) | (go_simp; rfl))
       intro gb185 hg w24 hbox hb
       have BK185 := Aside0.mk (hbox)
       have GW185 := gw_ HB hg
       have GE185 := gw_ HB hg
       have NB178_185 := nl_ BK178 hg
       have NB185_178 := ng_ BK178 hg
       replace BK178 := bb_ BK178 hb
       replace HB := bs_ HB hb
       clear hb hbox hg
       refine hK.out _ _ ⟨kc_ BK178 0, kc_ BK178 1, kc_ BK178 2, kc_ BK178 3⟩ (fun hHeld => ?_)
       clear hK K
       refine norm_ (a' := ?_) ?_ ?_
       rotate_left
       ·
        show Act.put _ (some 6) _ = _
        simp only [Act.put, List.setIfInBounds_toArray, List.set_cons_zero, List.set_cons_succ, i64_w, i32_w]
        rfl
       refine one_ (i := 3) (N := some 14) (bm_ 10 143) rfl rfl (one_of HT_.out (by kernel_rfl)) (by decide) (fun K hK => ?_)
       refine gr_ Tryz.func122 #[.agg #[.bool false, .int .u64 a0_1, .int .u64 a0_2, .int .i64 a0_3], .agg #[.bool t179, .int .u64 t180, .int .u64 t181]] ?_
       with_reducible refine (carve_Number.calls k false a0_1 a0_2 a0_3 t179 t180 t181 t182 t183 t184 _ A4.out).mono ?_
       rintro e w25 ⟨rfl, hb⟩
       refine ⟨_, rfl, ?_⟩
       replace BK178 := bb_ BK178 hb
       replace BK185 := bb_ BK185 hb
       replace HB := bs_ HB hb
       (try clear hb)
       (try clear hb2)
       (try clear hk)
       (try clear hi)
       refine hK.out _ _ ⟨kc_ BK178 0, kc_ BK178 1, kc_ BK178 2, kc_ BK178 3⟩ (fun hHeld => ?_)
       clear hK K
       refine norm_ (a' := ?_) ?_ ?_
       rotate_left
       ·
        show Act.put _ (some 14) _ = _
        simp only [Act.put, List.setIfInBounds_toArray, List.set_cons_zero, List.set_cons_succ, i64_w, i32_w]
        rfl
       refine pu_ 4 (some 10) (bm_ 10 159) rfl HT_ ⟨by rfl, by intro w'; go_simp; with_reducible rfl⟩ ?_
       refine pu_ 5 (some 15) (bm_ 10 191) rfl HT_ ⟨by rfl, by intro w'; go_simp; with_reducible rfl⟩ ?_
       refine pu_ 6 (some 16) (bm_ 10 255) rfl HT_ ⟨by rfl, by intro w'; go_simp; with_reducible rfl⟩ ?_
       exact norm_ (by simp only [putAll, Act.put, List.setIfInBounds_toArray, List.set_cons_zero, List.set_cons_succ]) (hCont (gb185) _ ⟨hHeld, (pk_ BK178), (pk_ BK185), GW185.out, GE185.out, NB178_185.out, NB185_178.out, (pb_ HB)⟩)
     ·
      skip
      refine box_step ?hg (N := 6) ?hd (cs := #[.int .u64 0, .int .u64 0]) (t := 24) ?hr ?_; (case hd => rfl); (case hg => rfl); (case hr => first | (go_simp; done) | (go_simp; rfl))
      intro gb185 hg w23 hbox hb
      have BK185 := Aside0.mk (hbox)
      have GW185 := gw_ HB hg
      have GE185 := gw_ HB hg
      have NB178_185 := nl_ BK178 hg
      have NB185_178 := ng_ BK178 hg
      replace BK178 := bb_ BK178 hb
      replace HB := bs_ HB hb
      clear hb hbox hg
      refine hK.out _ _ ⟨kc_ BK178 0, kc_ BK178 1, kc_ BK178 2, kc_ BK178 3⟩ (fun hHeld => ?_)
      clear hK K
      refine norm_ (a' := ?_) ?_ ?_
      rotate_left
      ·
       show Act.put _ (some 6) _ = _
       simp only [Act.put, List.setIfInBounds_toArray, List.set_cons_zero, List.set_cons_succ, i64_w, i32_w]
       rfl
      refine one_ (i := 2) (N := some 13) (bm_ 10 135) rfl rfl (one_of HT_.out (by kernel_rfl)) (by decide) (fun K hK => ?_)
      refine gr_ Tryz.func34 #[.agg #[.bool false, .int .u64 a0_1, .int .u64 a0_2, .int .i64 a0_3]] ?_
      with_reducible refine (prefix_Last.calls false a0_1 a0_2 a0_3 t179 t180 t181 _ A3.out).mono ?_
      rintro e w24 ⟨rfl, hb⟩
      refine ⟨_, rfl, ?_⟩
      replace BK178 := bb_ BK178 hb
      replace BK185 := bb_ BK185 hb
      replace HB := bs_ HB hb
      (try clear hb)
      (try clear hb2)
      (try clear hk)
      (try clear hi)
      refine hK.out _ _ ⟨kc_ BK178 0, kc_ BK178 1, kc_ BK178 2, kc_ BK178 3⟩ (fun hHeld => ?_)
      clear hK K
      refine norm_ (a' := ?_) ?_ ?_
      rotate_left
      ·
       show Act.put _ (some 13) _ = _
       simp only [Act.put, List.setIfInBounds_toArray, List.set_cons_zero, List.set_cons_succ, i64_w, i32_w]
       rfl
      refine one_ (i := 3) (N := some 14) (bm_ 10 143) rfl rfl (one_of HT_.out (by kernel_rfl)) (by decide) (fun K hK => ?_)
      refine gr_ Tryz.func122 #[.agg #[.bool false, .int .u64 a0_1, .int .u64 a0_2, .int .i64 a0_3], .agg #[.bool t179, .int .u64 t180, .int .u64 t181]] ?_
      with_reducible refine (carve_Number.calls k false a0_1 a0_2 a0_3 t179 t180 t181 t182 t183 t184 _ A4.out).mono ?_
      rintro e w25 ⟨rfl, hb⟩
      refine ⟨_, rfl, ?_⟩
      replace BK178 := bb_ BK178 hb
      replace BK185 := bb_ BK185 hb
      replace HB := bs_ HB hb
      (try clear hb)
      (try clear hb2)
      (try clear hk)
      (try clear hi)
      refine hK.out _ _ ⟨kc_ BK178 0, kc_ BK178 1, kc_ BK178 2, kc_ BK178 3⟩ (fun hHeld => ?_)
      clear hK K
      refine norm_ (a' := ?_) ?_ ?_
      rotate_left
      ·
       show Act.put _ (some 14) _ = _
       simp only [Act.put, List.setIfInBounds_toArray, List.set_cons_zero, List.set_cons_succ, i64_w, i32_w]
       rfl
      refine pu_ 4 (some 10) (bm_ 10 159) rfl HT_ ⟨by rfl, by intro w'; go_simp; with_reducible rfl⟩ ?_
      refine pu_ 5 (some 15) (bm_ 10 191) rfl HT_ ⟨by rfl, by intro w'; go_simp; with_reducible rfl⟩ ?_
      refine pu_ 6 (some 16) (bm_ 10 255) rfl HT_ ⟨by rfl, by intro w'; go_simp; with_reducible rfl⟩ ?_
      exact norm_ (by simp only [putAll, Act.put, List.setIfInBounds_toArray, List.set_cons_zero, List.set_cons_succ]) (hCont (gb185) _ ⟨hHeld, (pk_ BK178), (pk_ BK185), GW185.out, GE185.out, NB178_185.out, NB185_178.out, (pb_ HB)⟩)
    rintro gb185 w26 ⟨hS_, h0_, h1_, h2_, h3_, h4_, h5_, h6_⟩
    have n0_ : Aside0 (w26.heap[gb178]? = some (.cells #[.bool false, .int .u64 a0_1, .int .u64 a0_2, .int .i64 a0_3] 28 (0, 0))) := ⟨h0_⟩
    have n1_ : Aside0 (w26.heap[gb185]? = some (.cells #[.int .u64 0, .int .u64 0] 24 (0, 0))) := ⟨h1_⟩
    have n2_ : Aside0 (w.heap.size ≤ gb185) := ⟨h2_⟩
    have n3_ : Aside0 (w.heap.size ≤ gb185) := ⟨h3_⟩
    have n4_ : Aside0 (gb178 ≠ gb185) := ⟨h4_⟩
    have n5_ : Aside0 (gb185 ≠ gb178) := ⟨h5_⟩
    have n6_ : Aside0 (Below w.heap.size w w26) := ⟨h6_⟩
    clear BK178
    clear HB
    clear h0_ h1_ h2_ h3_ h4_ h5_ h6_
    have BK178 := n0_
    have BK185 := n1_
    have GW185 := n2_
    have GE185 := n3_
    have NB178_185 := n4_
    have NB185_178 := n5_
    have HB := n6_
    clear n0_ n1_ n2_ n3_ n4_ n5_ n6_
    have hHeld : w26.cell? ⟨gb178, 0, none⟩ = some (.bool false) ∧ w26.cell? ⟨gb178, 1, none⟩ = some (.int .u64 a0_1) ∧ w26.cell? ⟨gb178, 2, none⟩ = some (.int .u64 a0_2) ∧ w26.cell? ⟨gb178, 3, none⟩ = some (.int .i64 a0_3) := hS_
    refine norm_ (a' := ?_) ?_ ?_
    rotate_left
    ·
     simp only [putAll, Act.put, List.setIfInBounds_toArray, List.set_cons_zero, List.set_cons_succ]
     rfl
    refine one_ (i := 8) (N := none) (bm_ 10 511) rfl rfl (one_of HT_.out (by kernel_rfl)) (by decide) (fun K hK => ?_)
    have hs27 : w26.cell? ⟨gb185, 0, none⟩ = some (.int .u64 0) := kc_ BK185 0
    have hfs27 := blk_frozen BK185.out 0
    have hns27_0 := NB178_185.out
    have hms27_0 := NB185_178.out
    have hs28 : w26.cell? ⟨gb185, 1, none⟩ = some (.int .u64 0) := kc_ BK185 1
    have hfs28 := blk_frozen BK185.out 1
    have hns28_0 := NB178_185.out
    have hms28_0 := NB185_178.out
    refine skip_ (w1 := ?_) (by rfl) rfl ?_ ?_
    rotate_left
    ·
     go_simp
     rfl
    refine hK.out _ _ ⟨((cell_far (p := ⟨gb185, _, none⟩) NB178_185.out _).trans (((cell_far (p := ⟨gb185, _, none⟩) NB178_185.out _).trans (hHeld.1)))), ((cell_far (p := ⟨gb185, _, none⟩) NB178_185.out _).trans (((cell_far (p := ⟨gb185, _, none⟩) NB178_185.out _).trans (hHeld.2.1)))), ((cell_far (p := ⟨gb185, _, none⟩) NB178_185.out _).trans (((cell_far (p := ⟨gb185, _, none⟩) NB178_185.out _).trans (hHeld.2.2.1)))), ((cell_far (p := ⟨gb185, _, none⟩) NB178_185.out _).trans (((cell_far (p := ⟨gb185, _, none⟩) NB178_185.out _).trans (hHeld.2.2.2))))⟩ (fun hHeld => ?_)
    clear hK K
    refine pu_ 9 (some 7) (bm_ 10 1023) rfl HT_ ⟨by rfl, by intro w'; go_simp; with_reducible rfl⟩ ?_
    refine done_ (done_of HT_.out (by kernel_rfl)) ?_
    have hnb29 := NB185_178.out
    have hnc29 := NB178_185.out
    obtain ⟨hcz30_0, hcz30_1, hfz30_0, hfz30_1⟩ := c2_ BK185
    try go_wp2_with (first | ((with_reducible refine gate_callee (f := 96) rfl ?_); refine gl_ (some 19) Tryz.func96 #[.agg #[.int .u64 t182, .int .u64 t183]] ?_; (with_reducible refine (num_Small.calls t182 t183 t186 true _ A5.out).mono ?_); rintro e w31 ⟨rfl, hb⟩; refine ⟨_, rfl, ?_⟩; replace BK178 := Aside0.mk (blk_below (g := gb178) (o := .cells #[.bool false, .int .u64 a0_1, .int .u64 a0_2, .int .i64 a0_3] 28 (0, 0)) (by refine pw_ ?_; refine blk_far ?_ NB178_185.out _; refine pw_ ?_; refine blk_far ?_ NB178_185.out _; refine pw_ ?_; exact BK178.out) hb); replace BK185 := Aside0.mk (blk_below (g := gb185) (o := .cells #[.int .u64 t182, .int .u64 t183] 24 (0, 0)) (by refine pw_ ?_; refine blk_put (cs := #[.int .u64 t182, .int .u64 0]) ?_ 1 _ rfl; refine pw_ ?_; refine blk_put (cs := #[.int .u64 0, .int .u64 0]) ?_ 0 _ rfl; refine pw_ ?_; exact BK185.out) hb); replace HB := bs_ HB hb; (try clear hb); (try clear hb2); (try clear hk); (try clear hi); obtain ⟨hcz32_0, hcz32_1, hcz32_2, hcz32_3, hfz32_0, hfz32_1, hfz32_2, hfz32_3⟩ := c4_ BK178))
    go_ret2
    exact ⟨by first | rfl | (simp [errW_none, errW_some] <;> rfl) | (simp [*, errW_none, errW_some] <;> rfl), pb_ HB⟩
  ·
   replace c7 := Bool.eq_false_iff.mpr c7
   subst c7
   have H1 : (some (wrap64 (a1 - 1), false)) = some (r1, r2) := by rw [if_neg (show ¬ (false = true) by decide)] at H; exact H
   clear H
   have H := H1
   clear H1
   simp only [Option.some.injEq, Prod.mk.injEq] at H
   obtain ⟨rfl, rfl⟩ := H
   go_enter Tryz.func71, Tryz.ntmps71
   try go_wp2_with (first | ((with_reducible refine gate_dst (N := 2) rfl ?_); refine bx_ 2 #[.bool a0_0, .int .u64 a0_1, .int .u64 a0_2, .int .i64 a0_3] 28 ?_; intro gb178 hg w33 hbox hb; have BK178 := Aside0.mk (hbox); have GW178 := gw_ HB hg; have GE178 := gw_ HB hg; replace HB := bs_ HB hb; clear hb hbox hg))
   replace BK178 := Aside0.mk (blk_drew BK178.out)
   replace HB := Aside0.mk (below_drew1 HB.out)
   refine start_ (n := 10) (S := fun w' => w'.cell? ⟨gb178, 0, none⟩ = some (.bool a0_0) ∧ w'.cell? ⟨gb178, 1, none⟩ = some (.int .u64 a0_1) ∧ w'.cell? ⟨gb178, 2, none⟩ = some (.int .u64 a0_2) ∧ w'.cell? ⟨gb178, 3, none⟩ = some (.int .i64 a0_3)) (ds := []) (bm_ 10 0) (by kernel_rfl) rfl rfl ⟨kc_ BK178 0, kc_ BK178 1, kc_ BK178 2, kc_ BK178 3⟩ (fun hHeld => ?_); refine with_tabW pool_broadcast.tab1 pool_broadcast.bits1 (fun HT_ HW_ => ?_)
   generalize w33.drew = w34 at BK178 HB hHeld ⊢
   refine ta_ 0 (some 11) (bm_ 10 1) rfl HT_ HW_ ⟨by rfl, by rintro w' ⟨s0, s1, s2, s3⟩; go_simp; with_reducible rfl⟩ hHeld ?_
   refine ta_ 1 (some 12) (bm_ 10 3) rfl HT_ HW_ ⟨by rfl, by rintro w' ⟨s0, s1, s2, s3⟩; go_simp; with_reducible rfl⟩ hHeld ?_
   refine join_ (σ := Nat) 2 (bm_ 10 255) (fun s_ => [(13, .agg #[.bool t179, .int .u64 t180, .int .u64 t181]), (14, .tuple #[.agg #[.int .u64 t182, .int .u64 t183], .int .i64 t184]), (6, .pointer (some ⟨s_, 0, none⟩)), (10, .tuple #[.agg #[.int .u64 t182, .int .u64 t183], .int .i64 t184]), (15, .agg #[.int .u64 t182, .int .u64 t183]), (16, .int .i64 t184)]) (fun s_ w' => (w'.cell? ⟨gb178, 0, none⟩ = some (.bool a0_0) ∧ w'.cell? ⟨gb178, 1, none⟩ = some (.int .u64 a0_1) ∧ w'.cell? ⟨gb178, 2, none⟩ = some (.int .u64 a0_2) ∧ w'.cell? ⟨gb178, 3, none⟩ = some (.int .i64 a0_3)) ∧ (w'.heap[gb178]? = some (.cells #[.bool a0_0, .int .u64 a0_1, .int .u64 a0_2, .int .i64 a0_3] 28 (0, 0))) ∧ (w'.heap[s_]? = some (.cells #[.int .u64 0, .int .u64 0] 24 (0, 0))) ∧ (w.heap.size ≤ s_) ∧ (w.heap.size ≤ s_) ∧ (gb178 ≠ s_) ∧ (s_ ≠ gb178) ∧ (Below w.heap.size w w')) ?_ ?_
   rotate_left
   ·
    intro hCont
    refine two_ (i := 2) (j := 7) (Ni := some 13) (Nj := some 6) (bm_ 10 7) (bm_ 10 131) rfl rfl rfl rfl (two_of HT_.out (by kernel_rfl)) (by decide) (by decide) (fun K hK => ?_) (fun K hK => ?_)
    ·
     skip
     refine gr_ Tryz.func34 #[.agg #[.bool a0_0, .int .u64 a0_1, .int .u64 a0_2, .int .i64 a0_3]] ?_
     with_reducible refine (prefix_Last.calls a0_0 a0_1 a0_2 a0_3 t179 t180 t181 _ A3.out).mono ?_
     rintro e w35 ⟨rfl, hb⟩
     refine ⟨_, rfl, ?_⟩
     replace BK178 := bb_ BK178 hb
     replace HB := bs_ HB hb
     (try clear hb)
     (try clear hb2)
     (try clear hk)
     (try clear hi)
     refine hK.out _ _ ⟨kc_ BK178 0, kc_ BK178 1, kc_ BK178 2, kc_ BK178 3⟩ (fun hHeld => ?_)
     clear hK K
     refine norm_ (a' := ?_) ?_ ?_
     rotate_left
     ·
      show Act.put _ (some 13) _ = _
      simp only [Act.put, List.setIfInBounds_toArray, List.set_cons_zero, List.set_cons_succ, i64_w, i32_w]
      rfl
     refine two_ (i := 3) (j := 7) (Ni := some 14) (Nj := some 6) (bm_ 10 15) (bm_ 10 135) rfl rfl rfl rfl (two_of HT_.out (by kernel_rfl)) (by decide) (by decide) (fun K hK => ?_) (fun K hK => ?_)
     ·
      skip
      refine gr_ Tryz.func122 #[.agg #[.bool a0_0, .int .u64 a0_1, .int .u64 a0_2, .int .i64 a0_3], .agg #[.bool t179, .int .u64 t180, .int .u64 t181]] ?_
      with_reducible refine (carve_Number.calls k a0_0 a0_1 a0_2 a0_3 t179 t180 t181 t182 t183 t184 _ A4.out).mono ?_
      rintro e w36 ⟨rfl, hb⟩
      refine ⟨_, rfl, ?_⟩
      replace BK178 := bb_ BK178 hb
      replace HB := bs_ HB hb
      (try clear hb)
      (try clear hb2)
      (try clear hk)
      (try clear hi)
      refine hK.out _ _ ⟨kc_ BK178 0, kc_ BK178 1, kc_ BK178 2, kc_ BK178 3⟩ (fun hHeld => ?_)
      clear hK K
      refine norm_ (a' := ?_) ?_ ?_
      rotate_left
      ·
       show Act.put _ (some 14) _ = _
       simp only [Act.put, List.setIfInBounds_toArray, List.set_cons_zero, List.set_cons_succ, i64_w, i32_w]
       rfl
      refine pu_ 4 (some 10) (bm_ 10 31) rfl HT_ ⟨by rfl, by intro w'; go_simp; with_reducible rfl⟩ ?_
      refine pu_ 5 (some 15) (bm_ 10 63) rfl HT_ ⟨by rfl, by intro w'; go_simp; with_reducible rfl⟩ ?_
      refine pu_ 6 (some 16) (bm_ 10 127) rfl HT_ ⟨by rfl, by intro w'; go_simp; with_reducible rfl⟩ ?_
      refine one_ (i := 7) (N := some 6) (bm_ 10 255) rfl rfl (one_of HT_.out (by kernel_rfl)) (by decide) (fun K hK => ?_)
      refine box_step ?hg (N := 6) ?hd (cs := #[.int .u64 0, .int .u64 0]) (t := 24) ?hr ?_; (case hd => rfl); (case hg => rfl); (case hr => first | (go_simp; done) | (go_simp; rfl))
      intro gb185 hg w37 hbox hb
      have BK185 := Aside0.mk (hbox)
      have GW185 := gw_ HB hg
      have GE185 := gw_ HB hg
      have NB178_185 := nl_ BK178 hg
      have NB185_178 := ng_ BK178 hg
      replace BK178 := bb_ BK178 hb
      replace HB := bs_ HB hb
      clear hb hbox hg
      refine hK.out _ _ ⟨kc_ BK178 0, kc_ BK178 1, kc_ BK178 2, kc_ BK178 3⟩ (fun hHeld => ?_)
      clear hK K
      refine norm_ (a' := ?_) ?_ ?_
      rotate_left
      ·
       show Act.put _ (some 6) _ = _
       simp only [Act.put, List.setIfInBounds_toArray, List.set_cons_zero, List.set_cons_succ, i64_w, i32_w]
       rfl
      exact norm_ (by simp only [putAll, Act.put, List.setIfInBounds_toArray, List.set_cons_zero, List.set_cons_succ]) (hCont (gb185) _ ⟨hHeld, (pk_ BK178), (pk_ BK185), GW185.out, GE185.out, NB178_185.out, NB185_178.out, (pb_ HB)⟩)
     ·
      skip
      refine box_step ?hg (N := 6) ?hd (cs := #[.int .u64 0, .int .u64 0]) (t := 24) ?hr ?_; (case hd => rfl); (case hg => rfl); (case hr => first | (go_simp; done) | (go_simp; rfl))
      intro gb185 hg w36 hbox hb
      have BK185 := Aside0.mk (hbox)
      have GW185 := gw_ HB hg
      have GE185 := gw_ HB hg
      have NB178_185 := nl_ BK178 hg
      have NB185_178 := ng_ BK178 hg
      replace BK178 := bb_ BK178 hb
      replace HB := bs_ HB hb
      clear hb hbox hg
      refine hK.out _ _ ⟨kc_ BK178 0, kc_ BK178 1, kc_ BK178 2, kc_ BK178 3⟩ (fun hHeld => ?_)
      clear hK K
      refine norm_ (a' := ?_) ?_ ?_
      rotate_left
      ·
       show Act.put _ (some 6) _ = _
       simp only [Act.put, List.setIfInBounds_toArray, List.set_cons_zero, List.set_cons_succ, i64_w, i32_w]
       rfl
      refine one_ (i := 3) (N := some 14) (bm_ 10 143) rfl rfl (one_of HT_.out (by kernel_rfl)) (by decide) (fun K hK => ?_)
      refine gr_ Tryz.func122 #[.agg #[.bool a0_0, .int .u64 a0_1, .int .u64 a0_2, .int .i64 a0_3], .agg #[.bool t179, .int .u64 t180, .int .u64 t181]] ?_
      with_reducible refine (carve_Number.calls k a0_0 a0_1 a0_2 a0_3 t179 t180 t181 t182 t183 t184 _ A4.out).mono ?_
      rintro e w37 ⟨rfl, hb⟩
      refine ⟨_, rfl, ?_⟩
      replace BK178 := bb_ BK178 hb
      replace BK185 := bb_ BK185 hb
      replace HB := bs_ HB hb
      (try clear hb)
      (try clear hb2)
      (try clear hk)
      (try clear hi)
      refine hK.out _ _ ⟨kc_ BK178 0, kc_ BK178 1, kc_ BK178 2, kc_ BK178 3⟩ (fun hHeld => ?_)
      clear hK K
      refine norm_ (a' := ?_) ?_ ?_
      rotate_left
      ·
       show Act.put _ (some 14) _ = _
       simp only [Act.put, List.setIfInBounds_toArray, List.set_cons_zero, List.set_cons_succ, i64_w, i32_w]
       rfl
      refine pu_ 4 (some 10) (bm_ 10 159) rfl HT_ ⟨by rfl, by intro w'; go_simp; with_reducible rfl⟩ ?_
      refine pu_ 5 (some 15) (bm_ 10 191) rfl HT_ ⟨by rfl, by intro w'; go_simp; with_reducible rfl⟩ ?_
      refine pu_ 6 (some 16) (bm_ 10 255) rfl HT_ ⟨by rfl, by intro w'; go_simp; with_reducible rfl⟩ ?_
      exact norm_ (by simp only [putAll, Act.put, List.setIfInBounds_toArray, List.set_cons_zero, List.set_cons_succ]) (hCont (gb185) _ ⟨hHeld, (pk_ BK178), (pk_ BK185), GW185.out, GE185.out, NB178_185.out, NB185_178.out, (pb_ HB)⟩)
    ·
     skip
     refine box_step ?hg (N := 6) ?hd (cs := #[.int .u64 0, .int .u64 0]) (t := 24) ?hr ?_; (case hd => rfl); (case hg => rfl); (case hr => first | (go_simp; done) | (go_simp; rfl))
     intro gb185 hg w35 hbox hb
     have BK185 := Aside0.mk (hbox)
     have GW185 := gw_ HB hg
     have GE185 := gw_ HB hg
     have NB178_185 := nl_ BK178 hg
     have NB185_178 := ng_ BK178 hg
     replace BK178 := bb_ BK178 hb
     replace HB := bs_ HB hb
     clear hb hbox hg
     refine hK.out _ _ ⟨kc_ BK178 0, kc_ BK178 1, kc_ BK178 2, kc_ BK178 3⟩ (fun hHeld => ?_)
     clear hK K
     refine norm_ (a' := ?_) ?_ ?_
     rotate_left
     ·
      show Act.put _ (some 6) _ = _
      simp only [Act.put, List.setIfInBounds_toArray, List.set_cons_zero, List.set_cons_succ, i64_w, i32_w]
      rfl
     refine one_ (i := 2) (N := some 13) (bm_ 10 135) rfl rfl (one_of HT_.out (by kernel_rfl)) (by decide) (fun K hK => ?_)
     refine gr_ Tryz.func34 #[.agg #[.bool a0_0, .int .u64 a0_1, .int .u64 a0_2, .int .i64 a0_3]] ?_
     with_reducible refine (prefix_Last.calls a0_0 a0_1 a0_2 a0_3 t179 t180 t181 _ A3.out).mono ?_
     rintro e w36 ⟨rfl, hb⟩
     refine ⟨_, rfl, ?_⟩
     replace BK178 := bb_ BK178 hb
     replace BK185 := bb_ BK185 hb
     replace HB := bs_ HB hb
     (try clear hb)
     (try clear hb2)
     (try clear hk)
     (try clear hi)
     refine hK.out _ _ ⟨kc_ BK178 0, kc_ BK178 1, kc_ BK178 2, kc_ BK178 3⟩ (fun hHeld => ?_)
     clear hK K
     refine norm_ (a' := ?_) ?_ ?_
     rotate_left
     ·
      show Act.put _ (some 13) _ = _
      simp only [Act.put, List.setIfInBounds_toArray, List.set_cons_zero, List.set_cons_succ, i64_w, i32_w]
      rfl
     refine one_ (i := 3) (N := some 14) (bm_ 10 143) rfl rfl (one_of HT_.out (by kernel_rfl)) (by decide) (fun K hK => ?_)
     refine gr_ Tryz.func122 #[.agg #[.bool a0_0, .int .u64 a0_1, .int .u64 a0_2, .int .i64 a0_3], .agg #[.bool t179, .int .u64 t180, .int .u64 t181]] ?_
     with_reducible refine (carve_Number.calls k a0_0 a0_1 a0_2 a0_3 t179 t180 t181 t182 t183 t184 _ A4.out).mono ?_
     rintro e w37 ⟨rfl, hb⟩
     refine ⟨_, rfl, ?_⟩
     replace BK178 := bb_ BK178 hb
     replace BK185 := bb_ BK185 hb
     replace HB := bs_ HB hb
     (try clear hb)
     (try clear hb2)
     (try clear hk)
     (try clear hi)
     refine hK.out _ _ ⟨kc_ BK178 0, kc_ BK178 1, kc_ BK178 2, kc_ BK178 3⟩ (fun hHeld => ?_)
     clear hK K
     refine norm_ (a' := ?_) ?_ ?_
     rotate_left
     ·
      show Act.put _ (some 14) _ = _
      simp only [Act.put, List.setIfInBounds_toArray, List.set_cons_zero, List.set_cons_succ, i64_w, i32_w]
      rfl
     refine pu_ 4 (some 10) (bm_ 10 159) rfl HT_ ⟨by rfl, by intro w'; go_simp; with_reducible rfl⟩ ?_
     refine pu_ 5 (some 15) (bm_ 10 191) rfl HT_ ⟨by rfl, by intro w'; go_simp; with_reducible rfl⟩ ?_
     refine pu_ 6 (some 16) (bm_ 10 255) rfl HT_ ⟨by rfl, by intro w'; go_simp; with_reducible rfl⟩ ?_
     exact norm_ (by simp only [putAll, Act.put, List.setIfInBounds_toArray, List.set_cons_zero, List.set_cons_succ]) (hCont (gb185) _ ⟨hHeld, (pk_ BK178), (pk_ BK185), GW185.out, GE185.out, NB178_185.out, NB185_178.out, (pb_ HB)⟩)
   rintro gb185 w38 ⟨hS_, h0_, h1_, h2_, h3_, h4_, h5_, h6_⟩
   have n0_ : Aside0 (w38.heap[gb178]? = some (.cells #[.bool a0_0, .int .u64 a0_1, .int .u64 a0_2, .int .i64 a0_3] 28 (0, 0))) := ⟨h0_⟩
   have n1_ : Aside0 (w38.heap[gb185]? = some (.cells #[.int .u64 0, .int .u64 0] 24 (0, 0))) := ⟨h1_⟩
   have n2_ : Aside0 (w.heap.size ≤ gb185) := ⟨h2_⟩
   have n3_ : Aside0 (w.heap.size ≤ gb185) := ⟨h3_⟩
   have n4_ : Aside0 (gb178 ≠ gb185) := ⟨h4_⟩
   have n5_ : Aside0 (gb185 ≠ gb178) := ⟨h5_⟩
   have n6_ : Aside0 (Below w.heap.size w w38) := ⟨h6_⟩
   clear BK178
   clear HB
   clear h0_ h1_ h2_ h3_ h4_ h5_ h6_
   have BK178 := n0_
   have BK185 := n1_
   have GW185 := n2_
   have GE185 := n3_
   have NB178_185 := n4_
   have NB185_178 := n5_
   have HB := n6_
   clear n0_ n1_ n2_ n3_ n4_ n5_ n6_
   have hHeld : w38.cell? ⟨gb178, 0, none⟩ = some (.bool a0_0) ∧ w38.cell? ⟨gb178, 1, none⟩ = some (.int .u64 a0_1) ∧ w38.cell? ⟨gb178, 2, none⟩ = some (.int .u64 a0_2) ∧ w38.cell? ⟨gb178, 3, none⟩ = some (.int .i64 a0_3) := hS_
   refine norm_ (a' := ?_) ?_ ?_
   rotate_left
   ·
    simp only [putAll, Act.put, List.setIfInBounds_toArray, List.set_cons_zero, List.set_cons_succ]
    rfl
   refine one_ (i := 8) (N := none) (bm_ 10 511) rfl rfl (one_of HT_.out (by kernel_rfl)) (by decide) (fun K hK => ?_)
   have hs39 : w38.cell? ⟨gb185, 0, none⟩ = some (.int .u64 0) := kc_ BK185 0
   have hfs39 := blk_frozen BK185.out 0
   have hns39_0 := NB178_185.out
   have hms39_0 := NB185_178.out
   have hs40 : w38.cell? ⟨gb185, 1, none⟩ = some (.int .u64 0) := kc_ BK185 1
   have hfs40 := blk_frozen BK185.out 1
   have hns40_0 := NB178_185.out
   have hms40_0 := NB185_178.out
   refine skip_ (w1 := ?_) (by rfl) rfl ?_ ?_
   rotate_left
   ·
    go_simp
    rfl
   refine hK.out _ _ ⟨((cell_far (p := ⟨gb185, _, none⟩) NB178_185.out _).trans (((cell_far (p := ⟨gb185, _, none⟩) NB178_185.out _).trans (hHeld.1)))), ((cell_far (p := ⟨gb185, _, none⟩) NB178_185.out _).trans (((cell_far (p := ⟨gb185, _, none⟩) NB178_185.out _).trans (hHeld.2.1)))), ((cell_far (p := ⟨gb185, _, none⟩) NB178_185.out _).trans (((cell_far (p := ⟨gb185, _, none⟩) NB178_185.out _).trans (hHeld.2.2.1)))), ((cell_far (p := ⟨gb185, _, none⟩) NB178_185.out _).trans (((cell_far (p := ⟨gb185, _, none⟩) NB178_185.out _).trans (hHeld.2.2.2))))⟩ (fun hHeld => ?_)
   clear hK K
   refine pu_ 9 (some 7) (bm_ 10 1023) rfl HT_ ⟨by rfl, by intro w'; go_simp; with_reducible rfl⟩ ?_
   refine done_ (done_of HT_.out (by kernel_rfl)) ?_
   have hnb41 := NB185_178.out
   have hnc41 := NB178_185.out
   obtain ⟨hcz42_0, hcz42_1, hfz42_0, hfz42_1⟩ := c2_ BK185
   try go_wp2_with (first | ((with_reducible refine gate_callee (f := 96) rfl ?_); refine gl_ (some 19) Tryz.func96 #[.agg #[.int .u64 t182, .int .u64 t183]] ?_; (with_reducible refine (num_Small.calls t182 t183 t186 false _ A5.out).mono ?_); rintro e w43 ⟨rfl, hb⟩; refine ⟨_, rfl, ?_⟩; replace BK178 := Aside0.mk (blk_below (g := gb178) (o := .cells #[.bool a0_0, .int .u64 a0_1, .int .u64 a0_2, .int .i64 a0_3] 28 (0, 0)) (by refine pw_ ?_; refine blk_far ?_ NB178_185.out _; refine pw_ ?_; refine blk_far ?_ NB178_185.out _; refine pw_ ?_; exact BK178.out) hb); replace BK185 := Aside0.mk (blk_below (g := gb185) (o := .cells #[.int .u64 t182, .int .u64 t183] 24 (0, 0)) (by refine pw_ ?_; refine blk_put (cs := #[.int .u64 t182, .int .u64 0]) ?_ 1 _ rfl; refine pw_ ?_; refine blk_put (cs := #[.int .u64 0, .int .u64 0]) ?_ 0 _ rfl; refine pw_ ?_; exact BK185.out) hb); replace HB := bs_ HB hb; (try clear hb); (try clear hb2); (try clear hk); (try clear hi)))
   go_ret2
   exact ⟨by first | rfl | (simp [errW_none, errW_some] <;> rfl) | (simp [*, errW_none, errW_some] <;> rfl), pb_ HB⟩
 ·
  rw [if_neg c6] at H
  have c6b0 : (t184 == 0) = false := beq_eq_false_iff_ne.mpr c6
  have c6b1 : (t184 != 0) = true := bne_iff_ne.mpr c6
  simp only [Option.some.injEq, Prod.mk.injEq] at H
  obtain ⟨rfl, rfl⟩ := H
  go_enter Tryz.func71, Tryz.ntmps71
  try go_wp2_with (first | ((with_reducible refine gate_dst (N := 2) rfl ?_); refine bx_ 2 #[.bool a0_0, .int .u64 a0_1, .int .u64 a0_2, .int .i64 a0_3] 28 ?_; intro gb178 hg w44 hbox hb; have BK178 := Aside0.mk (hbox); have GW178 := gw_ HB hg; have GE178 := gw_ HB hg; replace HB := bs_ HB hb; clear hb hbox hg))
  replace BK178 := Aside0.mk (blk_drew BK178.out)
  replace HB := Aside0.mk (below_drew1 HB.out)
  refine start_ (n := 10) (S := fun w' => w'.cell? ⟨gb178, 0, none⟩ = some (.bool a0_0) ∧ w'.cell? ⟨gb178, 1, none⟩ = some (.int .u64 a0_1) ∧ w'.cell? ⟨gb178, 2, none⟩ = some (.int .u64 a0_2) ∧ w'.cell? ⟨gb178, 3, none⟩ = some (.int .i64 a0_3)) (ds := []) (bm_ 10 0) (by kernel_rfl) rfl rfl ⟨kc_ BK178 0, kc_ BK178 1, kc_ BK178 2, kc_ BK178 3⟩ (fun hHeld => ?_); refine with_tabW pool_broadcast.tab1 pool_broadcast.bits1 (fun HT_ HW_ => ?_)
  generalize w44.drew = w45 at BK178 HB hHeld ⊢
  refine ta_ 0 (some 11) (bm_ 10 1) rfl HT_ HW_ ⟨by rfl, by rintro w' ⟨s0, s1, s2, s3⟩; go_simp; with_reducible rfl⟩ hHeld ?_
  refine ta_ 1 (some 12) (bm_ 10 3) rfl HT_ HW_ ⟨by rfl, by rintro w' ⟨s0, s1, s2, s3⟩; go_simp; with_reducible rfl⟩ hHeld ?_
  refine join_ (σ := Nat) 2 (bm_ 10 255) (fun s_ => [(13, .agg #[.bool t179, .int .u64 t180, .int .u64 t181]), (14, .tuple #[.agg #[.int .u64 t182, .int .u64 t183], .int .i64 t184]), (6, .pointer (some ⟨s_, 0, none⟩)), (10, .tuple #[.agg #[.int .u64 t182, .int .u64 t183], .int .i64 t184]), (15, .agg #[.int .u64 t182, .int .u64 t183]), (16, .int .i64 t184)]) (fun s_ w' => (w'.cell? ⟨gb178, 0, none⟩ = some (.bool a0_0) ∧ w'.cell? ⟨gb178, 1, none⟩ = some (.int .u64 a0_1) ∧ w'.cell? ⟨gb178, 2, none⟩ = some (.int .u64 a0_2) ∧ w'.cell? ⟨gb178, 3, none⟩ = some (.int .i64 a0_3)) ∧ (w'.heap[gb178]? = some (.cells #[.bool a0_0, .int .u64 a0_1, .int .u64 a0_2, .int .i64 a0_3] 28 (0, 0))) ∧ (w'.heap[s_]? = some (.cells #[.int .u64 0, .int .u64 0] 24 (0, 0))) ∧ (w.heap.size ≤ s_) ∧ (w.heap.size ≤ s_) ∧ (gb178 ≠ s_) ∧ (s_ ≠ gb178) ∧ (Below w.heap.size w w')) ?_ ?_
  rotate_left
  ·
   intro hCont
   refine two_ (i := 2) (j := 7) (Ni := some 13) (Nj := some 6) (bm_ 10 7) (bm_ 10 131) rfl rfl rfl rfl (two_of HT_.out (by kernel_rfl)) (by decide) (by decide) (fun K hK => ?_) (fun K hK => ?_)
   ·
    skip
    refine gr_ Tryz.func34 #[.agg #[.bool a0_0, .int .u64 a0_1, .int .u64 a0_2, .int .i64 a0_3]] ?_
    with_reducible refine (prefix_Last.calls a0_0 a0_1 a0_2 a0_3 t179 t180 t181 _ A3.out).mono ?_
    rintro e w46 ⟨rfl, hb⟩
    refine ⟨_, rfl, ?_⟩
    replace BK178 := bb_ BK178 hb
    replace HB := bs_ HB hb
    (try clear hb)
    (try clear hb2)
    (try clear hk)
    (try clear hi)
    refine hK.out _ _ ⟨kc_ BK178 0, kc_ BK178 1, kc_ BK178 2, kc_ BK178 3⟩ (fun hHeld => ?_)
    clear hK K
    refine norm_ (a' := ?_) ?_ ?_
    rotate_left
    ·
     show Act.put _ (some 13) _ = _
     simp only [Act.put, List.setIfInBounds_toArray, List.set_cons_zero, List.set_cons_succ, i64_w, i32_w]
     rfl
    refine two_ (i := 3) (j := 7) (Ni := some 14) (Nj := some 6) (bm_ 10 15) (bm_ 10 135) rfl rfl rfl rfl (two_of HT_.out (by kernel_rfl)) (by decide) (by decide) (fun K hK => ?_) (fun K hK => ?_)
    ·
     skip
     refine gr_ Tryz.func122 #[.agg #[.bool a0_0, .int .u64 a0_1, .int .u64 a0_2, .int .i64 a0_3], .agg #[.bool t179, .int .u64 t180, .int .u64 t181]] ?_
     with_reducible refine (carve_Number.calls k a0_0 a0_1 a0_2 a0_3 t179 t180 t181 t182 t183 t184 _ A4.out).mono ?_
     rintro e w47 ⟨rfl, hb⟩
     refine ⟨_, rfl, ?_⟩
     replace BK178 := bb_ BK178 hb
     replace HB := bs_ HB hb
     (try clear hb)
     (try clear hb2)
     (try clear hk)
     (try clear hi)
     refine hK.out _ _ ⟨kc_ BK178 0, kc_ BK178 1, kc_ BK178 2, kc_ BK178 3⟩ (fun hHeld => ?_)
     clear hK K
     refine norm_ (a' := ?_) ?_ ?_
     rotate_left
     ·
      show Act.put _ (some 14) _ = _
      simp only [Act.put, List.setIfInBounds_toArray, List.set_cons_zero, List.set_cons_succ, i64_w, i32_w]
      rfl
     refine pu_ 4 (some 10) (bm_ 10 31) rfl HT_ ⟨by rfl, by intro w'; go_simp; with_reducible rfl⟩ ?_
     refine pu_ 5 (some 15) (bm_ 10 63) rfl HT_ ⟨by rfl, by intro w'; go_simp; with_reducible rfl⟩ ?_
     refine pu_ 6 (some 16) (bm_ 10 127) rfl HT_ ⟨by rfl, by intro w'; go_simp; with_reducible rfl⟩ ?_
     refine one_ (i := 7) (N := some 6) (bm_ 10 255) rfl rfl (one_of HT_.out (by kernel_rfl)) (by decide) (fun K hK => ?_)
     refine box_step ?hg (N := 6) ?hd (cs := #[.int .u64 0, .int .u64 0]) (t := 24) ?hr ?_; (case hd => rfl); (case hg => rfl); (case hr => first | (go_simp; done) | (go_simp; rfl))
     intro gb185 hg w48 hbox hb
     have BK185 := Aside0.mk (hbox)
     have GW185 := gw_ HB hg
     have GE185 := gw_ HB hg
     have NB178_185 := nl_ BK178 hg
     have NB185_178 := ng_ BK178 hg
     replace BK178 := bb_ BK178 hb
     replace HB := bs_ HB hb
     clear hb hbox hg
     refine hK.out _ _ ⟨kc_ BK178 0, kc_ BK178 1, kc_ BK178 2, kc_ BK178 3⟩ (fun hHeld => ?_)
     clear hK K
     refine norm_ (a' := ?_) ?_ ?_
     rotate_left
     ·
      show Act.put _ (some 6) _ = _
      simp only [Act.put, List.setIfInBounds_toArray, List.set_cons_zero, List.set_cons_succ, i64_w, i32_w]
      rfl
     exact norm_ (by simp only [putAll, Act.put, List.setIfInBounds_toArray, List.set_cons_zero, List.set_cons_succ]) (hCont (gb185) _ ⟨hHeld, (pk_ BK178), (pk_ BK185), GW185.out, GE185.out, NB178_185.out, NB185_178.out, (pb_ HB)⟩)
    ·
     skip
     refine box_step ?hg (N := 6) ?hd (cs := #[.int .u64 0, .int .u64 0]) (t := 24) ?hr ?_; (case hd => rfl); (case hg => rfl); (case hr => first | (go_simp; done) | (go_simp; rfl))
     intro gb185 hg w47 hbox hb
     have BK185 := Aside0.mk (hbox)
     have GW185 := gw_ HB hg
     have GE185 := gw_ HB hg
     have NB178_185 := nl_ BK178 hg
     have NB185_178 := ng_ BK178 hg
     replace BK178 := bb_ BK178 hb
     replace HB := bs_ HB hb
     clear hb hbox hg
     refine hK.out _ _ ⟨kc_ BK178 0, kc_ BK178 1, kc_ BK178 2, kc_ BK178 3⟩ (fun hHeld => ?_)
     clear hK K
     refine norm_ (a' := ?_) ?_ ?_
     rotate_left
     ·
      show Act.put _ (some 6) _ = _
      simp only [Act.put, List.setIfInBounds_toArray, List.set_cons_zero, List.set_cons_succ, i64_w, i32_w]
      rfl
     refine one_ (i := 3) (N := some 14) (bm_ 10 143) rfl rfl (one_of HT_.out (by kernel_rfl)) (by decide) (fun K hK => ?_)
     refine gr_ Tryz.func122 #[.agg #[.bool a0_0, .int .u64 a0_1, .int .u64 a0_2, .int .i64 a0_3], .agg #[.bool t179, .int .u64 t180, .int .u64 t181]] ?_
     with_reducible refine (carve_Number.calls k a0_0 a0_1 a0_2 a0_3 t179 t180 t181 t182 t183 t184 _ A4.out).mono ?_
     rintro e w48 ⟨rfl, hb⟩
     refine ⟨_, rfl, ?_⟩
     replace BK178 := bb_ BK178 hb
     replace BK185 := bb_ BK185 hb
     replace HB := bs_ HB hb
     (try clear hb)
     (try clear hb2)
     (try clear hk)
     (try clear hi)
     refine hK.out _ _ ⟨kc_ BK178 0, kc_ BK178 1, kc_ BK178 2, kc_ BK178 3⟩ (fun hHeld => ?_)
     clear hK K
     refine norm_ (a' := ?_) ?_ ?_
     rotate_left
     ·
      show Act.put _ (some 14) _ = _
      simp only [Act.put, List.setIfInBounds_toArray, List.set_cons_zero, List.set_cons_succ, i64_w, i32_w]
      rfl
     refine pu_ 4 (some 10) (bm_ 10 159) rfl HT_ ⟨by rfl, by intro w'; go_simp; with_reducible rfl⟩ ?_
     refine pu_ 5 (some 15) (bm_ 10 191) rfl HT_ ⟨by rfl, by intro w'; go_simp; with_reducible rfl⟩ ?_
     refine pu_ 6 (some 16) (bm_ 10 255) rfl HT_ ⟨by rfl, by intro w'; go_simp; with_reducible rfl⟩ ?_
     exact norm_ (by simp only [putAll, Act.put, List.setIfInBounds_toArray, List.set_cons_zero, List.set_cons_succ]) (hCont (gb185) _ ⟨hHeld, (pk_ BK178), (pk_ BK185), GW185.out, GE185.out, NB178_185.out, NB185_178.out, (pb_ HB)⟩)
   ·
    skip
    refine box_step ?hg (N := 6) ?hd (cs := #[.int .u64 0, .int .u64 0]) (t := 24) ?hr ?_; (case hd => rfl); (case hg => rfl); (case hr => first | (go_simp; done) | (go_simp; rfl))
    intro gb185 hg w46 hbox hb
    have BK185 := Aside0.mk (hbox)
    have GW185 := gw_ HB hg
    have GE185 := gw_ HB hg
    have NB178_185 := nl_ BK178 hg
    have NB185_178 := ng_ BK178 hg
    replace BK178 := bb_ BK178 hb
    replace HB := bs_ HB hb
    clear hb hbox hg
    refine hK.out _ _ ⟨kc_ BK178 0, kc_ BK178 1, kc_ BK178 2, kc_ BK178 3⟩ (fun hHeld => ?_)
    clear hK K
    refine norm_ (a' := ?_) ?_ ?_
    rotate_left
    ·
     show Act.put _ (some 6) _ = _
     simp only [Act.put, List.setIfInBounds_toArray, List.set_cons_zero, List.set_cons_succ, i64_w, i32_w]
     rfl
    refine one_ (i := 2) (N := some 13) (bm_ 10 135) rfl rfl (one_of HT_.out (by kernel_rfl)) (by decide) (fun K hK => ?_)
    refine gr_ Tryz.func34 #[.agg #[.bool a0_0, .int .u64 a0_1, .int .u64 a0_2, .int .i64 a0_3]] ?_
    with_reducible refine (prefix_Last.calls a0_0 a0_1 a0_2 a0_3 t179 t180 t181 _ A3.out).mono ?_
    rintro e w47 ⟨rfl, hb⟩
    refine ⟨_, rfl, ?_⟩
    replace BK178 := bb_ BK178 hb
    replace BK185 := bb_ BK185 hb
    replace HB := bs_ HB hb
    (try clear hb)
    (try clear hb2)
    (try clear hk)
    (try clear hi)
    refine hK.out _ _ ⟨kc_ BK178 0, kc_ BK178 1, kc_ BK178 2, kc_ BK178 3⟩ (fun hHeld => ?_)
    clear hK K
    refine norm_ (a' := ?_) ?_ ?_
    rotate_left
    ·
     show Act.put _ (some 13) _ = _
     simp only [Act.put, List.setIfInBounds_toArray, List.set_cons_zero, List.set_cons_succ, i64_w, i32_w]
     rfl
    refine one_ (i := 3) (N := some 14) (bm_ 10 143) rfl rfl (one_of HT_.out (by kernel_rfl)) (by decide) (fun K hK => ?_)
    refine gr_ Tryz.func122 #[.agg #[.bool a0_0, .int .u64 a0_1, .int .u64 a0_2, .int .i64 a0_3], .agg #[.bool t179, .int .u64 t180, .int .u64 t181]] ?_
    with_reducible refine (carve_Number.calls k a0_0 a0_1 a0_2 a0_3 t179 t180 t181 t182 t183 t184 _ A4.out).mono ?_
    rintro e w48 ⟨rfl, hb⟩
    refine ⟨_, rfl, ?_⟩
    replace BK178 := bb_ BK178 hb
    replace BK185 := bb_ BK185 hb
    replace HB := bs_ HB hb
    (try clear hb)
    (try clear hb2)
    (try clear hk)
    (try clear hi)
    refine hK.out _ _ ⟨kc_ BK178 0, kc_ BK178 1, kc_ BK178 2, kc_ BK178 3⟩ (fun hHeld => ?_)
    clear hK K
    refine norm_ (a' := ?_) ?_ ?_
    rotate_left
    ·
     show Act.put _ (some 14) _ = _
     simp only [Act.put, List.setIfInBounds_toArray, List.set_cons_zero, List.set_cons_succ, i64_w, i32_w]
     rfl
    refine pu_ 4 (some 10) (bm_ 10 159) rfl HT_ ⟨by rfl, by intro w'; go_simp; with_reducible rfl⟩ ?_
    refine pu_ 5 (some 15) (bm_ 10 191) rfl HT_ ⟨by rfl, by intro w'; go_simp; with_reducible rfl⟩ ?_
    refine pu_ 6 (some 16) (bm_ 10 255) rfl HT_ ⟨by rfl, by intro w'; go_simp; with_reducible rfl⟩ ?_
    exact norm_ (by simp only [putAll, Act.put, List.setIfInBounds_toArray, List.set_cons_zero, List.set_cons_succ]) (hCont (gb185) _ ⟨hHeld, (pk_ BK178), (pk_ BK185), GW185.out, GE185.out, NB178_185.out, NB185_178.out, (pb_ HB)⟩)
  rintro gb185 w49 ⟨hS_, h0_, h1_, h2_, h3_, h4_, h5_, h6_⟩
  have n0_ : Aside0 (w49.heap[gb178]? = some (.cells #[.bool a0_0, .int .u64 a0_1, .int .u64 a0_2, .int .i64 a0_3] 28 (0, 0))) := ⟨h0_⟩
  have n1_ : Aside0 (w49.heap[gb185]? = some (.cells #[.int .u64 0, .int .u64 0] 24 (0, 0))) := ⟨h1_⟩
  have n2_ : Aside0 (w.heap.size ≤ gb185) := ⟨h2_⟩
  have n3_ : Aside0 (w.heap.size ≤ gb185) := ⟨h3_⟩
  have n4_ : Aside0 (gb178 ≠ gb185) := ⟨h4_⟩
  have n5_ : Aside0 (gb185 ≠ gb178) := ⟨h5_⟩
  have n6_ : Aside0 (Below w.heap.size w w49) := ⟨h6_⟩
  clear BK178
  clear HB
  clear h0_ h1_ h2_ h3_ h4_ h5_ h6_
  have BK178 := n0_
  have BK185 := n1_
  have GW185 := n2_
  have GE185 := n3_
  have NB178_185 := n4_
  have NB185_178 := n5_
  have HB := n6_
  clear n0_ n1_ n2_ n3_ n4_ n5_ n6_
  have hHeld : w49.cell? ⟨gb178, 0, none⟩ = some (.bool a0_0) ∧ w49.cell? ⟨gb178, 1, none⟩ = some (.int .u64 a0_1) ∧ w49.cell? ⟨gb178, 2, none⟩ = some (.int .u64 a0_2) ∧ w49.cell? ⟨gb178, 3, none⟩ = some (.int .i64 a0_3) := hS_
  refine norm_ (a' := ?_) ?_ ?_
  rotate_left
  ·
   simp only [putAll, Act.put, List.setIfInBounds_toArray, List.set_cons_zero, List.set_cons_succ]
   rfl
  refine one_ (i := 8) (N := none) (bm_ 10 511) rfl rfl (one_of HT_.out (by kernel_rfl)) (by decide) (fun K hK => ?_)
  have hs50 : w49.cell? ⟨gb185, 0, none⟩ = some (.int .u64 0) := kc_ BK185 0
  have hfs50 := blk_frozen BK185.out 0
  have hns50_0 := NB178_185.out
  have hms50_0 := NB185_178.out
  have hs51 : w49.cell? ⟨gb185, 1, none⟩ = some (.int .u64 0) := kc_ BK185 1
  have hfs51 := blk_frozen BK185.out 1
  have hns51_0 := NB178_185.out
  have hms51_0 := NB185_178.out
  refine skip_ (w1 := ?_) (by rfl) rfl ?_ ?_
  rotate_left
  ·
   go_simp
   rfl
  refine hK.out _ _ ⟨((cell_far (p := ⟨gb185, _, none⟩) NB178_185.out _).trans (((cell_far (p := ⟨gb185, _, none⟩) NB178_185.out _).trans (hHeld.1)))), ((cell_far (p := ⟨gb185, _, none⟩) NB178_185.out _).trans (((cell_far (p := ⟨gb185, _, none⟩) NB178_185.out _).trans (hHeld.2.1)))), ((cell_far (p := ⟨gb185, _, none⟩) NB178_185.out _).trans (((cell_far (p := ⟨gb185, _, none⟩) NB178_185.out _).trans (hHeld.2.2.1)))), ((cell_far (p := ⟨gb185, _, none⟩) NB178_185.out _).trans (((cell_far (p := ⟨gb185, _, none⟩) NB178_185.out _).trans (hHeld.2.2.2))))⟩ (fun hHeld => ?_)
  clear hK K
  refine pu_ 9 (some 7) (bm_ 10 1023) rfl HT_ ⟨by rfl, by intro w'; go_simp; with_reducible rfl⟩ ?_
  refine done_ (done_of HT_.out (by kernel_rfl)) ?_
  have hnb52 := NB185_178.out
  have hnc52 := NB178_185.out
  obtain ⟨hcz53_0, hcz53_1, hfz53_0, hfz53_1⟩ := c2_ BK185
  try go_wp2_with (first | ((with_reducible refine gate_callee (f := 96) rfl ?_); refine gl_ (some 19) Tryz.func96 #[.agg #[.int .u64 t182, .int .u64 t183]] ?_; (with_reducible refine (num_Small.calls t182 t183 t186 t187 _ A5.out).mono ?_); rintro e w54 ⟨rfl, hb⟩; refine ⟨_, rfl, ?_⟩; replace BK178 := Aside0.mk (blk_below (g := gb178) (o := .cells #[.bool a0_0, .int .u64 a0_1, .int .u64 a0_2, .int .i64 a0_3] 28 (0, 0)) (by refine pw_ ?_; refine blk_far ?_ NB178_185.out _; refine pw_ ?_; refine blk_far ?_ NB178_185.out _; refine pw_ ?_; exact BK178.out) hb); replace BK185 := Aside0.mk (blk_below (g := gb185) (o := .cells #[.int .u64 t182, .int .u64 t183] 24 (0, 0)) (by refine pw_ ?_; refine blk_put (cs := #[.int .u64 t182, .int .u64 0]) ?_ 1 _ rfl; refine pw_ ?_; refine blk_put (cs := #[.int .u64 0, .int .u64 0]) ?_ 0 _ rfl; refine pw_ ?_; exact BK185.out) hb); replace HB := bs_ HB hb; (try clear hb); (try clear hb2); (try clear hk); (try clear hi)))
  go_ret2
  exact ⟨by first | rfl | (simp [errW_none, errW_some] <;> rfl) | (simp [*, errW_none, errW_some] <;> rfl), pb_ HB⟩

end Go.Proofs.YtpfilldnfpcpkaaGreatDoor.PPo

namespace Go.Proofs.YtpfilldnfpcpkaaGreatDoor.PPo
open Go.RowKit Go.Proofs.YtpfilldnfpcpkaaGreatDoorW.PrintWords Go.Proofs.YtpfilldnfpcpkaaGreatDoorW.PrintLast Go.Proofs.YtpfilldnfpcpkaaGreatDoorW.PrintMore
attribute [local go_sem] max2_int min2_int max_two min_two max_three min_three max_four min_four   -- for this text's walks alone

def carve_Block.f (a0_0 : Bool) (a0_1 : Int) (a0_2 : Int) (a0_3 : Int) (a1 : Int) (a2_0 : Int) (a2_1 : Int) : Option (Bool × Int × Int × Int × Int) := (carve_cuts.f a0_0 a0_1 a0_2 a0_3 a1).bind fun t191 => (if t191 = true then ((num_Len.f a2_0 a2_1).bind fun t192 => (if t192 > (wrap64 (a1 - a0_3)) then (some (false, 0, 0, 0, 12)) else ((addr_Width.f a0_0 a0_1 a0_2).bind fun t194 => ((num_Shl.f a2_0 a2_1 (wrap64 (t194 - a1))).bind fun bt195 => ((num_Or.f a0_1 a0_2 bt195.1 bt195.2).bind fun bt197 => (some (a0_0, bt197.1, bt197.2, a1, 0))))))) else (some (false, 0, 0, 0, 1)))
def carve_Block.T3 : Bool × List (List Nat × List Nat) := (true, [([], []), ([0], [0]), ([], []), ([], []), ([3], [3]), ([2, 4], [2, 4]), ([1, 5], [1, 5]), ([6, 1], [6])])
def carve_Block.B3 : List Nat := [0, 1, 0, 0, 8, 28, 63, 127]
theorem carve_Block.tab3 : rtab .any (opsOf Tryz.f142 3) = carve_Block.T3 := by kernel_rfl
theorem carve_Block.bits3 : waitsOk carve_Block.T3.2 carve_Block.B3 = true := by kernel_rfl
def carve_Block.T6 : Bool × List (List Nat × List Nat) := (true, [([], []), ([0], [0]), ([], []), ([], []), ([3], [3]), ([], []), ([4, 5], [4, 5]), ([2, 6, 4], [2, 6]), ([1, 7, 7], [1, 7]), ([0, 1, 2, 3, 4, 5, 6, 7, 8], []), ([9, 8, 8, 0, 1, 2, 3, 4, 5, 6, 7, 8], [8, 9])])
def carve_Block.B6 : List Nat := [0, 1, 0, 0, 8, 0, 56, 124, 255, 511, 1023]
theorem carve_Block.tab6 : rtab .any (opsOf Tryz.f142 6) = carve_Block.T6 := by kernel_rfl
theorem carve_Block.bits6 : waitsOk carve_Block.T6.2 carve_Block.B6 = true := by kernel_rfl
set_option maxHeartbeats 8000000 in
set_option maxRecDepth 100000 in
theorem carve_Block.calls (a0_0 : Bool) (a0_1 : Int) (a0_2 : Int) (a0_3 : Int) (a1 : Int) (a2_0 : Int) (a2_1 : Int) (r1 : Bool) (r2 : Int) (r3 : Int) (r4 : Int) (r5 : Int) (w : World) (h : carve_Block.f a0_0 a0_1 a0_2 a0_3 a1 a2_0 a2_1 = some (r1, r2, r3, r4, r5)) :
  Calls Tryz.prog 142 #[.agg #[.bool a0_0, .int .u64 a0_1, .int .u64 a0_2, .int .i64 a0_3], .int .i64 a1, .agg #[.int .u64 a2_0, .int .u64 a2_1]] w fun e w' => e = .returned (.tuple #[.agg #[.bool r1, .int .u64 r2, .int .u64 r3, .int .i64 r4], .int .i64 r5]) ∧ Below w.heap.size w w' := by
 have hu28 := Tryz.underlying28
 have hu24 := Tryz.underlying24
 have hu26 := Tryz.underlying26
 have HB := Aside0.mk (Below.refl w.heap.size w)
 have H : ((carve_cuts.f a0_0 a0_1 a0_2 a0_3 a1).bind fun t191 => (if t191 = true then ((num_Len.f a2_0 a2_1).bind fun t192 => (if t192 > (wrap64 (a1 - a0_3)) then (some (false, 0, 0, 0, 12)) else ((addr_Width.f a0_0 a0_1 a0_2).bind fun t194 => ((num_Shl.f a2_0 a2_1 (wrap64 (t194 - a1))).bind fun bt195 => ((num_Or.f a0_1 a0_2 bt195.1 bt195.2).bind fun bt197 => (some (a0_0, bt197.1, bt197.2, a1, 0))))))) else (some (false, 0, 0, 0, 1)))) = some (r1, r2, r3, r4, r5) := h
 clear h
 replace H := Option.bind_eq_some_iff.mp H
 obtain ⟨t191, A40, H⟩ := H
 replace H : (if t191 = true then ((num_Len.f a2_0 a2_1).bind fun t192 => (if t192 > (wrap64 (a1 - a0_3)) then (some (false, 0, 0, 0, 12)) else ((addr_Width.f a0_0 a0_1 a0_2).bind fun t194 => ((num_Shl.f a2_0 a2_1 (wrap64 (t194 - a1))).bind fun bt195 => ((num_Or.f a0_1 a0_2 bt195.1 bt195.2).bind fun bt197 => (some (a0_0, bt197.1, bt197.2, a1, 0))))))) else (some (false, 0, 0, 0, 1))) = some (r1, r2, r3, r4, r5) := H
 have A4 := Aside0.mk A40
 clear A40
 by_cases c5 : t191 = true
 ·
  subst c5
  rw [if_pos rfl] at H
  replace H := Option.bind_eq_some_iff.mp H
  obtain ⟨t192, A60, H⟩ := H
  replace H : (if t192 > (wrap64 (a1 - a0_3)) then (some (false, 0, 0, 0, 12)) else ((addr_Width.f a0_0 a0_1 a0_2).bind fun t194 => ((num_Shl.f a2_0 a2_1 (wrap64 (t194 - a1))).bind fun bt195 => ((num_Or.f a0_1 a0_2 bt195.1 bt195.2).bind fun bt197 => (some (a0_0, bt197.1, bt197.2, a1, 0)))))) = some (r1, r2, r3, r4, r5) := H
  have A6 := Aside0.mk A60
  clear A60
  by_cases c7 : t192 > (wrap64 (a1 - a0_3))
  ·
   rw [if_pos c7] at H
   have c7b0 : decide ((wrap64 (a1 - a0_3)) < t192) = true := decide_eq_true c7
   clear c7
   simp only [Option.some.injEq, Prod.mk.injEq] at H
   obtain ⟨rfl, rfl, rfl, rfl, rfl⟩ := H
   go_enter Tryz.func142, Tryz.ntmps142
   try go_wp2_with (first | ((with_reducible refine gate_dst (N := 3) rfl ?_); refine bx_ 3 #[.bool a0_0, .int .u64 a0_1, .int .u64 a0_2, .int .i64 a0_3] 28 ?_; intro gb188 hg w8 hbox hb; have BK188 := Aside0.mk (hbox); have GW188 := gw_ HB hg; have GE188 := gw_ HB hg; replace HB := bs_ HB hb; clear hb hbox hg) | ((with_reducible refine gate_dst (N := 5) rfl ?_); refine bx_ 5 #[.int .u64 a2_0, .int .u64 a2_1] 24 ?_; intro gb189 hg w9 hbox hb; have BK189 := Aside0.mk (hbox); have GW189 := gw_ HB hg; have GE189 := gw_ HB hg; have NB188_189 := nl_ BK188 hg; have NB189_188 := ng_ BK188 hg; replace BK188 := bb_ BK188 hb; replace HB := bs_ HB hb; clear hb hbox hg) | ((with_reducible refine gate_dst (N := 6) rfl ?_); refine bx_ 6 #[.bool false, .int .u64 0, .int .u64 0, .int .i64 0] 28 ?_; intro gb190 hg w10 hbox hb; have BK190 := Aside0.mk (hbox); have GW190 := gw_ HB hg; have GE190 := gw_ HB hg; have NB188_190 := nl_ BK188 hg; have NB190_188 := ng_ BK188 hg; have NB189_190 := nl_ BK189 hg; have NB190_189 := ng_ BK189 hg; replace BK188 := bb_ BK188 hb; replace BK189 := bb_ BK189 hb; replace HB := bs_ HB hb; clear hb hbox hg; have hnb11 := NB188_189.out; have hnc11 := NB189_188.out; have hnb12 := NB188_190.out; have hnc12 := NB190_188.out; obtain ⟨hcz13_0, hcz13_1, hcz13_2, hcz13_3, hfz13_0, hfz13_1, hfz13_2, hfz13_3⟩ := c4_ BK188) | ((with_reducible refine gate_callee (f := 137) rfl ?_); refine gl_ (some 12) Tryz.func137 #[.agg #[.bool a0_0, .int .u64 a0_1, .int .u64 a0_2, .int .i64 a0_3], .int .i64 a1] ?_; (with_reducible refine (carve_cuts.calls a0_0 a0_1 a0_2 a0_3 a1 true _ A4.out).mono ?_); rintro e w14 ⟨rfl, hb⟩; refine ⟨_, rfl, ?_⟩; replace BK188 := bb_ BK188 hb; replace BK189 := bb_ BK189 hb; replace BK190 := bb_ BK190 hb; replace HB := bs_ HB hb; (try clear hb); (try clear hb2); (try clear hk); (try clear hi)))
   replace BK188 := Aside0.mk (blk_drew BK188.out)
   replace BK189 := Aside0.mk (blk_drew BK189.out)
   replace BK190 := Aside0.mk (blk_drew BK190.out)
   replace HB := Aside0.mk (below_drew1 HB.out)
   refine start_ (n := 8) (S := fun w' => w'.cell? ⟨gb189, 0, none⟩ = some (.int .u64 a2_0) ∧ w'.cell? ⟨gb189, 1, none⟩ = some (.int .u64 a2_1) ∧ w'.cell? ⟨gb188, 0, none⟩ = some (.bool a0_0) ∧ w'.cell? ⟨gb188, 1, none⟩ = some (.int .u64 a0_1) ∧ w'.cell? ⟨gb188, 2, none⟩ = some (.int .u64 a0_2) ∧ w'.cell? ⟨gb188, 3, none⟩ = some (.int .i64 a0_3)) (ds := []) (bm_ 8 0) (by kernel_rfl) rfl rfl ⟨kc_ BK189 0, kc_ BK189 1, kc_ BK188 0, kc_ BK188 1, kc_ BK188 2, kc_ BK188 3⟩ (fun hHeld => ?_); refine with_tabW carve_Block.tab3 carve_Block.bits3 (fun HT_ HW_ => ?_)
   generalize w14.drew = w15 at BK188 BK189 BK190 HB hHeld ⊢
   refine pu_ 2 (some 18) (bm_ 8 4) rfl HT_ ⟨by rfl, by intro w'; go_simp; with_reducible rfl⟩ ?_
   refine pu_ 3 (some 19) (bm_ 8 12) rfl HT_ ⟨by rfl, by intro w'; go_simp; with_reducible rfl⟩ ?_
   refine ta_ 0 (some 16) (bm_ 8 13) rfl HT_ HW_ ⟨by rfl, by rintro w' ⟨s0, s1, s2, s3, s4, s5⟩; go_simp; with_reducible rfl⟩ hHeld ?_
   refine ta_ 4 (some 20) (bm_ 8 29) rfl HT_ HW_ ⟨by rfl, by rintro w' ⟨s0, s1, s2, s3, s4, s5⟩; go_simp; with_reducible rfl⟩ hHeld ?_
   refine pu_ 5 (some 21) (bm_ 8 61) rfl HT_ ⟨by rfl, by intro w'; go_simp; with_reducible rfl⟩ ?_
   refine one_ (i := 1) (N := some 17) (bm_ 8 63) rfl rfl (one_of HT_.out (by kernel_rfl)) (by decide) (fun K hK => ?_)
   refine gr_ Tryz.func134 #[.agg #[.int .u64 a2_0, .int .u64 a2_1]] ?_
   with_reducible refine (num_Len.calls a2_0 a2_1 t192 _ A6.out).mono ?_
   rintro e w16 ⟨rfl, hb⟩
   refine ⟨_, rfl, ?_⟩
   replace BK188 := bb_ BK188 hb
   replace BK189 := bb_ BK189 hb
   replace BK190 := bb_ BK190 hb
   replace HB := bs_ HB hb
   (try clear hb)
   (try clear hb2)
   (try clear hk)
   (try clear hi)
   refine hK.out _ _ ⟨kc_ BK189 0, kc_ BK189 1, kc_ BK188 0, kc_ BK188 1, kc_ BK188 2, kc_ BK188 3⟩ (fun hHeld => ?_)
   clear hK K
   refine norm_ (a' := ?_) ?_ ?_
   rotate_left
   ·
    show Act.put _ (some 17) _ = _
    simp only [Act.put, List.setIfInBounds_toArray, List.set_cons_zero, List.set_cons_succ, i64_w, i32_w]
    rfl
   refine pu_ 6 (some 22) (bm_ 8 127) rfl HT_ ⟨by rfl, by intro w'; go_simp; with_reducible rfl⟩ ?_
   refine pu_ 7 (some 15) (bm_ 8 255) rfl HT_ ⟨by rfl, by intro w'; go_simp; with_reducible rfl⟩ ?_
   refine done_ (done_of HT_.out (by kernel_rfl)) ?_
   have hnb17 := NB190_189.out
   have hnc17 := NB189_190.out
   obtain ⟨hcz18_0, hcz18_1, hcz18_2, hcz18_3, hfz18_0, hfz18_1, hfz18_2, hfz18_3⟩ := c4_ BK190
   try go_wp2
   refine bodyPost_ret (results_ct rfl _ _ gb190 28 #[.bool false, .int .u64 0, .int .u64 0, .int .i64 0] (0, 0) _ rfl (by refine pw_ ?_; refine blk_put (cs := #[.bool false, .int .u64 0, .int .u64 0, .int .i64 0]) ?_ 3 _ rfl; refine pw_ ?_; refine blk_put (cs := #[.bool false, .int .u64 0, .int .u64 0, .int .i64 0]) ?_ 2 _ rfl; refine pw_ ?_; refine blk_put (cs := #[.bool false, .int .u64 0, .int .u64 0, .int .i64 0]) ?_ 1 _ rfl; refine pw_ ?_; refine blk_put (cs := #[.bool false, .int .u64 0, .int .u64 0, .int .i64 0]) ?_ 0 _ rfl; refine pw_ ?_; exact BK190.out) Tryz.underlying28 rfl (by kernel_rfl)) rfl ?_
   exact ⟨by first | rfl | (simp [errW_none, errW_some] <;> rfl) | (simp [*, errW_none, errW_some] <;> rfl), pb_ HB⟩
  ·
   rw [if_neg c7] at H
   have c7b0 : decide ((wrap64 (a1 - a0_3)) < t192) = false := decide_eq_false c7
   clear c7
   replace H := Option.bind_eq_some_iff.mp H
   obtain ⟨t194, A190, H⟩ := H
   replace H : ((num_Shl.f a2_0 a2_1 (wrap64 (t194 - a1))).bind fun bt195 => ((num_Or.f a0_1 a0_2 bt195.1 bt195.2).bind fun bt197 => (some (a0_0, bt197.1, bt197.2, a1, 0)))) = some (r1, r2, r3, r4, r5) := H
   have A19 := Aside0.mk A190
   clear A190
   replace H := Option.bind_eq_some_iff.mp H
   obtain ⟨⟨t195, t196⟩, A200, H⟩ := H
   replace H : ((num_Or.f a0_1 a0_2 t195 t196).bind fun bt197 => (some (a0_0, bt197.1, bt197.2, a1, 0))) = some (r1, r2, r3, r4, r5) := H
   have A20 := Aside0.mk A200
   clear A200
   replace H := Option.bind_eq_some_iff.mp H
   obtain ⟨⟨t197, t198⟩, A210, H⟩ := H
   replace H : (some (a0_0, t197, t198, a1, 0)) = some (r1, r2, r3, r4, r5) := H
   have A21 := Aside0.mk A210
   clear A210
   simp only [Option.some.injEq, Prod.mk.injEq] at H
   obtain ⟨rfl, rfl, rfl, rfl, rfl⟩ := H
   go_enter Tryz.func142, Tryz.ntmps142
   try go_wp2_with (first | ((with_reducible refine gate_dst (N := 3) rfl ?_); refine bx_ 3 #[.bool a0_0, .int .u64 a0_1, .int .u64 a0_2, .int .i64 a0_3] 28 ?_; intro gb188 hg w22 hbox hb; have BK188 := Aside0.mk (hbox); have GW188 := gw_ HB hg; have GE188 := gw_ HB hg; replace HB := bs_ HB hb; clear hb hbox hg) | ((with_reducible refine gate_dst (N := 5) rfl ?_); refine bx_ 5 #[.int .u64 a2_0, .int .u64 a2_1] 24 ?_; intro gb189 hg w23 hbox hb; have BK189 := Aside0.mk (hbox); have GW189 := gw_ HB hg; have GE189 := gw_ HB hg; have NB188_189 := nl_ BK188 hg; have NB189_188 := ng_ BK188 hg; replace BK188 := bb_ BK188 hb; replace HB := bs_ HB hb; clear hb hbox hg) | ((with_reducible refine gate_dst (N := 6) rfl ?_); refine bx_ 6 #[.bool false, .int .u64 0, .int .u64 0, .int .i64 0] 28 ?_; intro gb190 hg w24 hbox hb; have BK190 := Aside0.mk (hbox); have GW190 := gw_ HB hg; have GE190 := gw_ HB hg; have NB188_190 := nl_ BK188 hg; have NB190_188 := ng_ BK188 hg; have NB189_190 := nl_ BK189 hg; have NB190_189 := ng_ BK189 hg; replace BK188 := bb_ BK188 hb; replace BK189 := bb_ BK189 hb; replace HB := bs_ HB hb; clear hb hbox hg; have hnb25 := NB188_189.out; have hnc25 := NB189_188.out; have hnb26 := NB188_190.out; have hnc26 := NB190_188.out; obtain ⟨hcz27_0, hcz27_1, hcz27_2, hcz27_3, hfz27_0, hfz27_1, hfz27_2, hfz27_3⟩ := c4_ BK188) | ((with_reducible refine gate_callee (f := 137) rfl ?_); refine gl_ (some 12) Tryz.func137 #[.agg #[.bool a0_0, .int .u64 a0_1, .int .u64 a0_2, .int .i64 a0_3], .int .i64 a1] ?_; (with_reducible refine (carve_cuts.calls a0_0 a0_1 a0_2 a0_3 a1 true _ A4.out).mono ?_); rintro e w28 ⟨rfl, hb⟩; refine ⟨_, rfl, ?_⟩; replace BK188 := bb_ BK188 hb; replace BK189 := bb_ BK189 hb; replace BK190 := bb_ BK190 hb; replace HB := bs_ HB hb; (try clear hb); (try clear hb2); (try clear hk); (try clear hi)))
   replace BK188 := Aside0.mk (blk_drew BK188.out)
   replace BK189 := Aside0.mk (blk_drew BK189.out)
   replace BK190 := Aside0.mk (blk_drew BK190.out)
   replace HB := Aside0.mk (below_drew1 HB.out)
   refine start_ (n := 8) (S := fun w' => w'.cell? ⟨gb189, 0, none⟩ = some (.int .u64 a2_0) ∧ w'.cell? ⟨gb189, 1, none⟩ = some (.int .u64 a2_1) ∧ w'.cell? ⟨gb188, 0, none⟩ = some (.bool a0_0) ∧ w'.cell? ⟨gb188, 1, none⟩ = some (.int .u64 a0_1) ∧ w'.cell? ⟨gb188, 2, none⟩ = some (.int .u64 a0_2) ∧ w'.cell? ⟨gb188, 3, none⟩ = some (.int .i64 a0_3)) (ds := []) (bm_ 8 0) (by kernel_rfl) rfl rfl ⟨kc_ BK189 0, kc_ BK189 1, kc_ BK188 0, kc_ BK188 1, kc_ BK188 2, kc_ BK188 3⟩ (fun hHeld => ?_); refine with_tabW carve_Block.tab3 carve_Block.bits3 (fun HT_ HW_ => ?_)
   generalize w28.drew = w29 at BK188 BK189 BK190 HB hHeld ⊢
   refine pu_ 2 (some 18) (bm_ 8 4) rfl HT_ ⟨by rfl, by intro w'; go_simp; with_reducible rfl⟩ ?_
   refine pu_ 3 (some 19) (bm_ 8 12) rfl HT_ ⟨by rfl, by intro w'; go_simp; with_reducible rfl⟩ ?_
   refine ta_ 0 (some 16) (bm_ 8 13) rfl HT_ HW_ ⟨by rfl, by rintro w' ⟨s0, s1, s2, s3, s4, s5⟩; go_simp; with_reducible rfl⟩ hHeld ?_
   refine ta_ 4 (some 20) (bm_ 8 29) rfl HT_ HW_ ⟨by rfl, by rintro w' ⟨s0, s1, s2, s3, s4, s5⟩; go_simp; with_reducible rfl⟩ hHeld ?_
   refine pu_ 5 (some 21) (bm_ 8 61) rfl HT_ ⟨by rfl, by intro w'; go_simp; with_reducible rfl⟩ ?_
   refine one_ (i := 1) (N := some 17) (bm_ 8 63) rfl rfl (one_of HT_.out (by kernel_rfl)) (by decide) (fun K hK => ?_)
   refine gr_ Tryz.func134 #[.agg #[.int .u64 a2_0, .int .u64 a2_1]] ?_
   with_reducible refine (num_Len.calls a2_0 a2_1 t192 _ A6.out).mono ?_
   rintro e w30 ⟨rfl, hb⟩
   refine ⟨_, rfl, ?_⟩
   replace BK188 := bb_ BK188 hb
   replace BK189 := bb_ BK189 hb
   replace BK190 := bb_ BK190 hb
   replace HB := bs_ HB hb
   (try clear hb)
   (try clear hb2)
   (try clear hk)
   (try clear hi)
   refine hK.out _ _ ⟨kc_ BK189 0, kc_ BK189 1, kc_ BK188 0, kc_ BK188 1, kc_ BK188 2, kc_ BK188 3⟩ (fun hHeld => ?_)
   clear hK K
   refine norm_ (a' := ?_) ?_ ?_
   rotate_left
   ·
    show Act.put _ (some 17) _ = _
    simp only [Act.put, List.setIfInBounds_toArray, List.set_cons_zero, List.set_cons_succ, i64_w, i32_w]
    rfl
   refine pu_ 6 (some 22) (bm_ 8 127) rfl HT_ ⟨by rfl, by intro w'; go_simp; with_reducible rfl⟩ ?_
   refine pu_ 7 (some 15) (bm_ 8 255) rfl HT_ ⟨by rfl, by intro w'; go_simp; with_reducible rfl⟩ ?_
   refine done_ (done_of HT_.out (by kernel_rfl)) ?_
   obtain ⟨hcz31_0, hcz31_1, hcz31_2, hcz31_3, hfz31_0, hfz31_1, hfz31_2, hfz31_3⟩ := c4_ BK188
   try go_wp2_with (first | ((with_reducible refine gate_dst (N := 8) rfl ?_); refine bx_ 8 #[.bool false, .int .u64 0, .int .u64 0] 26 ?_; intro gb193 hg w32 hbox hb; have BK193 := Aside0.mk (hbox); have GW193 := gw_ HB hg; have GE193 := gw_ HB hg; have NB188_193 := nl_ BK188 hg; have NB193_188 := ng_ BK188 hg; have NB189_193 := nl_ BK189 hg; have NB193_189 := ng_ BK189 hg; have NB190_193 := nl_ BK190 hg; have NB193_190 := ng_ BK190 hg; replace BK188 := bb_ BK188 hb; replace BK189 := bb_ BK189 hb; replace BK190 := bb_ BK190 hb; replace HB := bs_ HB hb; clear hb hbox hg; have hnb33 := NB193_188.out; have hnc33 := NB188_193.out; have hnb34 := NB193_189.out; have hnc34 := NB189_193.out; have hnb35 := NB193_190.out; have hnc35 := NB190_193.out; obtain ⟨hcz36_0, hcz36_1, hcz36_2, hfz36_0, hfz36_1, hfz36_2⟩ := c3_ BK193))
   have n0_ : Aside0 ((((w32.setCell ⟨gb193, 0, none⟩ (.bool a0_0)).setCell ⟨gb193, 1, none⟩ (.int .u64 a0_1)).setCell ⟨gb193, 2, none⟩ (.int .u64 a0_2)).heap[gb188]? = some (.cells #[.bool a0_0, .int .u64 a0_1, .int .u64 a0_2, .int .i64 a0_3] 28 (0, 0))) := ⟨by refine pw_ ?_; refine blk_far ?_ NB188_193.out _; refine pw_ ?_; refine blk_far ?_ NB188_193.out _; refine pw_ ?_; refine blk_far ?_ NB188_193.out _; refine pw_ ?_; exact BK188.out⟩
   have n1_ : Aside0 ((((w32.setCell ⟨gb193, 0, none⟩ (.bool a0_0)).setCell ⟨gb193, 1, none⟩ (.int .u64 a0_1)).setCell ⟨gb193, 2, none⟩ (.int .u64 a0_2)).heap[gb189]? = some (.cells #[.int .u64 a2_0, .int .u64 a2_1] 24 (0, 0))) := ⟨by refine pw_ ?_; refine blk_far ?_ NB189_193.out _; refine pw_ ?_; refine blk_far ?_ NB189_193.out _; refine pw_ ?_; refine blk_far ?_ NB189_193.out _; refine pw_ ?_; exact BK189.out⟩
   have n2_ : Aside0 ((((w32.setCell ⟨gb193, 0, none⟩ (.bool a0_0)).setCell ⟨gb193, 1, none⟩ (.int .u64 a0_1)).setCell ⟨gb193, 2, none⟩ (.int .u64 a0_2)).heap[gb190]? = some (.cells #[.bool false, .int .u64 0, .int .u64 0, .int .i64 0] 28 (0, 0))) := ⟨by refine pw_ ?_; refine blk_far ?_ NB190_193.out _; refine pw_ ?_; refine blk_far ?_ NB190_193.out _; refine pw_ ?_; refine blk_far ?_ NB190_193.out _; refine pw_ ?_; exact BK190.out⟩
   have n3_ : Aside0 ((((w32.setCell ⟨gb193, 0, none⟩ (.bool a0_0)).setCell ⟨gb193, 1, none⟩ (.int .u64 a0_1)).setCell ⟨gb193, 2, none⟩ (.int .u64 a0_2)).heap[gb193]? = some (.cells #[.bool a0_0, .int .u64 a0_1, .int .u64 a0_2] 26 (0, 0))) := ⟨by refine pw_ ?_; refine blk_put (cs := #[.bool a0_0, .int .u64 a0_1, .int .u64 0]) ?_ 2 _ rfl; refine pw_ ?_; refine blk_put (cs := #[.bool a0_0, .int .u64 0, .int .u64 0]) ?_ 1 _ rfl; refine pw_ ?_; refine blk_put (cs := #[.bool false, .int .u64 0, .int .u64 0]) ?_ 0 _ rfl; refine pw_ ?_; exact BK193.out⟩
   have n4_ : Aside0 (Below w.heap.size w (((w32.setCell ⟨gb193, 0, none⟩ (.bool a0_0)).setCell ⟨gb193, 1, none⟩ (.int .u64 a0_1)).setCell ⟨gb193, 2, none⟩ (.int .u64 a0_2))) := ⟨pb_ HB⟩
   (try clear BK188)
   (try clear BK189)
   (try clear BK190)
   (try clear BK193)
   (try clear HB)
   generalize (((w32.setCell ⟨gb193, 0, none⟩ (.bool a0_0)).setCell ⟨gb193, 1, none⟩ (.int .u64 a0_1)).setCell ⟨gb193, 2, none⟩ (.int .u64 a0_2)) = w37 at n0_ n1_ n2_ n3_ n4_ ⊢
   have BK188 := n0_
   have BK189 := n1_
   have BK190 := n2_
   have BK193 := n3_
   have HB := n4_
   clear n0_ n1_ n2_ n3_ n4_
   replace BK188 := Aside0.mk (blk_drew BK188.out)
   replace BK189 := Aside0.mk (blk_drew BK189.out)
   replace BK190 := Aside0.mk (blk_drew BK190.out)
   replace BK193 := Aside0.mk (blk_drew BK193.out)
   replace HB := Aside0.mk (below_drew1 HB.out)
   refine start_ (n := 11) (S := fun w' => w'.cell? ⟨gb193, 0, none⟩ = some (.bool a0_0) ∧ w'.cell? ⟨gb193, 1, none⟩ = some (.int .u64 a0_1) ∧ w'.cell? ⟨gb193, 2, none⟩ = some (.int .u64 a0_2) ∧ w'.cell? ⟨gb189, 0, none⟩ = some (.int .u64 a2_0) ∧ w'.cell? ⟨gb189, 1, none⟩ = some (.int .u64 a2_1)) (ds := [10]) (bm_ 11 0) (by kernel_rfl) rfl rfl ⟨kc_ BK193 0, kc_ BK193 1, kc_ BK193 2, kc_ BK189 0, kc_ BK189 1⟩ (fun hHeld => ?_); refine with_tabW carve_Block.tab6 carve_Block.bits6 (fun HT_ HW_ => ?_)
   generalize w37.drew = w38 at BK188 BK189 BK190 BK193 HB hHeld ⊢
   refine pu_ 0 (some 26) (bm_ 11 1) rfl HT_ ⟨by rfl, by intro w'; go_simp; with_reducible rfl⟩ ?_
   refine pu_ 5 (some 31) (bm_ 11 33) rfl HT_ ⟨by rfl, by intro w'; go_simp; with_reducible rfl⟩ ?_
   refine ta_ 1 (some 27) (bm_ 11 35) rfl HT_ HW_ ⟨by rfl, by rintro w' ⟨s0, s1, s2, s3, s4⟩; go_simp; with_reducible rfl⟩ hHeld ?_
   refine ta_ 2 (some 28) (bm_ 11 39) rfl HT_ HW_ ⟨by rfl, by rintro w' ⟨s0, s1, s2, s3, s4⟩; go_simp; with_reducible rfl⟩ hHeld ?_
   refine ta_ 3 (some 29) (bm_ 11 47) rfl HT_ HW_ ⟨by rfl, by rintro w' ⟨s0, s1, s2, s3, s4⟩; go_simp; with_reducible rfl⟩ hHeld ?_
   refine one_ (i := 4) (N := some 30) (bm_ 11 63) rfl rfl (one_of HT_.out (by kernel_rfl)) (by decide) (fun K hK => ?_)
   refine gr_ Tryz.func132 #[.agg #[.bool a0_0, .int .u64 a0_1, .int .u64 a0_2]] ?_
   with_reducible refine (addr_Width.calls a0_0 a0_1 a0_2 t194 _ A19.out).mono ?_
   rintro e w39 ⟨rfl, hb⟩
   refine ⟨_, rfl, ?_⟩
   replace BK188 := bb_ BK188 hb
   replace BK189 := bb_ BK189 hb
   replace BK190 := bb_ BK190 hb
   replace BK193 := bb_ BK193 hb
   replace HB := bs_ HB hb
   (try clear hb)
   (try clear hb2)
   (try clear hk)
   (try clear hi)
   refine hK.out _ _ ⟨kc_ BK193 0, kc_ BK193 1, kc_ BK193 2, kc_ BK189 0, kc_ BK189 1⟩ (fun hHeld => ?_)
   clear hK K
   refine norm_ (a' := ?_) ?_ ?_
   rotate_left
   ·
    show Act.put _ (some 30) _ = _
    simp only [Act.put, List.setIfInBounds_toArray, List.set_cons_zero, List.set_cons_succ, i64_w, i32_w]
    rfl
   refine pu_ 6 (some 32) (bm_ 11 127) rfl HT_ ⟨by rfl, by intro w'; go_simp; with_reducible rfl⟩ ?_
   refine one_ (i := 7) (N := some 33) (bm_ 11 255) rfl rfl (one_of HT_.out (by kernel_rfl)) (by decide) (fun K hK => ?_)
   refine gr_ Tryz.func167 #[.agg #[.int .u64 a2_0, .int .u64 a2_1], .int .i64 (wrap64 (t194 - a1))] ?_
   with_reducible refine (num_Shl.calls a2_0 a2_1 (wrap64 (t194 - a1)) t195 t196 _ A20.out).mono ?_
   rintro e w40 ⟨rfl, hb⟩
   refine ⟨_, rfl, ?_⟩
   replace BK188 := bb_ BK188 hb
   replace BK189 := bb_ BK189 hb
   replace BK190 := bb_ BK190 hb
   replace BK193 := bb_ BK193 hb
   replace HB := bs_ HB hb
   (try clear hb)
   (try clear hb2)
   (try clear hk)
   (try clear hi)
   refine hK.out _ _ ⟨kc_ BK193 0, kc_ BK193 1, kc_ BK193 2, kc_ BK189 0, kc_ BK189 1⟩ (fun hHeld => ?_)
   clear hK K
   refine norm_ (a' := ?_) ?_ ?_
   rotate_left
   ·
    show Act.put _ (some 33) _ = _
    simp only [Act.put, List.setIfInBounds_toArray, List.set_cons_zero, List.set_cons_succ, i64_w, i32_w]
    rfl
   refine one_ (i := 8) (N := some 34) (bm_ 11 511) rfl rfl (one_of HT_.out (by kernel_rfl)) (by decide) (fun K hK => ?_)
   refine gr_ Tryz.func93 #[.agg #[.int .u64 a0_1, .int .u64 a0_2], .agg #[.int .u64 t195, .int .u64 t196]] ?_
   with_reducible refine (num_Or.calls a0_1 a0_2 t195 t196 t197 t198 _ A21.out).mono ?_
   rintro e w41 ⟨rfl, hb⟩
   refine ⟨_, rfl, ?_⟩
   replace BK188 := bb_ BK188 hb
   replace BK189 := bb_ BK189 hb
   replace BK190 := bb_ BK190 hb
   replace BK193 := bb_ BK193 hb
   replace HB := bs_ HB hb
   (try clear hb)
   (try clear hb2)
   (try clear hk)
   (try clear hi)
   refine hK.out _ _ ⟨kc_ BK193 0, kc_ BK193 1, kc_ BK193 2, kc_ BK189 0, kc_ BK189 1⟩ (fun hHeld => ?_)
   clear hK K
   refine norm_ (a' := ?_) ?_ ?_
   rotate_left
   ·
    show Act.put _ (some 34) _ = _
    simp only [Act.put, List.setIfInBounds_toArray, List.set_cons_zero, List.set_cons_succ, i64_w, i32_w]
    rfl
   refine pu_ 9 (some 35) (bm_ 11 1023) rfl HT_ ⟨by rfl, by intro w'; go_simp; with_reducible rfl⟩ ?_
   refine last_ (i := 10) (N := none) (bm_ 11 2047) rfl rfl (one_of HT_.out (by kernel_rfl)) (by decide) (fun K hK => ?_)
   have hs42 : w41.cell? ⟨gb193, 1, none⟩ = some (.int .u64 a0_1) := kc_ BK193 1
   have hfs42 := blk_frozen BK193.out 1
   have hns42_0 := NB188_193.out
   have hns42_1 := NB189_193.out
   have hns42_2 := NB190_193.out
   have hms42_0 := NB193_188.out
   have hms42_1 := NB193_189.out
   have hms42_2 := NB193_190.out
   have hs43 : w41.cell? ⟨gb193, 2, none⟩ = some (.int .u64 a0_2) := kc_ BK193 2
   have hfs43 := blk_frozen BK193.out 2
   have hns43_0 := NB188_193.out
   have hns43_1 := NB189_193.out
   have hns43_2 := NB190_193.out
   have hms43_0 := NB193_188.out
   have hms43_1 := NB193_189.out
   have hms43_2 := NB193_190.out
   refine skip_ (w1 := ?_) (by rfl) rfl ?_ ?_
   rotate_left
   ·
    go_simp
    rfl
   refine hK.out _ _ ?_
   clear hK K
   refine done_ (done_of HT_.out (by kernel_rfl)) ?_
   obtain ⟨hcz44_0, hcz44_1, hcz44_2, hfz44_0, hfz44_1, hfz44_2⟩ := c3_ BK193
   have hnb45 := NB190_189.out
   have hnc45 := NB189_190.out
   obtain ⟨hcz46_0, hcz46_1, hcz46_2, hcz46_3, hfz46_0, hfz46_1, hfz46_2, hfz46_3⟩ := c4_ BK190
   try go_wp2
   refine bodyPost_ret (results_ct rfl _ _ gb190 28 #[.bool a0_0, .int .u64 t197, .int .u64 t198, .int .i64 a1] (0, 0) _ rfl (by refine pw_ ?_; refine blk_put (cs := #[.bool a0_0, .int .u64 t197, .int .u64 t198, .int .i64 0]) ?_ 3 _ rfl; refine pw_ ?_; refine blk_put (cs := #[.bool a0_0, .int .u64 t197, .int .u64 0, .int .i64 0]) ?_ 2 _ rfl; refine pw_ ?_; refine blk_put (cs := #[.bool a0_0, .int .u64 0, .int .u64 0, .int .i64 0]) ?_ 1 _ rfl; refine pw_ ?_; refine blk_put (cs := #[.bool false, .int .u64 0, .int .u64 0, .int .i64 0]) ?_ 0 _ rfl; refine pw_ ?_; refine blk_far ?_ NB190_193.out _; refine pw_ ?_; refine blk_far ?_ NB190_193.out _; refine pw_ ?_; exact BK190.out) Tryz.underlying28 rfl (by kernel_rfl)) rfl ?_
   exact ⟨by first | rfl | (simp [errW_none, errW_some] <;> rfl) | (simp [*, errW_none, errW_some] <;> rfl), pb_ HB⟩
 ·
  replace c5 := Bool.eq_false_iff.mpr c5
  subst c5
  have H1 : (some (false, 0, 0, 0, 1)) = some (r1, r2, r3, r4, r5) := by rw [if_neg (show ¬ (false = true) by decide)] at H; exact H
  clear H
  have H := H1
  clear H1
  simp only [Option.some.injEq, Prod.mk.injEq] at H
  obtain ⟨rfl, rfl, rfl, rfl, rfl⟩ := H
  go_enter Tryz.func142, Tryz.ntmps142
  go_wp2_with (first | ((with_reducible refine gate_dst (N := 3) rfl ?_); refine bx_ 3 #[.bool a0_0, .int .u64 a0_1, .int .u64 a0_2, .int .i64 a0_3] 28 ?_; intro gb188 hg w47 hbox hb; have BK188 := Aside0.mk (hbox); have GW188 := gw_ HB hg; have GE188 := gw_ HB hg; replace HB := bs_ HB hb; clear hb hbox hg) | ((with_reducible refine gate_dst (N := 5) rfl ?_); refine bx_ 5 #[.int .u64 a2_0, .int .u64 a2_1] 24 ?_; intro gb189 hg w48 hbox hb; have BK189 := Aside0.mk (hbox); have GW189 := gw_ HB hg; have GE189 := gw_ HB hg; have NB188_189 := nl_ BK188 hg; have NB189_188 := ng_ BK188 hg; replace BK188 := bb_ BK188 hb; replace HB := bs_ HB hb; clear hb hbox hg) | ((with_reducible refine gate_dst (N := 6) rfl ?_); refine bx_ 6 #[.bool false, .int .u64 0, .int .u64 0, .int .i64 0] 28 ?_; intro gb190 hg w49 hbox hb; have BK190 := Aside0.mk (hbox); have GW190 := gw_ HB hg; have GE190 := gw_ HB hg; have NB188_190 := nl_ BK188 hg; have NB190_188 := ng_ BK188 hg; have NB189_190 := nl_ BK189 hg; have NB190_189 := ng_ BK189 hg; replace BK188 := bb_ BK188 hb; replace BK189 := bb_ BK189 hb; replace HB := bs_ HB hb; clear hb hbox hg; have hnb50 := NB188_189.out; have hnc50 := NB189_188.out; have hnb51 := NB188_190.out; have hnc51 := NB190_188.out; obtain ⟨hcz52_0, hcz52_1, hcz52_2, hcz52_3, hfz52_0, hfz52_1, hfz52_2, hfz52_3⟩ := c4_ BK188) | ((with_reducible refine gate_callee (f := 137) rfl ?_); refine gl_ (some 12) Tryz.func137 #[.agg #[.bool a0_0, .int .u64 a0_1, .int .u64 a0_2, .int .i64 a0_3], .int .i64 a1] ?_; (with_reducible refine (carve_cuts.calls a0_0 a0_1 a0_2 a0_3 a1 false _ A4.out).mono ?_); rintro e w53 ⟨rfl, hb⟩; refine ⟨_, rfl, ?_⟩; replace BK188 := bb_ BK188 hb; replace BK189 := bb_ BK189 hb; replace BK190 := bb_ BK190 hb; replace HB := bs_ HB hb; (try clear hb); (try clear hb2); (try clear hk); (try clear hi); have hnb54 := NB190_189.out; have hnc54 := NB189_190.out; obtain ⟨hcz55_0, hcz55_1, hcz55_2, hcz55_3, hfz55_0, hfz55_1, hfz55_2, hfz55_3⟩ := c4_ BK190))
  refine bodyPost_ret (results_ct rfl _ _ gb190 28 #[.bool false, .int .u64 0, .int .u64 0, .int .i64 0] (0, 0) _ rfl (by refine pw_ ?_; refine blk_put (cs := #[.bool false, .int .u64 0, .int .u64 0, .int .i64 0]) ?_ 3 _ rfl; refine pw_ ?_; refine blk_put (cs := #[.bool false, .int .u64 0, .int .u64 0, .int .i64 0]) ?_ 2 _ rfl; refine pw_ ?_; refine blk_put (cs := #[.bool false, .int .u64 0, .int .u64 0, .int .i64 0]) ?_ 1 _ rfl; refine pw_ ?_; refine blk_put (cs := #[.bool false, .int .u64 0, .int .u64 0, .int .i64 0]) ?_ 0 _ rfl; refine pw_ ?_; exact BK190.out) Tryz.underlying28 rfl (by kernel_rfl)) rfl ?_
  exact ⟨by first | rfl | (simp [errW_none, errW_some] <;> rfl) | (simp [*, errW_none, errW_some] <;> rfl), pb_ HB⟩

def carve_Host.f (a0_0 : Bool) (a0_1 : Int) (a0_2 : Int) (a0_3 : Int) (a1_0 : Int) (a1_1 : Int) : Option (Bool × Int × Int × Int) := (addr_Width.f a0_0 a0_1 a0_2).bind fun t202 => ((carve_Block.f a0_0 a0_1 a0_2 a0_3 t202 a1_0 a1_1).bind fun bt203 => (some (bt203.1, bt203.2.1, bt203.2.2.1, bt203.2.2.2.2)))
def carve_Host.T1 : Bool × List (List Nat × List Nat) := (true, [([], []), ([], []), ([1], [1]), ([2], [2]), ([], []), ([0, 3, 4, 3], [0, 3, 4]), ([5], [5]), ([6], [6]), ([6], [6]), ([], []), ([9, 7, 5, 0, 1, 2, 3, 4, 5, 6, 7, 9], [7, 9]), ([8, 10, 0, 1, 2, 3, 4, 5, 6, 7, 8, 9, 10], [8])])
def carve_Host.B1 : List Nat := [0, 0, 2, 6, 0, 31, 63, 127, 127, 0, 767, 2047]
theorem carve_Host.tab1 : rtab .any (opsOf Tryz.f125 1) = carve_Host.T1 := by kernel_rfl
theorem carve_Host.bits1 : waitsOk carve_Host.T1.2 carve_Host.B1 = true := by kernel_rfl
set_option maxHeartbeats 8000000 in
set_option maxRecDepth 100000 in
theorem carve_Host.calls (a0_0 : Bool) (a0_1 : Int) (a0_2 : Int) (a0_3 : Int) (a1_0 : Int) (a1_1 : Int) (r1 : Bool) (r2 : Int) (r3 : Int) (r4 : Int) (w : World) (h : carve_Host.f a0_0 a0_1 a0_2 a0_3 a1_0 a1_1 = some (r1, r2, r3, r4)) :
  Calls Tryz.prog 125 #[.agg #[.bool a0_0, .int .u64 a0_1, .int .u64 a0_2, .int .i64 a0_3], .agg #[.int .u64 a1_0, .int .u64 a1_1]] w fun e w' => e = .returned (.tuple #[.agg #[.bool r1, .int .u64 r2, .int .u64 r3], .int .i64 r4]) ∧ Below w.heap.size w w' := by
 have hu28 := Tryz.underlying28
 have hu24 := Tryz.underlying24
 have hu26 := Tryz.underlying26
 have HB := Aside0.mk (Below.refl w.heap.size w)
 have H : ((addr_Width.f a0_0 a0_1 a0_2).bind fun t202 => ((carve_Block.f a0_0 a0_1 a0_2 a0_3 t202 a1_0 a1_1).bind fun bt203 => (some (bt203.1, bt203.2.1, bt203.2.2.1, bt203.2.2.2.2)))) = some (r1, r2, r3, r4) := h
 clear h
 replace H := Option.bind_eq_some_iff.mp H
 obtain ⟨t202, A30, H⟩ := H
 replace H : ((carve_Block.f a0_0 a0_1 a0_2 a0_3 t202 a1_0 a1_1).bind fun bt203 => (some (bt203.1, bt203.2.1, bt203.2.2.1, bt203.2.2.2.2))) = some (r1, r2, r3, r4) := H
 have A3 := Aside0.mk A30
 clear A30
 replace H := Option.bind_eq_some_iff.mp H
 obtain ⟨⟨t203, t204, t205, t206, t207⟩, A40, H⟩ := H
 replace H : (some (t203, t204, t205, t207)) = some (r1, r2, r3, r4) := H
 have A4 := Aside0.mk A40
 clear A40
 simp only [Option.some.injEq, Prod.mk.injEq] at H
 obtain ⟨rfl, rfl, rfl, rfl⟩ := H
 go_enter Tryz.func125, Tryz.ntmps125
 try go_wp2_with (first | ((with_reducible refine gate_dst (N := 2) rfl ?_); refine bx_ 2 #[.bool a0_0, .int .u64 a0_1, .int .u64 a0_2, .int .i64 a0_3] 28 ?_; intro gb199 hg w5 hbox hb; have BK199 := Aside0.mk (hbox); have GW199 := gw_ HB hg; have GE199 := gw_ HB hg; replace HB := bs_ HB hb; clear hb hbox hg) | ((with_reducible refine gate_dst (N := 3) rfl ?_); refine bx_ 3 #[.int .u64 a1_0, .int .u64 a1_1] 24 ?_; intro gb200 hg w6 hbox hb; have BK200 := Aside0.mk (hbox); have GW200 := gw_ HB hg; have GE200 := gw_ HB hg; have NB199_200 := nl_ BK199 hg; have NB200_199 := ng_ BK199 hg; replace BK199 := bb_ BK199 hb; replace HB := bs_ HB hb; clear hb hbox hg) | ((with_reducible refine gate_dst (N := 4) rfl ?_); refine bx_ 4 #[.bool false, .int .u64 0, .int .u64 0] 26 ?_; intro gb201 hg w7 hbox hb; have BK201 := Aside0.mk (hbox); have GW201 := gw_ HB hg; have GE201 := gw_ HB hg; have NB199_201 := nl_ BK199 hg; have NB201_199 := ng_ BK199 hg; have NB200_201 := nl_ BK200 hg; have NB201_200 := ng_ BK200 hg; replace BK199 := bb_ BK199 hb; replace BK200 := bb_ BK200 hb; replace HB := bs_ HB hb; clear hb hbox hg))
 replace BK199 := Aside0.mk (blk_drew BK199.out)
 replace BK200 := Aside0.mk (blk_drew BK200.out)
 replace BK201 := Aside0.mk (blk_drew BK201.out)
 replace HB := Aside0.mk (below_drew1 HB.out)
 refine start_ (n := 12) (S := fun w' => w'.cell? ⟨gb199, 0, none⟩ = some (.bool a0_0) ∧ w'.cell? ⟨gb199, 1, none⟩ = some (.int .u64 a0_1) ∧ w'.cell? ⟨gb199, 2, none⟩ = some (.int .u64 a0_2) ∧ w'.cell? ⟨gb199, 3, none⟩ = some (.int .i64 a0_3) ∧ w'.cell? ⟨gb200, 0, none⟩ = some (.int .u64 a1_0) ∧ w'.cell? ⟨gb200, 1, none⟩ = some (.int .u64 a1_1)) (ds := []) (bm_ 12 0) (by kernel_rfl) rfl rfl ⟨kc_ BK199 0, kc_ BK199 1, kc_ BK199 2, kc_ BK199 3, kc_ BK200 0, kc_ BK200 1⟩ (fun hHeld => ?_); refine with_tabW carve_Host.tab1 carve_Host.bits1 (fun HT_ HW_ => ?_)
 generalize w7.drew = w8 at BK199 BK200 BK201 HB hHeld ⊢
 refine pu_ 1 (some 10) (bm_ 12 2) rfl HT_ ⟨by rfl, by intro w'; go_simp; with_reducible rfl⟩ ?_
 refine ta_ 0 (some 9) (bm_ 12 3) rfl HT_ HW_ ⟨by rfl, by rintro w' ⟨s0, s1, s2, s3, s4, s5⟩; go_simp; with_reducible rfl⟩ hHeld ?_
 refine ta_ 2 (some 11) (bm_ 12 7) rfl HT_ HW_ ⟨by rfl, by rintro w' ⟨s0, s1, s2, s3, s4, s5⟩; go_simp; with_reducible rfl⟩ hHeld ?_
 refine ta_ 4 (some 13) (bm_ 12 23) rfl HT_ HW_ ⟨by rfl, by rintro w' ⟨s0, s1, s2, s3, s4, s5⟩; go_simp; with_reducible rfl⟩ hHeld ?_
 refine join_ (σ := Nat) 2 (bm_ 12 1023) (fun s_ => [(12, .int .i64 t202), (14, .tuple #[.agg #[.bool t203, .int .u64 t204, .int .u64 t205, .int .i64 t206], .int .i64 t207]), (6, .pointer (some ⟨s_, 0, none⟩)), (8, .tuple #[.agg #[.bool t203, .int .u64 t204, .int .u64 t205, .int .i64 t206], .int .i64 t207]), (15, .agg #[.bool t203, .int .u64 t204, .int .u64 t205, .int .i64 t206]), (16, .int .i64 t207)]) (fun s_ w' => (w'.cell? ⟨gb199, 0, none⟩ = some (.bool a0_0) ∧ w'.cell? ⟨gb199, 1, none⟩ = some (.int .u64 a0_1) ∧ w'.cell? ⟨gb199, 2, none⟩ = some (.int .u64 a0_2) ∧ w'.cell? ⟨gb199, 3, none⟩ = some (.int .i64 a0_3) ∧ w'.cell? ⟨gb200, 0, none⟩ = some (.int .u64 a1_0) ∧ w'.cell? ⟨gb200, 1, none⟩ = some (.int .u64 a1_1)) ∧ (w'.heap[gb199]? = some (.cells #[.bool a0_0, .int .u64 a0_1, .int .u64 a0_2, .int .i64 a0_3] 28 (0, 0))) ∧ (w'.heap[gb200]? = some (.cells #[.int .u64 a1_0, .int .u64 a1_1] 24 (0, 0))) ∧ (w'.heap[gb201]? = some (.cells #[.bool false, .int .u64 0, .int .u64 0] 26 (0, 0))) ∧ (w'.heap[s_]? = some (.cells #[.bool false, .int .u64 0, .int .u64 0, .int .i64 0] 28 (0, 0))) ∧ (w.heap.size ≤ s_) ∧ (w.heap.size ≤ s_) ∧ (gb199 ≠ s_) ∧ (s_ ≠ gb199) ∧ (gb200 ≠ s_) ∧ (s_ ≠ gb200) ∧ (gb201 ≠ s_) ∧ (s_ ≠ gb201) ∧ (Below w.heap.size w w')) ?_ ?_
 rotate_left
 ·
  intro hCont
  refine two_ (i := 3) (j := 9) (Ni := some 12) (Nj := some 6) (bm_ 12 31) (bm_ 12 535) rfl rfl rfl rfl (two_of HT_.out (by kernel_rfl)) (by decide) (by decide) (fun K hK => ?_) (fun K hK => ?_)
  ·
   skip
   refine gr_ Tryz.func132 #[.agg #[.bool a0_0, .int .u64 a0_1, .int .u64 a0_2]] ?_
   with_reducible refine (addr_Width.calls a0_0 a0_1 a0_2 t202 _ A3.out).mono ?_
   rintro e w9 ⟨rfl, hb⟩
   refine ⟨_, rfl, ?_⟩
   replace BK199 := bb_ BK199 hb
   replace BK200 := bb_ BK200 hb
   replace BK201 := bb_ BK201 hb
   replace HB := bs_ HB hb
   (try clear hb)
   (try clear hb2)
   (try clear hk)
   (try clear hi)
   refine hK.out _ _ ⟨kc_ BK199 0, kc_ BK199 1, kc_ BK199 2, kc_ BK199 3, kc_ BK200 0, kc_ BK200 1⟩ (fun hHeld => ?_)
   clear hK K
   refine norm_ (a' := ?_) ?_ ?_
   rotate_left
   ·
    show Act.put _ (some 12) _ = _
    simp only [Act.put, List.setIfInBounds_toArray, List.set_cons_zero, List.set_cons_succ, i64_w, i32_w]
    rfl
   refine two_ (i := 5) (j := 9) (Ni := some 14) (Nj := some 6) (bm_ 12 63) (bm_ 12 543) rfl rfl rfl rfl (two_of HT_.out (by kernel_rfl)) (by decide) (by decide) (fun K hK => ?_) (fun K hK => ?_)
   ·
    skip
    refine gr_ Tryz.func142 #[.agg #[.bool a0_0, .int .u64 a0_1, .int .u64 a0_2, .int .i64 a0_3], .int .i64 t202, .agg #[.int .u64 a1_0, .int .u64 a1_1]] ?_
    with_reducible refine (carve_Block.calls a0_0 a0_1 a0_2 a0_3 t202 a1_0 a1_1 t203 t204 t205 t206 t207 _ A4.out).mono ?_
    rintro e w10 ⟨rfl, hb⟩
    refine ⟨_, rfl, ?_⟩
    replace BK199 := bb_ BK199 hb
    replace BK200 := bb_ BK200 hb
    replace BK201 := bb_ BK201 hb
    replace HB := bs_ HB hb
    (try clear hb)
    (try clear hb2)
    (try clear hk)
    (try clear hi)
    refine hK.out _ _ ⟨kc_ BK199 0, kc_ BK199 1, kc_ BK199 2, kc_ BK199 3, kc_ BK200 0, kc_ BK200 1⟩ (fun hHeld => ?_)
    clear hK K
    refine norm_ (a' := ?_) ?_ ?_
    rotate_left
    ·
     show Act.put _ (some 14) _ = _
     simp only [Act.put, List.setIfInBounds_toArray, List.set_cons_zero, List.set_cons_succ, i64_w, i32_w]
     rfl
    refine pu_ 6 (some 8) (bm_ 12 127) rfl HT_ ⟨by rfl, by intro w'; go_simp; with_reducible rfl⟩ ?_
    refine pu_ 7 (some 15) (bm_ 12 255) rfl HT_ ⟨by rfl, by intro w'; go_simp; with_reducible rfl⟩ ?_
    refine pu_ 8 (some 16) (bm_ 12 511) rfl HT_ ⟨by rfl, by intro w'; go_simp; with_reducible rfl⟩ ?_
    refine one_ (i := 9) (N := some 6) (bm_ 12 1023) rfl rfl (one_of HT_.out (by kernel_rfl)) (by decide) (fun K hK => ?_)
    refine box_step ?hg (N := 6) ?hd (cs := #[.bool false, .int .u64 0, .int .u64 0, .int .i64 0]) (t := 28) ?hr ?_; (case hd => rfl); (case hg => rfl); (case hr => first | (go_simp; done) | (go_simp; rfl))
    intro gb208 hg w11 hbox hb
    have BK208 := Aside0.mk (hbox)
    have GW208 := gw_ HB hg
    have GE208 := gw_ HB hg
    have NB199_208 := nl_ BK199 hg
    have NB208_199 := ng_ BK199 hg
    have NB200_208 := nl_ BK200 hg
    have NB208_200 := ng_ BK200 hg
    have NB201_208 := nl_ BK201 hg
    have NB208_201 := ng_ BK201 hg
    replace BK199 := bb_ BK199 hb
    replace BK200 := bb_ BK200 hb
    replace BK201 := bb_ BK201 hb
    replace HB := bs_ HB hb
    clear hb hbox hg
    refine hK.out _ _ ⟨kc_ BK199 0, kc_ BK199 1, kc_ BK199 2, kc_ BK199 3, kc_ BK200 0, kc_ BK200 1⟩ (fun hHeld => ?_)
    clear hK K
    refine norm_ (a' := ?_) ?_ ?_
    rotate_left
    ·
     show Act.put _ (some 6) _ = _
     simp only [Act.put, List.setIfInBounds_toArray, List.set_cons_zero, List.set_cons_succ, i64_w, i32_w]
     rfl
    exact norm_ (by simp only [putAll, Act.put, List.setIfInBounds_toArray, List.set_cons_zero, List.set_cons_succ]) (hCont (gb208) _ ⟨hHeld, (pk_ BK199), (pk_ BK200), (pk_ BK201), (pk_ BK208), GW208.out, GE208.out, NB199_208.out, NB208_199.out, NB200_208.out, NB208_200.out, NB201_208.out, NB208_201.out, (pb_ HB)⟩)
   ·
    skip
    refine box_step ?hg (N := 6) ?hd (cs := #[.bool false, .int .u64 0, .int .u64 0, .int .i64 0]) (t := 28) ?hr ?_; (case hd => rfl); (case hg => rfl); (case hr => first | (go_simp; done) | (go_simp; rfl))
    intro gb208 hg w10 hbox hb
    have BK208 := Aside0.mk (hbox)
    have GW208 := gw_ HB hg
    have GE208 := gw_ HB hg
    have NB199_208 := nl_ BK199 hg
    have NB208_199 := ng_ BK199 hg
    have NB200_208 := nl_ BK200 hg
    have NB208_200 := ng_ BK200 hg
    have NB201_208 := nl_ BK201 hg
    have NB208_201 := ng_ BK201 hg
    replace BK199 := bb_ BK199 hb
    replace BK200 := bb_ BK200 hb
    replace BK201 := bb_ BK201 hb
    replace HB := bs_ HB hb
    clear hb hbox hg
    refine hK.out _ _ ⟨kc_ BK199 0, kc_ BK199 1, kc_ BK199 2, kc_ BK199 3, kc_ BK200 0, kc_ BK200 1⟩ (fun hHeld => ?_)
    clear hK K
    refine norm_ (a' := ?_) ?_ ?_
    rotate_left
    ·
     show Act.put _ (some 6) _ = _
     simp only [Act.put, List.setIfInBounds_toArray, List.set_cons_zero, List.set_cons_succ, i64_w, i32_w]
     rfl
    refine one_ (i := 5) (N := some 14) (bm_ 12 575) rfl rfl (one_of HT_.out (by kernel_rfl)) (by decide) (fun K hK => ?_)
    refine gr_ Tryz.func142 #[.agg #[.bool a0_0, .int .u64 a0_1, .int .u64 a0_2, .int .i64 a0_3], .int .i64 t202, .agg #[.int .u64 a1_0, .int .u64 a1_1]] ?_
    with_reducible refine (carve_Block.calls a0_0 a0_1 a0_2 a0_3 t202 a1_0 a1_1 t203 t204 t205 t206 t207 _ A4.out).mono ?_
    rintro e w11 ⟨rfl, hb⟩
    refine ⟨_, rfl, ?_⟩
    replace BK199 := bb_ BK199 hb
    replace BK200 := bb_ BK200 hb
    replace BK201 := bb_ BK201 hb
    replace BK208 := bb_ BK208 hb
    replace HB := bs_ HB hb
    (try clear hb)
    (try clear hb2)
    (try clear hk)
    (try clear hi)
    refine hK.out _ _ ⟨kc_ BK199 0, kc_ BK199 1, kc_ BK199 2, kc_ BK199 3, kc_ BK200 0, kc_ BK200 1⟩ (fun hHeld => ?_)
    clear hK K
    refine norm_ (a' := ?_) ?_ ?_
    rotate_left
    ·
     show Act.put _ (some 14) _ = _
     simp only [Act.put, List.setIfInBounds_toArray, List.set_cons_zero, List.set_cons_succ, i64_w, i32_w]
     rfl
    refine pu_ 6 (some 8) (bm_ 12 639) rfl HT_ ⟨by rfl, by intro w'; go_simp; with_reducible rfl⟩ ?_
    refine pu_ 7 (some 15) (bm_ 12 767) rfl HT_ ⟨by rfl, by intro w'; go_simp; with_reducible rfl⟩ ?_
    refine pu_ 8 (some 16) (bm_ 12 1023) rfl HT_ ⟨by rfl, by intro w'; go_simp; with_reducible rfl⟩ ?_
    exact norm_ (by simp only [putAll, Act.put, List.setIfInBounds_toArray, List.set_cons_zero, List.set_cons_succ]) (hCont (gb208) _ ⟨hHeld, (pk_ BK199), (pk_ BK200), (pk_ BK201), (pk_ BK208), GW208.out, GE208.out, NB199_208.out, NB208_199.out, NB200_208.out, NB208_200.out, NB201_208.out, NB208_201.out, (pb_ HB)⟩)
  ·
   skip
   refine box_step ?hg (N := 6) ?hd (cs := #[.bool false, .int .u64 0, .int .u64 0, .int .i64 0]) (t := 28) ?hr ?_; (case hd => rfl); (case hg => rfl); (case hr => first | (go_simp; done) | (go_simp; rfl))
   intro gb208 hg w9 hbox hb
   have BK208 := Aside0.mk (hbox)
   have GW208 := gw_ HB hg
   have GE208 := gw_ HB hg
   have NB199_208 := nl_ BK199 hg
   have NB208_199 := ng_ BK199 hg
   have NB200_208 := nl_ BK200 hg
   have NB208_200 := ng_ BK200 hg
   have NB201_208 := nl_ BK201 hg
   have NB208_201 := ng_ BK201 hg
   replace BK199 := bb_ BK199 hb
   replace BK200 := bb_ BK200 hb
   replace BK201 := bb_ BK201 hb
   replace HB := bs_ HB hb
   clear hb hbox hg
   refine hK.out _ _ ⟨kc_ BK199 0, kc_ BK199 1, kc_ BK199 2, kc_ BK199 3, kc_ BK200 0, kc_ BK200 1⟩ (fun hHeld => ?_)
   clear hK K
   refine norm_ (a' := ?_) ?_ ?_
   rotate_left
   ·
    show Act.put _ (some 6) _ = _
    simp only [Act.put, List.setIfInBounds_toArray, List.set_cons_zero, List.set_cons_succ, i64_w, i32_w]
    rfl
   refine one_ (i := 3) (N := some 12) (bm_ 12 543) rfl rfl (one_of HT_.out (by kernel_rfl)) (by decide) (fun K hK => ?_)
   refine gr_ Tryz.func132 #[.agg #[.bool a0_0, .int .u64 a0_1, .int .u64 a0_2]] ?_
   with_reducible refine (addr_Width.calls a0_0 a0_1 a0_2 t202 _ A3.out).mono ?_
   rintro e w10 ⟨rfl, hb⟩
   refine ⟨_, rfl, ?_⟩
   replace BK199 := bb_ BK199 hb
   replace BK200 := bb_ BK200 hb
   replace BK201 := bb_ BK201 hb
   replace BK208 := bb_ BK208 hb
   replace HB := bs_ HB hb
   (try clear hb)
   (try clear hb2)
   (try clear hk)
   (try clear hi)
   refine hK.out _ _ ⟨kc_ BK199 0, kc_ BK199 1, kc_ BK199 2, kc_ BK199 3, kc_ BK200 0, kc_ BK200 1⟩ (fun hHeld => ?_)
   clear hK K
   refine norm_ (a' := ?_) ?_ ?_
   rotate_left
   ·
    show Act.put _ (some 12) _ = _
    simp only [Act.put, List.setIfInBounds_toArray, List.set_cons_zero, List.set_cons_succ, i64_w, i32_w]
    rfl
   refine one_ (i := 5) (N := some 14) (bm_ 12 575) rfl rfl (one_of HT_.out (by kernel_rfl)) (by decide) (fun K hK => ?_)
   refine gr_ Tryz.func142 #[.agg #[.bool a0_0, .int .u64 a0_1, .int .u64 a0_2, .int .i64 a0_3], .int .i64 t202, .agg #[.int .u64 a1_0, .int .u64 a1_1]] ?_
   with_reducible refine (carve_Block.calls a0_0 a0_1 a0_2 a0_3 t202 a1_0 a1_1 t203 t204 t205 t206 t207 _ A4.out).mono ?_
   rintro e w11 ⟨rfl, hb⟩
   refine ⟨_, rfl, ?_⟩
   replace BK199 := bb_ BK199 hb
   replace BK200 := bb_ BK200 hb
   replace BK201 := bb_ BK201 hb
   replace BK208 := bb_ BK208 hb
   replace HB := bs_ HB hb
   (try clear hb)
   (try clear hb2)
   (try clear hk)
   (try clear hi)
   refine hK.out _ _ ⟨kc_ BK199 0, kc_ BK199 1, kc_ BK199 2, kc_ BK199 3, kc_ BK200 0, kc_ BK200 1⟩ (fun hHeld => ?_)
   clear hK K
   refine norm_ (a' := ?_) ?_ ?_
   rotate_left
   ·
    show Act.put _ (some 14) _ = _
    simp only [Act.put, List.setIfInBounds_toArray, List.set_cons_zero, List.set_cons_succ, i64_w, i32_w]
    rfl
   refine pu_ 6 (some 8) (bm_ 12 639) rfl HT_ ⟨by rfl, by intro w'; go_simp; with_reducible rfl⟩ ?_
   refine pu_ 7 (some 15) (bm_ 12 767) rfl HT_ ⟨by rfl, by intro w'; go_simp; with_reducible rfl⟩ ?_
   refine pu_ 8 (some 16) (bm_ 12 1023) rfl HT_ ⟨by rfl, by intro w'; go_simp; with_reducible rfl⟩ ?_
   exact norm_ (by simp only [putAll, Act.put, List.setIfInBounds_toArray, List.set_cons_zero, List.set_cons_succ]) (hCont (gb208) _ ⟨hHeld, (pk_ BK199), (pk_ BK200), (pk_ BK201), (pk_ BK208), GW208.out, GE208.out, NB199_208.out, NB208_199.out, NB200_208.out, NB208_200.out, NB201_208.out, NB208_201.out, (pb_ HB)⟩)
 rintro gb208 w12 ⟨hS_, h0_, h1_, h2_, h3_, h4_, h5_, h6_, h7_, h8_, h9_, h10_, h11_, h12_⟩
 have n0_ : Aside0 (w12.heap[gb199]? = some (.cells #[.bool a0_0, .int .u64 a0_1, .int .u64 a0_2, .int .i64 a0_3] 28 (0, 0))) := ⟨h0_⟩
 have n1_ : Aside0 (w12.heap[gb200]? = some (.cells #[.int .u64 a1_0, .int .u64 a1_1] 24 (0, 0))) := ⟨h1_⟩
 have n2_ : Aside0 (w12.heap[gb201]? = some (.cells #[.bool false, .int .u64 0, .int .u64 0] 26 (0, 0))) := ⟨h2_⟩
 have n3_ : Aside0 (w12.heap[gb208]? = some (.cells #[.bool false, .int .u64 0, .int .u64 0, .int .i64 0] 28 (0, 0))) := ⟨h3_⟩
 have n4_ : Aside0 (w.heap.size ≤ gb208) := ⟨h4_⟩
 have n5_ : Aside0 (w.heap.size ≤ gb208) := ⟨h5_⟩
 have n6_ : Aside0 (gb199 ≠ gb208) := ⟨h6_⟩
 have n7_ : Aside0 (gb208 ≠ gb199) := ⟨h7_⟩
 have n8_ : Aside0 (gb200 ≠ gb208) := ⟨h8_⟩
 have n9_ : Aside0 (gb208 ≠ gb200) := ⟨h9_⟩
 have n10_ : Aside0 (gb201 ≠ gb208) := ⟨h10_⟩
 have n11_ : Aside0 (gb208 ≠ gb201) := ⟨h11_⟩
 have n12_ : Aside0 (Below w.heap.size w w12) := ⟨h12_⟩
 clear BK199
 clear BK200
 clear BK201
 clear HB
 clear h0_ h1_ h2_ h3_ h4_ h5_ h6_ h7_ h8_ h9_ h10_ h11_ h12_
 have BK199 := n0_
 have BK200 := n1_
 have BK201 := n2_
 have BK208 := n3_
 have GW208 := n4_
 have GE208 := n5_
 have NB199_208 := n6_
 have NB208_199 := n7_
 have NB200_208 := n8_
 have NB208_200 := n9_
 have NB201_208 := n10_
 have NB208_201 := n11_
 have HB := n12_
 clear n0_ n1_ n2_ n3_ n4_ n5_ n6_ n7_ n8_ n9_ n10_ n11_ n12_
 have hHeld : w12.cell? ⟨gb199, 0, none⟩ = some (.bool a0_0) ∧ w12.cell? ⟨gb199, 1, none⟩ = some (.int .u64 a0_1) ∧ w12.cell? ⟨gb199, 2, none⟩ = some (.int .u64 a0_2) ∧ w12.cell? ⟨gb199, 3, none⟩ = some (.int .i64 a0_3) ∧ w12.cell? ⟨gb200, 0, none⟩ = some (.int .u64 a1_0) ∧ w12.cell? ⟨gb200, 1, none⟩ = some (.int .u64 a1_1) := hS_
 refine norm_ (a' := ?_) ?_ ?_
 rotate_left
 ·
  simp only [putAll, Act.put, List.setIfInBounds_toArray, List.set_cons_zero, List.set_cons_succ]
  rfl
 refine one_ (i := 10) (N := none) (bm_ 12 2047) rfl rfl (one_of HT_.out (by kernel_rfl)) (by decide) (fun K hK => ?_)
 have hs13 : w12.cell? ⟨gb208, 0, none⟩ = some (.bool false) := kc_ BK208 0
 have hfs13 := blk_frozen BK208.out 0
 have hns13_0 := NB199_208.out
 have hns13_1 := NB200_208.out
 have hns13_2 := NB201_208.out
 have hms13_0 := NB208_199.out
 have hms13_1 := NB208_200.out
 have hms13_2 := NB208_201.out
 have hs14 : w12.cell? ⟨gb208, 1, none⟩ = some (.int .u64 0) := kc_ BK208 1
 have hfs14 := blk_frozen BK208.out 1
 have hns14_0 := NB199_208.out
 have hns14_1 := NB200_208.out
 have hns14_2 := NB201_208.out
 have hms14_0 := NB208_199.out
 have hms14_1 := NB208_200.out
 have hms14_2 := NB208_201.out
 have hs15 : w12.cell? ⟨gb208, 2, none⟩ = some (.int .u64 0) := kc_ BK208 2
 have hfs15 := blk_frozen BK208.out 2
 have hns15_0 := NB199_208.out
 have hns15_1 := NB200_208.out
 have hns15_2 := NB201_208.out
 have hms15_0 := NB208_199.out
 have hms15_1 := NB208_200.out
 have hms15_2 := NB208_201.out
 have hs16 : w12.cell? ⟨gb208, 3, none⟩ = some (.int .i64 0) := kc_ BK208 3
 have hfs16 := blk_frozen BK208.out 3
 have hns16_0 := NB199_208.out
 have hns16_1 := NB200_208.out
 have hns16_2 := NB201_208.out
 have hms16_0 := NB208_199.out
 have hms16_1 := NB208_200.out
 have hms16_2 := NB208_201.out
 refine skip_ (w1 := ?_) (by rfl) rfl ?_ ?_
 rotate_left
 ·
  go_simp
  rfl
 refine hK.out _ _ ⟨((cell_far (p := ⟨gb208, _, none⟩) NB199_208.out _).trans (((cell_far (p := ⟨gb208, _, none⟩) NB199_208.out _).trans (((cell_far (p := ⟨gb208, _, none⟩) NB199_208.out _).trans (((cell_far (p := ⟨gb208, _, none⟩) NB199_208.out _).trans (hHeld.1)))))))), ((cell_far (p := ⟨gb208, _, none⟩) NB199_208.out _).trans (((cell_far (p := ⟨gb208, _, none⟩) NB199_208.out _).trans (((cell_far (p := ⟨gb208, _, none⟩) NB199_208.out _).trans (((cell_far (p := ⟨gb208, _, none⟩) NB199_208.out _).trans (hHeld.2.1)))))))), ((cell_far (p := ⟨gb208, _, none⟩) NB199_208.out _).trans (((cell_far (p := ⟨gb208, _, none⟩) NB199_208.out _).trans (((cell_far (p := ⟨gb208, _, none⟩) NB199_208.out _).trans (((cell_far (p := ⟨gb208, _, none⟩) NB199_208.out _).trans (hHeld.2.2.1)))))))), ((cell_far (p := ⟨gb208, _, none⟩) NB199_208.out _).trans (((cell_far (p := ⟨gb208, _, none⟩) NB199_208.out _).trans (((cell_far (p := ⟨gb208, _, none⟩) NB199_208.out _).trans (((cell_far (p := ⟨gb208, _, none⟩) NB199_208.out _).trans (hHeld.2.2.2.1)))))))), ((cell_far (p := ⟨gb208, _, none⟩) NB200_208.out _).trans (((cell_far (p := ⟨gb208, _, none⟩) NB200_208.out _).trans (((cell_far (p := ⟨gb208, _, none⟩) NB200_208.out _).trans (((cell_far (p := ⟨gb208, _, none⟩) NB200_208.out _).trans (hHeld.2.2.2.2.1)))))))), ((cell_far (p := ⟨gb208, _, none⟩) NB200_208.out _).trans (((cell_far (p := ⟨gb208, _, none⟩) NB200_208.out _).trans (((cell_far (p := ⟨gb208, _, none⟩) NB200_208.out _).trans (((cell_far (p := ⟨gb208, _, none⟩) NB200_208.out _).trans (hHeld.2.2.2.2.2))))))))⟩ (fun hHeld => ?_)
 clear hK K
 refine pu_ 11 (some 7) (bm_ 12 4095) rfl HT_ ⟨by rfl, by intro w'; go_simp; with_reducible rfl⟩ ?_
 refine done_ (done_of HT_.out (by kernel_rfl)) ?_
 have hnb17 := NB208_199.out
 have hnc17 := NB199_208.out
 have hnb18 := NB208_200.out
 have hnc18 := NB200_208.out
 have hnb19 := NB208_201.out
 have hnc19 := NB201_208.out
 obtain ⟨hcz20_0, hcz20_1, hcz20_2, hcz20_3, hfz20_0, hfz20_1, hfz20_2, hfz20_3⟩ := c4_ BK208
 have hnb21 := NB201_199.out
 have hnc21 := NB199_201.out
 have hnb22 := NB201_200.out
 have hnc22 := NB200_201.out
 obtain ⟨hcz23_0, hcz23_1, hcz23_2, hfz23_0, hfz23_1, hfz23_2⟩ := c3_ BK201
 try go_wp2
 refine bodyPost_ret (results_ct rfl _ _ gb201 26 #[.bool t203, .int .u64 t204, .int .u64 t205] (0, 0) _ rfl (by refine pw_ ?_; refine blk_put (cs := #[.bool t203, .int .u64 t204, .int .u64 0]) ?_ 2 _ rfl; refine pw_ ?_; refine blk_put (cs := #[.bool t203, .int .u64 0, .int .u64 0]) ?_ 1 _ rfl; refine pw_ ?_; refine blk_put (cs := #[.bool false, .int .u64 0, .int .u64 0]) ?_ 0 _ rfl; refine pw_ ?_; refine blk_far ?_ NB201_208.out _; refine pw_ ?_; refine blk_far ?_ NB201_208.out _; refine pw_ ?_; refine blk_far ?_ NB201_208.out _; refine pw_ ?_; refine blk_far ?_ NB201_208.out _; refine pw_ ?_; exact BK201.out) Tryz.underlying26 rfl (by kernel_rfl)) rfl ?_
 exact ⟨by first | rfl | (simp [errW_none, errW_some] <;> rfl) | (simp [*, errW_none, errW_some] <;> rfl), pb_ HB⟩

end Go.Proofs.YtpfilldnfpcpkaaGreatDoor.PPo

namespace Go.Proofs.YtpfilldnfpcpkaaGreatDoor.PPo
open Go.RowKit Go.Proofs.YtpfilldnfpcpkaaGreatDoorW.PrintWords Go.Proofs.YtpfilldnfpcpkaaGreatDoorW.PrintLast Go.Proofs.YtpfilldnfpcpkaaGreatDoorW.PrintMore
attribute [local go_sem] max2_int min2_int max_two min_two max_three min_three max_four min_four   -- for this text's walks alone

end Go.Proofs.YtpfilldnfpcpkaaGreatDoor.PPo

namespace Go.Proofs.YtpfilldnfpcpkaaGreatDoor.PPo
open Go.RowKit Go.Proofs.YtpfilldnfpcpkaaGreatDoorW.PrintWords Go.Proofs.YtpfilldnfpcpkaaGreatDoorW.PrintLast Go.Proofs.YtpfilldnfpcpkaaGreatDoorW.PrintMore
attribute [local go_sem] max2_int min2_int max_two min_two max_three min_three max_four min_four   -- for this text's walks alone

attribute [local go_sem high] eqA26
end Go.Proofs.YtpfilldnfpcpkaaGreatDoor.PPo

namespace Go.Proofs.YtpfilldnfpcpkaaGreatDoor.PPo
open Go.RowKit Go.Proofs.YtpfilldnfpcpkaaGreatDoorW.PrintWords Go.Proofs.YtpfilldnfpcpkaaGreatDoorW.PrintLast Go.Proofs.YtpfilldnfpcpkaaGreatDoorW.PrintMore
attribute [local go_sem] max2_int min2_int max_two min_two max_three min_three max_four min_four   -- for this text's walks alone

end Go.Proofs.YtpfilldnfpcpkaaGreatDoor.PPo

namespace Go.Proofs.YtpfilldnfpcpkaaGreatDoor.PPo
open Go.RowKit Go.Proofs.YtpfilldnfpcpkaaGreatDoorW.PrintWords Go.Proofs.YtpfilldnfpcpkaaGreatDoorW.PrintLast Go.Proofs.YtpfilldnfpcpkaaGreatDoorW.PrintMore
attribute [local go_sem] max2_int min2_int max_two min_two max_three min_three max_four min_four   -- for this text's walks alone

attribute [local go_sem high] eqA28
end Go.Proofs.YtpfilldnfpcpkaaGreatDoor.PPo

namespace Go.Proofs.YtpfilldnfpcpkaaGreatDoor
open Go.RowKit

theorem some_ne {a b : Nat} (h : a ≠ b) : some a ≠ some b := fun e => h (by cases e; rfl)
/-- how many addresses a pool with so many free bits looks after -/
def cntP (F : Nat) : Nat := if 16 < F then 65536 else 2 ^ F
theorem cntP_le (F : Nat) : cntP F ≤ 65536 := by
  unfold cntP; split
  · exact Nat.le_refl _
  · exact Nat.pow_le_pow_right (n := 2) (i := F) (j := 16) (by decide) (by omega)
theorem cntP_pow (F : Nat) : cntP F ≤ 2 ^ F := by
  unfold cntP; split
  · exact Nat.pow_le_pow_right (n := 2) (i := 16) (j := F) (by decide) (by omega)
  · exact Nat.le_refl _
theorem cntP_ge {F : Nat} (h : 2 ≤ F) : 4 ≤ cntP F := by
  unfold cntP; split
  · decide
  · exact Nat.pow_le_pow_right (n := 2) (i := 2) (j := F) (by decide) h
theorem cntP_small {F : Nat} (h : F < 2) : cntP F < 4 := by
  unfold cntP; rw [if_neg (by omega)]
  rcases F with _ | _ | F
  · decide
  · decide
  · omega
/-- is an address kept at the end? -/
def endK (v : Bool) (F : Nat) : Bool := !v && decide (F ≤ 16)
/-- is a number never given? -/
def kept (v : Bool) (F i : Nat) : Bool := i == 0 || (endK v F && i + 1 == cntP F)
theorem cnt_add {f : Nat → Bool} {x n : Nat} (hx : x < n) (hf : f x = false) : cnt (upd f x true) 0 n = cnt f 0 n + 1 := by
  rw [show n = x + (1 + (n - (x + 1))) from by omega, cnt_join, cnt_join, cnt_join f, cnt_join f]
  have e1 : cnt (upd f x true) 0 x = cnt f 0 x := cnt_congr fun y _ h => if_neg (by omega)
  have e2 : cnt (upd f x true) (0 + x + 1) (n - (x + 1)) = cnt f (0 + x + 1) (n - (x + 1)) := cnt_congr fun y h _ => if_neg (by omega)
  rw [e1, e2]
  simp [cnt, upd, hf]
  omega
theorem cnt_list {f : Nat → Bool} {n : Nat} : ∀ (us : List Nat), us.Nodup → (∀ x ∈ us, x < n ∧ f x = false) → cnt (fun i => f i || us.contains i) 0 n = cnt f 0 n + us.length := by
  intro us
  induction us with
  | nil => intro _ _; simp
  | cons a us ih =>
    intro hn hx
    obtain ⟨ha, hn⟩ := List.nodup_cons.1 hn
    have h1 := ih hn fun x h => hx x (List.mem_cons_of_mem _ h)
    have e : (fun i => f i || (a :: us).contains i) = upd (fun i => f i || us.contains i) a true := by
      funext i
      unfold upd
      by_cases h : i = a
      · subst h; simp
      · rw [if_neg h]; simp [h]
    rw [e, cnt_add (hx a (by simp)).1 (by simp [(hx a (by simp)).2, ha]), h1, List.length_cons]
    omega
theorem cnt_kept (v : Bool) {F : Nat} (h : 2 ≤ F) : cnt (kept v F) 0 (cntP F) = 1 + (if endK v F = true then 1 else 0) := by
  have hN := cntP_ge h
  have e0 : cnt (fun _ : Nat => false) 0 (cntP F) = 0 := cnt_none fun _ _ _ => rfl
  have e1 := cnt_add (f := fun _ => false) (x := 0) (n := cntP F) (by omega) rfl
  by_cases hk : endK v F = true
  · have e2 := cnt_add (f := upd (fun _ => false) 0 true) (x := cntP F - 1) (n := cntP F) (by omega) (by unfold upd; rw [if_neg (by omega)])
    have e : kept v F = upd (upd (fun _ => false) 0 true) (cntP F - 1) true := by
      funext i
      unfold kept upd
      by_cases h1 : i = cntP F - 1
      · rw [if_pos h1, hk]; subst h1
        have : cntP F - 1 + 1 = cntP F := by omega
        simp [this]
      · rw [if_neg h1, hk]
        by_cases h2 : i = 0
        · subst h2; simp
        · rw [if_neg h2]
          have : i + 1 ≠ cntP F := by omega
          simp [h2, this]
    rw [if_pos hk, e, e2, e1, e0]
  · have e : kept v F = upd (fun _ => false) 0 true := by
      funext i
      unfold kept upd
      rw [Bool.not_eq_true] at hk
      rw [hk]
      by_cases h2 : i = 0
      · subst h2; simp
      · rw [if_neg h2]; simp [h2]
    rw [if_neg hk, e, e1, e0]
/-- the program's bits tell the reference's list -/
structure Told (v : Bool) (F : Nat) (f : Nat → Bool) (us : List Nat) : Prop where
  nodup : us.Nodup
  may : ∀ x ∈ us, x < cntP F ∧ kept v F x = false
  bits : ∀ i, i < cntP F → f i = (kept v F i || us.contains i)
theorem Told.count {v : Bool} {F : Nat} {f : Nat → Bool} {us : List Nat} (hF : 2 ≤ F) (h : Told v F f us) : cnt f 0 (cntP F) = us.length + 1 + (if endK v F = true then 1 else 0) := by
  have e : cnt f 0 (cntP F) = cnt (fun i => kept v F i || us.contains i) 0 (cntP F) := cnt_congr fun i _ hi => h.bits i (by omega)
  rw [e, cnt_list us h.nodup h.may, cnt_kept v hF]; omega
theorem Told.take {v : Bool} {F : Nat} {f : Nat → Bool} {us : List Nat} (h : Told v F f us) {i : Nat} (hi : i < cntP F) (hf : f i = false) : Told v F (upd f i true) (us ++ [i]) := by
  have hb := h.bits i hi
  rw [hf] at hb
  have hb := hb.symm
  rw [Bool.or_eq_false_iff] at hb
  have hni : ¬ i ∈ us := by simpa using hb.2
  refine ⟨?_, ?_, ?_⟩
  · rw [List.nodup_append]
    refine ⟨h.nodup, by simp, ?_⟩
    intro a ha b hb' e
    subst e
    rw [List.mem_singleton] at hb'
    subst hb'
    exact hni ha
  · intro x hx
    rw [List.mem_append, List.mem_singleton] at hx
    rcases hx with hx | rfl
    · exact h.may x hx
    · exact ⟨hi, hb.1⟩
  · intro j hj
    unfold upd
    by_cases e : j = i
    · subst e; rw [if_pos rfl]; simp
    · rw [if_neg e, h.bits j hj]; simp [e]
theorem Told.free {v : Bool} {F : Nat} {f : Nat → Bool} {us : List Nat} (h : Told v F f us) {i : Nat} (hk : kept v F i = false) : Told v F (upd f i false) (us.filter fun x => x != i) := by
  refine ⟨h.nodup.filter _, ?_, ?_⟩
  · intro x hx
    exact h.may x (List.mem_filter.1 hx).1
  · intro j hj
    unfold upd
    by_cases e : j = i
    · subst e
      rw [if_pos rfl, hk]
      simp
    · rw [if_neg e, h.bits j hj]
      congr 1
      rw [Bool.eq_iff_iff]
      simp [e]
end Go.Proofs.YtpfilldnfpcpkaaGreatDoor

namespace Go.Proofs.YtpfilldnfpcpkaaGreatDoor.PPo
open Go.RowKit Go.Proofs.YtpfilldnfpcpkaaGreatDoorW.PrintWords Go.Proofs.YtpfilldnfpcpkaaGreatDoorW.PrintLast Go.Proofs.YtpfilldnfpcpkaaGreatDoorW.PrintMore
attribute [local go_sem] max2_int min2_int max_two min_two max_three min_three max_four min_four   -- for this text's walks alone

end Go.Proofs.YtpfilldnfpcpkaaGreatDoor.PPo

namespace Go.Proofs.YtpfilldnfpcpkaaGreatDoor.PPo
open Go.RowKit Go.Proofs.YtpfilldnfpcpkaaGreatDoorW.PrintWords Go.Proofs.YtpfilldnfpcpkaaGreatDoorW.PrintLast Go.Proofs.YtpfilldnfpcpkaaGreatDoorW.PrintMore
attribute [local go_sem] max2_int min2_int max_two min_two max_three min_three max_four min_four   -- for this text's walks alone

end Go.Proofs.YtpfilldnfpcpkaaGreatDoor.PPo

namespace Go.Proofs.YtpfilldnfpcpkaaGreatDoor
open Go.RowKit Go.Proofs.YtpfilldnfpcpkaaGreatDoorW.PrintWords Go.Proofs.YtpfilldnfpcpkaaGreatDoor.PPo

theorem w64 {i : Int} (h0 : -9223372036854775808 ≤ i) (h : i < 9223372036854775808) : wrap64 i = i := by unfold wrap64; omega
theorem widthN_le (v : Bool) : widthN v ≤ 128 := by cases v <;> decide
end Go.Proofs.YtpfilldnfpcpkaaGreatDoor

namespace Go.Proofs.YtpfilldnfpcpkaaGreatDoor
open Go.RowKit Go.Proofs.YtpfilldnfpcpkaaGreatDoorW.PrintWords Go.Proofs.YtpfilldnfpcpkaaGreatDoor.PPo

/-- as a rewriting step, not by computation -/
theorem bsome {α β : Type} (x : α) (f : α → Option β) : (some x).bind f = f x := by
  have h : ∀ y : Option α, y = some x → y.bind f = f x := by intro y hy; subst hy; rfl
  exact h _ rfl
theorem aright_hl (v : Bool) {n : Nat} (hn : n < 340282366920938463463374607431768211456) : addr_Right.f v (hi n) (lo n) = some (rightB v n) := by
  unfold addr_Right.f; rw [if_pos (okW_hl n), num_hi_lo hn]
theorem awidth_hl (v : Bool) (n : Nat) : addr_Width.f v (hi n) (lo n) = some ((widthN v : Nat) : Int) := by
  unfold addr_Width.f; rw [if_pos (okW_hl n)]
theorem pright_hl (v : Bool) {n : Nat} (b : Int) (hn : n < 340282366920938463463374607431768211456) : prefix_Right.f v (hi n) (lo n) b = some (rightP v n b) := by
  unfold prefix_Right.f; rw [if_pos (okW_hl n), num_hi_lo hn]
theorem free_hl (v : Bool) (n : Nat) {b : Int} (h0 : 0 ≤ b) (h1 : b ≤ (widthN v : Int)) : prefix_free.f v (hi n) (lo n) b = some (hi (2 ^ fr v b - 1), lo (2 ^ fr v b - 1)) := by
  unfold prefix_free.f; rw [okW_hl, decide_eq_true h0, decide_eq_true h1]; rfl
theorem not_hl {n : Nat} (hn : n < 340282366920938463463374607431768211456) : num_Not.f (hi n) (lo n) = some (hi (notN n), lo (notN n)) := by
  unfold num_Not.f; rw [if_pos (okW_hl n), num_hi_lo hn]
theorem and_hl {n m : Nat} (hn : n < 340282366920938463463374607431768211456) (hm : m < 340282366920938463463374607431768211456) : num_And.f (hi n) (lo n) (hi m) (lo m) = some (hi (n &&& m), lo (n &&& m)) := by
  unfold num_And.f; rw [okW_hl, okW_hl, num_hi_lo hn, num_hi_lo hm]; rfl
theorem or_hl {n m : Nat} (hn : n < 340282366920938463463374607431768211456) (hm : m < 340282366920938463463374607431768211456) : num_Or.f (hi n) (lo n) (hi m) (lo m) = some (hi (n ||| m), lo (n ||| m)) := by
  unfold num_Or.f; rw [okW_hl, okW_hl, num_hi_lo hn, num_hi_lo hm]; rfl
theorem hl_eq {a b : Nat} (ha : a < 340282366920938463463374607431768211456) (hb : b < 340282366920938463463374607431768211456) : (hi a == hi b && lo a == lo b) = (a == b) := by
  rw [Bool.eq_iff_iff]; simp only [Bool.and_eq_true, beq_iff_eq]; exact hi_lo_eq ha hb
theorem rightP_iff {v : Bool} {n : Nat} {b : Int} : rightP v n b = true ↔ n < 2 ^ widthN v ∧ 0 ≤ b ∧ b ≤ (widthN v : Int) ∧ n % 2 ^ fr v b = 0 := by
  unfold rightP rightB; simp
theorem rightB_iff {v : Bool} {n : Nat} : rightB v n = true ↔ n < 2 ^ widthN v := by unfold rightB; simp
theorem pow_w (v : Bool) : 2 ^ widthN v ≤ 340282366920938463463374607431768211456 := by cases v <;> decide
theorem top_lt {f n : Nat} (hn : n < 340282366920938463463374607431768211456) : topN f n < 340282366920938463463374607431768211456 := Nat.lt_of_le_of_lt (topN_le f n) hn
def ofS (v : Bool) (n : Nat) (b : Int) : Bool × Nat × Int × Int := if rightB v n = true ∧ 0 ≤ b ∧ b ≤ (widthN v : Int) then (v, topN (fr v b) n, b, 0) else (false, 0, 0, 1)
def tup5 (x : Bool × Nat × Int × Int) : Bool × Int × Int × Int × Int := (x.1, hi x.2.1, lo x.2.1, x.2.2.1, x.2.2.2)
theorem hi00 : hi 0 = 0 := rfl
theorem lo00 : lo 0 = 0 := rfl
theorem fr_lt (v : Bool) (b : Int) : 2 ^ fr v b - 1 < 340282366920938463463374607431768211456 := pow_fr v b
theorem of_f (K : Nat) (hK : 1 ≤ K) (v : Bool) (n : Nat) (b : Int) (hn : n < 340282366920938463463374607431768211456) : prefix_Of.f K v (hi n) (lo n) b = some (tup5 (ofS v n b)) := by
  obtain ⟨k, rfl⟩ : ∃ k, K = k + 1 := ⟨K - 1, by omega⟩
  unfold prefix_Of.f ofS
  rw [aright_hl v hn]
  simp only [bsome]
  cases hr : rightB v n
  · rw [if_neg (by simp), if_neg (by simp), prefix_Of.j0, if_pos rfl]; rfl
  · rw [if_pos rfl]
    by_cases h0 : b < 0
    · rw [if_pos h0, if_neg (by omega), prefix_Of.j0, if_pos rfl]; rfl
    · rw [if_neg h0, awidth_hl]
      simp only [bsome]
      by_cases h1 : b ≤ (widthN v : Int)
      · rw [if_pos ⟨trivial, by omega, h1⟩, prefix_Of.j0, if_neg (by simp; omega), free_hl v n (by omega) h1]
        simp only [bsome]
        have hf := fr_lt v b
        have hnn : notN (2 ^ fr v b - 1) < 340282366920938463463374607431768211456 := by unfold notN; omega
        rw [not_hl hf]
        simp only [bsome]
        rw [and_hl hn hnn]
        have e : n &&& notN (2 ^ fr v b - 1) = topN (fr v b) n := by
          have := and_not (n := n) (f := fr v b) (k := 128) (fr_le v b) (by rw [show (2 : Nat) ^ 128 = 340282366920938463463374607431768211456 by decide]; exact hn)
          rw [← this]; unfold notN
          rw [show (340282366920938463463374607431768211455 : Nat) = 2 ^ 128 - 1 by decide]
        rw [e]
        simp only [tup5, bsome]
      · rw [if_neg (by simp only [true_and]; omega), prefix_Of.j0, if_pos (by simp; omega)]; rfl
def lastS (v : Bool) (n : Nat) (b : Int) : Bool × Nat := if rightP v n b = true then (v, n + (2 ^ fr v b - 1)) else (false, 0)
def tup3 (x : Bool × Nat) : Bool × Int × Int := (x.1, hi x.2, lo x.2)
theorem last_lt {v : Bool} {n : Nat} {b : Int} (h : rightP v n b = true) : n + (2 ^ fr v b - 1) < 2 ^ widthN v := by
  obtain ⟨h1, h2, h3, h4⟩ := rightP_iff.1 h
  have hf : fr v b ≤ widthN v := by unfold fr; omega
  have hp := Nat.two_pow_pos (fr v b)
  obtain ⟨q, hq⟩ := Nat.dvd_of_mod_eq_zero h4
  have e : 2 ^ widthN v = 2 ^ fr v b * 2 ^ (widthN v - fr v b) := by rw [← Nat.pow_add]; congr 1; omega
  rw [hq, e] at h1
  rw [hq, e]
  have h5 : q < 2 ^ (widthN v - fr v b) := Nat.lt_of_mul_lt_mul_left h1
  have h6 : 2 ^ fr v b * (q + 1) ≤ 2 ^ fr v b * 2 ^ (widthN v - fr v b) := Nat.mul_le_mul_left _ h5
  rw [Nat.mul_add, Nat.mul_one] at h6
  omega
theorem last_f (v : Bool) (n : Nat) (b : Int) (hn : n < 340282366920938463463374607431768211456) : prefix_Last.f v (hi n) (lo n) b = some (tup3 (lastS v n b)) := by
  unfold prefix_Last.f lastS
  rw [pright_hl v b hn]
  simp only [bsome]
  cases h : rightP v n b
  · simp [tup3, hi00, lo00]
  · obtain ⟨h1, h2, h3, h4⟩ := rightP_iff.1 h
    rw [if_pos rfl, if_pos rfl, free_hl v n h2 h3]
    simp only [bsome]
    rw [or_hl hn (fr_lt v b), or_ones h4]
    simp only [tup3, bsome]
def hasS (v : Bool) (n : Nat) (b : Int) (u : Bool) (m : Nat) : Bool := rightP v n b && (rightB u m && (u == v && topN (fr v b) m == n))
theorem has_f (K : Nat) (hK : 1 ≤ K) (v : Bool) (n : Nat) (b : Int) (u : Bool) (m : Nat) (hn : n < 340282366920938463463374607431768211456) (hm : m < 340282366920938463463374607431768211456) : prefix_Has.f K v (hi n) (lo n) b u (hi m) (lo m) = some (hasS v n b u m) := by
  unfold prefix_Has.f hasS
  rw [pright_hl v b hn, aright_hl u hm, of_f K hK u m b hm]
  simp only [bsome]
  cases h : rightP v n b
  · rfl
  · cases hu : rightB u m
    · rfl
    · rw [if_pos rfl, if_pos rfl]
      by_cases huv : u = v
      · subst huv
        obtain ⟨h1, h2, h3, h4⟩ := rightP_iff.1 h
        rw [if_neg (by simp)]
        unfold ofS
        rw [if_pos ⟨hu, h2, h3⟩]
        simp only [tup5]
        rw [hl_eq (top_lt hm) hn]
        simp
      · rw [if_pos (by simpa using huv)]
        simp [huv]
theorem hasS_right {v : Bool} {n : Nat} {b : Int} {u : Bool} {m : Nat} (h : hasS v n b u m = true) : rightP v n b = true ∧ rightB u m = true ∧ u = v ∧ m / 2 ^ fr v b = n / 2 ^ fr v b := by
  unfold hasS at h
  simp only [Bool.and_eq_true, beq_iff_eq] at h
  obtain ⟨h1, h2, h3, h4⟩ := h
  exact ⟨h1, h2, h3, (topN_iff (rightP_iff.1 h1).2.2.2).1 h4⟩
theorem hasS_mk {v : Bool} {n : Nat} {b : Int} {m : Nat} (h1 : rightP v n b = true) (h2 : rightB v m = true) (h : m / 2 ^ fr v b = n / 2 ^ fr v b) : hasS v n b v m = true := by
  unfold hasS
  rw [h1, h2]
  simp only [Bool.true_and, beq_self_eq_true, beq_iff_eq]
  exact (topN_iff (rightP_iff.1 h1).2.2.2).2 h
end Go.Proofs.YtpfilldnfpcpkaaGreatDoor

namespace Go.Proofs.YtpfilldnfpcpkaaGreatDoor
open Go.RowKit Go.Proofs.YtpfilldnfpcpkaaGreatDoorW.PrintWords Go.Proofs.YtpfilldnfpcpkaaGreatDoor.PPo

theorem shl_hl {n : Nat} {k : Int} (hn : n < 340282366920938463463374607431768211456) (hk : -9223372036854775808 ≤ k) : num_Shl.f (hi n) (lo n) k = some (hi (shlN n k), lo (shlN n k)) := by
  unfold num_Shl.f; rw [okW_hl, decide_eq_true hk, num_hi_lo hn]; rfl
theorem shl_one {k : Nat} (hk : k < 128) : shlN 1 (k : Int) = 2 ^ k := by
  unfold shlN
  rw [if_neg (by omega), if_neg (by omega), Int.toNat_natCast, Nat.one_mul, Nat.mod_eq_of_lt]
  have := Nat.pow_lt_pow_right (a := 2) (by omega) hk
  rw [show (2 : Nat) ^ 128 = 340282366920938463463374607431768211456 by decide] at this
  exact this
theorem cmpA_le {v : Bool} {a b : Nat} : cmpA v a v b ≤ 0 ↔ a ≤ b := by
  unfold cmpA cmpN
  rw [if_pos rfl]
  split
  · constructor <;> omega
  · split
    · constructor <;> omega
    · constructor <;> omega
/-- what lies between the ends is the prefix's own -/
theorem has_between {v : Bool} {n : Nat} {b : Int} (h : rightP v n b = true) (u : Bool) (x : Nat) :
    hasS v n b u x = (rightB u x && (decide (cmpA v n u x ≤ 0) && decide (cmpA u x v (n + (2 ^ fr v b - 1)) ≤ 0))) := by
  obtain ⟨h1, h2, h3, h4⟩ := rightP_iff.1 h
  have hpos := Nat.two_pow_pos (fr v b)
  by_cases huv : u = v
  · subst huv
    rw [Bool.eq_iff_iff]
    simp only [Bool.and_eq_true, decide_eq_true_iff, cmpA_le]
    constructor
    · intro hh
      obtain ⟨_, g2, _, g4⟩ := hasS_right hh
      obtain ⟨q, hq⟩ := Nat.dvd_of_mod_eq_zero h4
      have e : n / 2 ^ fr u b = q := by rw [hq, Nat.mul_div_cancel_left _ hpos]
      rw [e] at g4
      have d1 := Nat.div_add_mod x (2 ^ fr u b)
      have d2 := Nat.mod_lt x hpos
      rw [g4, ← hq] at d1
      exact ⟨g2, by omega, by omega⟩
    · rintro ⟨g1, g2, g3⟩
      refine hasS_mk h g1 ?_
      obtain ⟨q, hq⟩ := Nat.dvd_of_mod_eq_zero h4
      have e : n / 2 ^ fr u b = q := by rw [hq, Nat.mul_div_cancel_left _ hpos]
      rw [e]
      apply Nat.div_eq_of_lt_le
      · rw [Nat.mul_comm, ← hq]; exact g2
      · rw [Nat.add_mul, Nat.mul_comm q, ← hq]; omega
  · have e1 : hasS v n b u x = false := by unfold hasS; simp [huv]
    rw [e1]
    unfold cmpA
    cases u <;> cases v <;> simp at huv ⊢
end Go.Proofs.YtpfilldnfpcpkaaGreatDoor

namespace Go.Proofs.YtpfilldnfpcpkaaGreatDoor
open Go.RowKit Go.Proofs.YtpfilldnfpcpkaaGreatDoorW.PrintWords Go.Proofs.YtpfilldnfpcpkaaGreatDoorW.PrintMore Go.Proofs.YtpfilldnfpcpkaaGreatDoor.PPo

theorem len_hl {n : Nat} (hn : n < 340282366920938463463374607431768211456) : num_Len.f (hi n) (lo n) = some ((lenN n : Nat) : Int) := by
  unfold num_Len.f; rw [if_pos (okW_hl n), num_hi_lo hn]
end Go.Proofs.YtpfilldnfpcpkaaGreatDoor

namespace Go.Proofs.YtpfilldnfpcpkaaGreatDoor
open Go.RowKit Go.Proofs.YtpfilldnfpcpkaaGreatDoorW.PrintWords Go.Proofs.YtpfilldnfpcpkaaGreatDoor.PPo

def cutsS (v : Bool) (n : Nat) (b bits : Int) : Bool := rightP v n b && (decide (b ≤ bits) && decide (bits ≤ (widthN v : Int)))
theorem cutsS_iff {v : Bool} {n : Nat} {b bits : Int} : cutsS v n b bits = true ↔ rightP v n b = true ∧ b ≤ bits ∧ bits ≤ (widthN v : Int) := by
  unfold cutsS; simp
theorem cuts_f (v : Bool) (n : Nat) (b bits : Int) (hn : n < 340282366920938463463374607431768211456) : carve_cuts.f v (hi n) (lo n) b bits = some (cutsS v n b bits) := by
  unfold carve_cuts.f cutsS
  rw [pright_hl v b hn]
  simp only [bsome]
  cases rightP v n b
  · rfl
  · rw [if_pos rfl]
    by_cases h : b ≤ bits
    · rw [if_pos h, awidth_hl, decide_eq_true h]
      simp only [bsome, Bool.true_and]
    · rw [if_neg h, decide_eq_false h]; rfl
/-- two to a power, if that is not too much -/
def powS (k : Nat) : Nat × Bool := if 128 ≤ k then (0, false) else (2 ^ k, true)
theorem powS_lt (k : Nat) : (powS k).1 < 340282366920938463463374607431768211456 := by
  unfold powS; split
  · decide
  · rename_i h
    have := Nat.pow_lt_pow_right (a := 2) (by omega) (show k < 128 by omega)
    rw [show (2 : Nat) ^ 128 = 340282366920938463463374607431768211456 by decide] at this
    exact this
theorem power_f (k : Nat) : carve_power.f (k : Int) = some (hi (powS k).1, lo (powS k).1, (powS k).2) := by
  unfold carve_power.f powS
  by_cases h : 128 ≤ k
  · rw [if_pos (by omega), if_pos h]; rfl
  · rw [if_neg (by omega), if_neg h]
    unfold num_Of.f
    simp only [bsome]
    have e1 : num_Shl.f 0 1 (k : Int) = some (hi (2 ^ k), lo (2 ^ k)) := by
      have := shl_hl (n := 1) (k := (k : Int)) (by decide) (by omega)
      rw [shl_one (by omega)] at this
      exact this
    rw [e1]
    simp only [bsome]
def blocksS (v : Bool) (n : Nat) (b bits : Int) : Nat × Bool × Int := if cutsS v n b bits = true then ((powS (bits - b).toNat).1, (powS (bits - b).toNat).2, 0) else (0, false, 1)
def tupN (x : Nat × Bool × Int) : Int × Int × Bool × Int := (hi x.1, lo x.1, x.2.1, x.2.2)
theorem blocks_f (v : Bool) (n : Nat) (b bits : Int) (hn : n < 340282366920938463463374607431768211456) : carve_Blocks.f v (hi n) (lo n) b bits = some (tupN (blocksS v n b bits)) := by
  unfold carve_Blocks.f blocksS
  rw [cuts_f v n b bits hn]
  simp only [bsome]
  cases h : cutsS v n b bits
  · simp [tupN, hi00, lo00]
  · obtain ⟨h1, h2, h3⟩ := cutsS_iff.1 h
    obtain ⟨p1, p2, p3, p4⟩ := rightP_iff.1 h1
    have hw := widthN_le v
    rw [if_pos rfl, if_pos rfl, w64 (by omega) (by omega), show bits - b = (((bits - b).toNat : Nat) : Int) by omega, power_f]
    simp only [bsome, tupN, Int.toNat_natCast]
def blockS (v : Bool) (n : Nat) (b bits : Int) (i : Nat) : Bool × Nat × Int × Int :=
  if cutsS v n b bits = true then (if (lenN i : Int) ≤ bits - b then (v, n + i * 2 ^ (widthN v - bits.toNat), bits, 0) else (false, 0, 0, 12)) else (false, 0, 0, 1)
/-- the numbers that are behind a block's -/
theorem block_room {v : Bool} {n : Nat} {b bits : Int} {i : Nat} (h : cutsS v n b bits = true) (hi' : (lenN i : Int) ≤ bits - b) :
    i < 2 ^ (bits - b).toNat ∧ i * 2 ^ (widthN v - bits.toNat) < 2 ^ fr v b ∧ n + i * 2 ^ (widthN v - bits.toNat) < 2 ^ widthN v ∧ fr v b = (bits - b).toNat + (widthN v - bits.toNat) := by
  obtain ⟨h1, h2, h3⟩ := cutsS_iff.1 h
  obtain ⟨p1, p2, p3, p4⟩ := rightP_iff.1 h1
  have hf : fr v b = (bits - b).toNat + (widthN v - bits.toNat) := by unfold fr; omega
  have hl : i < 2 ^ (bits - b).toNat := (lenN_iff _ _).1 (by omega)
  have hp := Nat.two_pow_pos (widthN v - bits.toNat)
  have h4 : i * 2 ^ (widthN v - bits.toNat) < 2 ^ fr v b := by
    rw [hf, Nat.pow_add]; exact Nat.mul_lt_mul_of_pos_right hl hp
  have := last_lt h1
  exact ⟨hl, h4, by omega, hf⟩
theorem shlN_eq {i k : Nat} (hk : k < 128) (h : i * 2 ^ k < 340282366920938463463374607431768211456) : shlN i (k : Int) = i * 2 ^ k := by
  unfold shlN
  rw [if_neg (by omega), if_neg (by omega), Int.toNat_natCast, Nat.mod_eq_of_lt h]
theorem block_f (v : Bool) (n : Nat) (b bits : Int) (i : Nat) (hn : n < 340282366920938463463374607431768211456) (hi' : i < 340282366920938463463374607431768211456) : carve_Block.f v (hi n) (lo n) b bits (hi i) (lo i) = some (tup5 (blockS v n b bits i)) := by
  unfold carve_Block.f blockS
  rw [cuts_f v n b bits hn]
  simp only [bsome]
  cases h : cutsS v n b bits
  · simp [tup5, hi00, lo00]
  · obtain ⟨h1, h2, h3⟩ := cutsS_iff.1 h
    obtain ⟨p1, p2, p3, p4⟩ := rightP_iff.1 h1
    have hw := widthN_le v
    rw [if_pos rfl, if_pos rfl, len_hl hi']
    simp only [bsome]
    rw [w64 (by omega) (by omega)]
    by_cases hl : (lenN i : Int) ≤ bits - b
    · rw [if_neg (by omega), if_pos hl, awidth_hl]
      simp only [bsome]
      obtain ⟨r1, r2, r3, r4⟩ := block_room h hl
      have r5 : i * 2 ^ (widthN v - bits.toNat) < 340282366920938463463374607431768211456 := by
        have := Nat.lt_of_lt_of_le r3 (pow_w v); omega
      rw [w64 (by omega) (by omega), show ((widthN v : Nat) : Int) - bits = ((widthN v - bits.toNat : Nat) : Int) by omega, shl_hl hi' (by omega)]
      simp only [bsome]
      have e : shlN i ((widthN v - bits.toNat : Nat) : Int) = i * 2 ^ (widthN v - bits.toNat) := by
        by_cases hk : widthN v - bits.toNat < 128
        · exact shlN_eq hk r5
        · have hb0 : bits = 0 := by omega
          have : (bits - b).toNat = 0 := by omega
          rw [this] at r1
          have : i = 0 := by simpa using r1
          subst this
          unfold shlN; split <;> simp
      rw [e, or_hl hn r5, or_small p4 r2]
      simp only [bsome, tup5]
    · rw [if_pos (by omega), if_neg hl]; simp [tup5, hi00, lo00]
end Go.Proofs.YtpfilldnfpcpkaaGreatDoor

namespace Go.Proofs.YtpfilldnfpcpkaaGreatDoor
open Go.RowKit Go.Proofs.YtpfilldnfpcpkaaGreatDoorW.PrintWords Go.Proofs.YtpfilldnfpcpkaaGreatDoor.PPo

theorem hosts_f (v : Bool) (n : Nat) (b : Int) (hn : n < 340282366920938463463374607431768211456) : carve_Hosts.f v (hi n) (lo n) b = some (tupN (blocksS v n b (widthN v))) := by
  unfold carve_Hosts.f
  rw [awidth_hl]
  simp only [bsome]
  rw [blocks_f v n b _ hn]
  simp only [bsome]
def tup4 (x : Bool × Nat × Int × Int) : Bool × Int × Int × Int := (x.1, hi x.2.1, lo x.2.1, x.2.2.2)
theorem host_f (v : Bool) (n : Nat) (b : Int) (i : Nat) (hn : n < 340282366920938463463374607431768211456) (hi' : i < 340282366920938463463374607431768211456) : carve_Host.f v (hi n) (lo n) b (hi i) (lo i) = some (tup4 (blockS v n b (widthN v) i)) := by
  unfold carve_Host.f
  rw [awidth_hl]
  simp only [bsome]
  rw [block_f v n b _ i hn hi']
  simp only [bsome]
  rfl
end Go.Proofs.YtpfilldnfpcpkaaGreatDoor

namespace Go.Proofs.YtpfilldnfpcpkaaGreatDoor
open Go.RowKit Go.Proofs.YtpfilldnfpcpkaaGreatDoorW.PrintWords Go.Proofs.YtpfilldnfpcpkaaGreatDoor.PPo

theorem shr_hl {n : Nat} {k : Int} (hn : n < 340282366920938463463374607431768211456) (hk : -9223372036854775808 ≤ k) : num_Shr.f (hi n) (lo n) k = some (hi (shrN n k), lo (shrN n k)) := by
  unfold num_Shr.f; rw [okW_hl, decide_eq_true hk, num_hi_lo hn]; rfl
theorem shrN_all {n : Nat} (k : Nat) (hn : n < 340282366920938463463374607431768211456) : shrN n (k : Int) = n / 2 ^ k := by
  by_cases h : k < 128
  · exact shrN_nat h hn
  · unfold shrN shlN
    rw [if_pos (by omega)]
    symm
    apply Nat.div_eq_of_lt
    refine Nat.lt_of_lt_of_le hn ?_
    have := Nat.pow_le_pow_right (n := 2) (by omega) (show 128 ≤ k by omega)
    rw [show (2 : Nat) ^ 128 = 340282366920938463463374607431768211456 by decide] at this
    exact this
theorem ones_hl (k : Int) : num_Ones.f k = some (hi (onesN k), lo (onesN k)) := rfl
theorem below_f (v : Bool) (n : Nat) (b : Int) (u : Bool) (x last : Nat) (h0 : 0 ≤ b) (h1 : b ≤ (widthN u : Int)) (hl : last ≤ 1000) (hx : x < 340282366920938463463374607431768211456) :
    carve_below.f v (hi n) (lo n) b u (hi x) (lo x) (last : Int) = some (hi (x % 2 ^ fr u b / 2 ^ last), lo (x % 2 ^ fr u b / 2 ^ last)) := by
  unfold carve_below.f
  have hw := widthN_le u
  rw [awidth_hl]
  simp only [bsome]
  rw [w64 (by omega) (by omega), ones_hl, ones_val h0 h1]
  simp only [bsome]
  rw [and_hl hx (fr_lt u b), and_ones]
  simp only [bsome]
  have hm : x % 2 ^ fr u b < 340282366920938463463374607431768211456 := Nat.lt_of_le_of_lt (Nat.mod_le _ _) hx
  rw [shr_hl hm (by omega), shrN_all last hm]
  simp only [bsome]
def numberS (v : Bool) (n : Nat) (b : Int) (u : Bool) (x : Nat) : Nat × Int := if rightP v n b = true then (if hasS v n b u x = true then (x % 2 ^ fr v b, 0) else (0, 12)) else (0, 1)
def tupM (x : Nat × Int) : Int × Int × Int := (hi x.1, lo x.1, x.2)
theorem number_f (K : Nat) (hK : 1 ≤ K) (v : Bool) (n : Nat) (b : Int) (u : Bool) (x : Nat) (hn : n < 340282366920938463463374607431768211456) (hx : x < 340282366920938463463374607431768211456) : carve_Number.f K v (hi n) (lo n) b u (hi x) (lo x) = some (tupM (numberS v n b u x)) := by
  unfold carve_Number.f numberS
  rw [pright_hl v b hn, has_f K hK v n b u x hn hx]
  simp only [bsome]
  cases h : rightP v n b
  · simp [tupM, hi00, lo00]
  · rw [if_pos rfl, if_pos rfl]
    cases hh : hasS v n b u x
    · simp [tupM, hi00, lo00]
    · obtain ⟨_, _, rfl, _⟩ := hasS_right hh
      obtain ⟨p1, p2, p3, p4⟩ := rightP_iff.1 h
      rw [if_pos rfl, if_pos rfl, show (0 : Int) = ((0 : Nat) : Int) from rfl, below_f u n b u x 0 p2 p3 (by omega) hx]
      simp only [bsome, tupM, Nat.pow_zero, Nat.div_one]
end Go.Proofs.YtpfilldnfpcpkaaGreatDoor

namespace Go.Proofs.YtpfilldnfpcpkaaGreatDoor
open Go.RowKit Go.Proofs.YtpfilldnfpcpkaaGreatDoorW.PrintWords Go.Proofs.YtpfilldnfpcpkaaGreatDoor.PPo

theorem fr_toNat (v : Bool) (c : Int) : widthN v - c.toNat = fr v c := rfl
/-- what the block of a number is -/
theorem block_at {v : Bool} {n : Nat} {b bits : Int} {i : Nat} (h : cutsS v n b bits = true) (hl : (lenN i : Int) ≤ bits - b) :
    blockS v n b bits i = (v, n + i * 2 ^ fr v bits, bits, 0) ∧ rightP v (n + i * 2 ^ fr v bits) bits = true ∧ (n + i * 2 ^ fr v bits) / 2 ^ fr v bits = n / 2 ^ fr v bits + i ∧ (n + i * 2 ^ fr v bits) / 2 ^ fr v b = n / 2 ^ fr v b := by
  obtain ⟨h1, h2, h3⟩ := cutsS_iff.1 h
  obtain ⟨p1, p2, p3, p4⟩ := rightP_iff.1 h1
  obtain ⟨r1, r2, r3, r4⟩ := block_room h hl
  rw [fr_toNat] at r2 r3 r4
  have hp := Nat.two_pow_pos (fr v bits)
  have hpb := Nat.two_pow_pos (fr v b)
  refine ⟨?_, rightP_iff.2 ⟨r3, by omega, h3, ?_⟩, ?_, ?_⟩
  · unfold blockS; rw [if_pos h, if_pos hl, fr_toNat]
  · rw [Nat.add_mul_mod_self_right]
    obtain ⟨q, rfl⟩ := Nat.dvd_of_mod_eq_zero p4
    rw [r4, Nat.add_comm (bits - b).toNat, Nat.pow_add, Nat.mul_assoc]; exact Nat.mul_mod_right _ _
  · exact Nat.add_mul_div_right _ _ hp
  · obtain ⟨q, rfl⟩ := Nat.dvd_of_mod_eq_zero p4
    rw [Nat.mul_add_div hpb, Nat.div_eq_of_lt r2, Nat.mul_div_cancel_left _ hpb, Nat.add_zero]
end Go.Proofs.YtpfilldnfpcpkaaGreatDoor

namespace Go.Proofs.YtpfilldnfpcpkaaGreatDoor
open Go.RowKit Go.Proofs.YtpfilldnfpcpkaaGreatDoorW.PrintWords Go.Proofs.YtpfilldnfpcpkaaGreatDoor.PPo

theorem has_iff {v : Bool} {n : Nat} {b : Int} {x : Nat} (h : rightP v n b = true) : hasS v n b v x = true ↔ n ≤ x ∧ x ≤ n + (2 ^ fr v b - 1) := by
  rw [has_between h]
  simp only [Bool.and_eq_true, decide_eq_true_iff, cmpA_le]
  constructor
  · rintro ⟨_, h1, h2⟩; exact ⟨h1, h2⟩
  · rintro ⟨h1, h2⟩; exact ⟨rightB_iff.2 (Nat.lt_of_le_of_lt h2 (last_lt h)), h1, h2⟩
end Go.Proofs.YtpfilldnfpcpkaaGreatDoor

namespace Go.Proofs.YtpfilldnfpcpkaaGreatDoor
open Go.RowKit Go.Proofs.YtpfilldnfpcpkaaGreatDoorW.PrintWords Go.Proofs.YtpfilldnfpcpkaaGreatDoor.PPo

theorem hi_zero' {k : Nat} (h : k < 18446744073709551616) : hi k = 0 := by unfold hi; omega
theorem lo_is {k : Nat} (h : k < 18446744073709551616) : lo k = (k : Int) := by unfold lo; omega
theorem hi_pos {k : Nat} (h : 18446744073709551616 ≤ k) (h2 : k < 340282366920938463463374607431768211456) : hi k > 0 := by unfold hi; omega
/-- a number as one word -/
def smallS (k : Nat) : Int × Bool := if k < 18446744073709551616 then ((k : Int), true) else (0, false)
theorem small_f {k : Nat} (h : k < 340282366920938463463374607431768211456) : num_Small.f (hi k) (lo k) = some (smallS k) := by
  unfold num_Small.f smallS
  by_cases hk : k < 18446744073709551616
  · rw [if_pos hk, hi_zero' hk, lo_is hk, if_neg (by omega)]
  · rw [if_neg hk, if_pos (hi_pos (by omega) h)]
theorem smallS_lt {k : Nat} (h : k < 18446744073709551616) : smallS k = ((k : Int), true) := if_pos h
theorem smallS_ge {k : Nat} (h : ¬ k < 18446744073709551616) : smallS k = (0, false) := if_neg h
theorem numof_k (k : Nat) (w : World) (h : k < 18446744073709551616) :
    Calls Tryz.prog 126 #[.int .u64 (k : Int)] w fun e w' => e = .returned (.agg #[.int .u64 (hi k), .int .u64 (lo k)]) ∧ Below w.heap.size w w' := by
  have := num_Of.calls (k : Int) 0 (k : Int) w rfl
  rw [← hi_zero' h, ← lo_is h] at this
  rw [lo_is h] at this ⊢
  exact this
theorem chost_k (v : Bool) (n : Nat) (b : Int) (i : Nat) (w : World) (h : rightP v n b = true) (hi' : i < 2 ^ fr v b) :
    Calls Tryz.prog 125 #[.agg #[.bool v, .int .u64 (hi n), .int .u64 (lo n), .int .i64 b], .agg #[.int .u64 (hi i), .int .u64 (lo i)]] w fun e w' =>
      e = .returned (.tuple #[.agg #[.bool v, .int .u64 (hi (n + i)), .int .u64 (lo (n + i))], .int .i64 0]) ∧ Below w.heap.size w w' := by
  have hn : n < 340282366920938463463374607431768211456 := Nat.lt_of_lt_of_le (rightP_iff.1 h).1 (pow_w v)
  obtain ⟨h1, h2, h3, h4⟩ := rightP_iff.1 h
  have hiM : i < 340282366920938463463374607431768211456 := by have := fr_lt v b; omega
  have hc : cutsS v n b (widthN v) = true := cutsS_iff.2 ⟨h, h3, Int.le_refl _⟩
  have hfw : fr v (widthN v : Int) = 0 := by unfold fr; omega
  have hl : (lenN i : Int) ≤ (widthN v : Int) - b := by
    have := (lenN_iff i (fr v b)).2 hi'
    unfold fr at this; omega
  obtain ⟨e, _⟩ := block_at hc hl
  have hf := host_f v n b i hn hiM
  rw [e, hfw, Nat.pow_zero, Nat.mul_one] at hf
  exact carve_Host.calls v (hi n) (lo n) b (hi i) (lo i) _ _ _ _ w hf

/-- how many addresses the pool of a prefix looks after -/
def sizeS (v : Bool) (n : Nat) (b : Int) : Int × Bool := if rightP v n b = true then ((cntP (fr v b) : Nat), decide (2 ≤ fr v b)) else (0, false)
theorem powS_small {k : Nat} (h : k < 128) : powS k = (2 ^ k, true) := by unfold powS; rw [if_neg (by omega)]
theorem psizeof_f (v : Bool) (n : Nat) (b : Int) (hn : n < 340282366920938463463374607431768211456) : pool_size.f v (hi n) (lo n) b = some (sizeS v n b) := by
  unfold pool_size.f sizeS
  rw [hosts_f v n b hn]
  simp only [bsome, tupN]
  unfold blocksS
  by_cases hr : rightP v n b = true
  · obtain ⟨h1, h2, h3, h4⟩ := rightP_iff.1 hr
    have hc : cutsS v n b (widthN v) = true := cutsS_iff.2 ⟨hr, h3, Int.le_refl _⟩
    have hfr : ((widthN v : Int) - b).toNat = fr v b := by unfold fr; omega
    rw [if_pos hc, if_pos hr, if_pos rfl]
    simp only
    rw [hfr, small_f (powS_lt _)]
    simp only [bsome]
    by_cases h16 : 16 < fr v b
    · have e : (cntP (fr v b)) = 65536 := by unfold cntP; rw [if_pos h16]
      rw [e, decide_eq_true (show 2 ≤ fr v b by omega)]
      by_cases h128 : 128 ≤ fr v b
      · rw [show (powS (fr v b)).2 = false from by unfold powS; rw [if_pos h128]]; rfl
      · have e1 : (powS (fr v b)).1 = 2 ^ fr v b := by rw [powS_small (by omega)]
        rw [show (powS (fr v b)).2 = true from by rw [powS_small (by omega)], if_pos rfl, e1]
        have hbig : 2 ^ 17 ≤ 2 ^ fr v b := Nat.pow_le_pow_right (by decide) (by omega)
        generalize 2 ^ fr v b = P at hbig
        by_cases h64 : P < 18446744073709551616
        · rw [smallS_lt h64, if_pos rfl, if_pos (by simp only; omega)]; rfl
        · rw [smallS_ge h64, if_neg (by decide)]; rfl
    · have e : cntP (fr v b) = 2 ^ fr v b := by unfold cntP; rw [if_neg h16]
      have hle : 2 ^ fr v b ≤ 2 ^ 16 := Nat.pow_le_pow_right (by decide) (by omega)
      have e1 : (powS (fr v b)).1 = 2 ^ fr v b := by rw [powS_small (by omega)]
      have e2 : decide (2 ≤ fr v b) = decide (((2 ^ fr v b : Nat) : Int) ≥ 4) := by
        rw [Bool.eq_iff_iff, decide_eq_true_iff, decide_eq_true_iff]
        constructor
        · intro h
          have := cntP_ge h; omega
        · intro h
          rcases Nat.lt_or_ge (fr v b) 2 with k | k
          · have := cntP_small k; omega
          · exact k
      rw [show (powS (fr v b)).2 = true from by rw [powS_small (by omega)], if_pos rfl, e1, e, e2]
      generalize 2 ^ fr v b = P at hle
      rw [smallS_lt (by omega), if_pos rfl, if_neg (by simp only; omega), w64 (by simp only; omega) (by simp only; omega)]
  · have hc : ¬ cutsS v n b (widthN v) = true := fun h => hr (cutsS_iff.1 h).1
    rw [if_neg hc, if_neg hr, if_neg (by decide)]
theorem psizeof_k (v : Bool) (n : Nat) (b : Int) (w : World) (hn : n < 340282366920938463463374607431768211456) :
    Calls Tryz.prog 68 #[.agg #[.bool v, .int .u64 (hi n), .int .u64 (lo n), .int .i64 b]] w fun e w' => e = .returned (.tuple #[.int .i64 (sizeS v n b).1, .bool (sizeS v n b).2]) ∧ Below w.heap.size w w' :=
  pool_size.calls v (hi n) (lo n) b _ _ w (psizeof_f v n b hn)
theorem pbroad_f (v : Bool) (n : Nat) (b : Int) (h : rightP v n b = true) (hF : 2 ≤ fr v b) : pool_broadcast.f 1 v (hi n) (lo n) b (cntP (fr v b) : Nat) = some ((cntP (fr v b) : Int) - 1, endK v (fr v b)) := by
  have hn : n < 340282366920938463463374607431768211456 := Nat.lt_of_lt_of_le (rightP_iff.1 h).1 (pow_w v)
  have hN := cntP_ge hF
  have hN2 := cntP_le (fr v b)
  have hp := Nat.two_pow_pos (fr v b)
  obtain ⟨h1, h2, h3, h4⟩ := rightP_iff.1 h
  have hl := last_lt h
  have hlM : n + (2 ^ fr v b - 1) < 340282366920938463463374607431768211456 := Nat.lt_of_lt_of_le hl (pow_w v)
  have hnum : numberS v n b v (n + (2 ^ fr v b - 1)) = (2 ^ fr v b - 1, 0) := by
    unfold numberS
    rw [if_pos h, if_pos ((has_iff h).2 ⟨by omega, Nat.le_refl _⟩)]
    obtain ⟨q, hq⟩ := Nat.dvd_of_mod_eq_zero h4
    rw [hq, Nat.mul_add_mod, Nat.mod_eq_of_lt (by omega)]
  unfold pool_broadcast.f
  rw [last_f v n b hn, show lastS v n b = (v, n + (2 ^ fr v b - 1)) from by unfold lastS; rw [if_pos h]]
  simp only [bsome, tup3]
  rw [number_f 1 (Nat.le_refl _) v n b v _ hn hlM, hnum]
  simp only [bsome, tupM]
  have hfl := fr_lt v b
  rw [small_f hfl, w64 (by omega) (by omega)]
  simp only [bsome, if_true]
  unfold endK
  cases v
  · have hf32 : fr false b ≤ 32 := by unfold fr widthN; simp
    have hle : 2 ^ fr false b ≤ 2 ^ 32 := Nat.pow_le_pow_right (by decide) hf32
    rw [smallS_lt (by omega), if_pos rfl, if_neg (by decide)]
    congr 2
    rw [show IntKind.u64.wrap ((cntP (fr false b) : Int) - 1) = (cntP (fr false b) : Int) - 1 from by show ((cntP (fr false b) : Int) - 1) % 18446744073709551616 = _; omega]
    by_cases h16 : 16 < fr false b
    · have e : cntP (fr false b) = 65536 := by unfold cntP; rw [if_pos h16]
      have hbig : 2 ^ 17 ≤ 2 ^ fr false b := Nat.pow_le_pow_right (by decide) (by omega)
      rw [e, decide_eq_false (show ¬ fr false b ≤ 16 by omega), Bool.and_false, beq_eq_false_iff_ne]
      omega
    · have e : cntP (fr false b) = 2 ^ fr false b := by unfold cntP; rw [if_neg h16]
      rw [e, decide_eq_true (show fr false b ≤ 16 by omega), Bool.not_false, Bool.true_and, beq_iff_eq]
      generalize 2 ^ fr false b = P at hp
      simp only
      omega
  · rw [if_pos rfl]; split <;> simp
theorem pbroad_k (v : Bool) (n : Nat) (b : Int) (w : World) (h : rightP v n b = true) (hF : 2 ≤ fr v b) :
    Calls Tryz.prog 71 #[.agg #[.bool v, .int .u64 (hi n), .int .u64 (lo n), .int .i64 b], .int .i64 (cntP (fr v b) : Nat)] w fun e w' => e = .returned (.tuple #[.int .i64 ((cntP (fr v b) : Int) - 1), .bool (endK v (fr v b))]) ∧ Below w.heap.size w w' :=
  pool_broadcast.calls 1 v (hi n) (lo n) b _ _ _ w (pbroad_f v n b h hF)
end Go.Proofs.YtpfilldnfpcpkaaGreatDoor

