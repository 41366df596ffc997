/-
A part of the proof of poolOnce_card: its lemmas and walks, part 1. No condition.
-/
import Derived.Laws.AppendOwn
import Derived.OrdersHeld
import Derived.Laws.BitsLemmas
import Derived.Laws.BitsAllLaws
import Derived.Lib.TrailingZeros
import Derived.Laws.Externs
import Derived.Laws.ResultCell
import Derived.Lib.Hide
import Derived.Shelf.Spec.TrailingZeros
import Derived.Deep.RegionWith
import Derived.StillTailTactics
import Derived.ProofKit
import Derived.ChangeSame
import Derived.Carry
import Derived.Deep.Slices
import Derived.Deep.Fields
import Derived.LaidMore
import Derived.Lay
import Derived.MakeChecks
import Derived.LaidByTextLater
import Derived.OpenShut
import Derived.Stop.Joined
import Derived.Stop.LaidErr
import Derived.Lib.LaidTab
import Derived.Handed
import Derived.Shelf.Vars
import Derived.Test.YtpfilldnfpcpkaaGreatDoorPonM0
import Derived.Test.YtpfilldnfpcpkaaGreatDoorRows
import Derived.Test.YtpfilldnfpcpkaaGreatDoorCards
import Derived.Test.YtpfilldnfpcpkaaGreatDoorTie
set_option linter.unusedVariables false
set_option linter.unusedSimpArgs false
namespace Go.Proofs.YtpfilldnfpcpkaaGreatDoor
open Go.RowKit

theorem Blk.ne_own {w : World} {g base n size : Nat} {t e : TypeId} {cs : Array Value} {v : Value} {xs : List Value} (h : Blk w g t cs) (ho : w.ownsRow base e size v n xs) (hte : t ≠ e) : some g ≠ v.ownBlock := by
  rcases ho.2 with ⟨rfl, _⟩ | ⟨g', cap, cur, rfl, _, hh, _⟩
  · simp [Value.ownBlock]
  · intro q
    have e1 : g = g' := by simpa [Value.ownBlock] using q
    subst e1
    unfold Blk at h
    rw [h] at hh
    injection hh with hh
    injection hh with _ ht
    exact hte ht
end Go.Proofs.YtpfilldnfpcpkaaGreatDoor

namespace Go.Proofs.YtpfilldnfpcpkaaGreatDoor
open Go.RowKit
end Go.Proofs.YtpfilldnfpcpkaaGreatDoor
namespace Go.Proofs.YtpfilldnfpcpkaaGreatDoor

theorem topN_add (f n : Nat) : topN f n + n % 2 ^ f = n := by unfold topN; rw [Nat.mul_comm]; exact Nat.div_add_mod n (2 ^ f)
theorem topN_eq {f n : Nat} : topN f n = n ↔ n % 2 ^ f = 0 := by have := topN_add f n; omega
end Go.Proofs.YtpfilldnfpcpkaaGreatDoor

namespace Go.Proofs.YtpfilldnfpcpkaaGreatDoor.PPo
open Go.RowKit Go.Proofs.YtpfilldnfpcpkaaGreatDoorW.PrintWords Go.Proofs.YtpfilldnfpcpkaaGreatDoorW.PrintLast Go.Proofs.YtpfilldnfpcpkaaGreatDoorW.PrintMore
attribute [local go_sem] max2_int min2_int max_two min_two max_three min_three max_four min_four   -- for this text's walks alone



theorem info3 : (Tryz.prog.info? 3).map (fun i => (i.zero, i.size, i.bytes)) = some (some (.int .i64 0), 1, 8) := by kernel_rfl
end Go.Proofs.YtpfilldnfpcpkaaGreatDoor.PPo

namespace Go.Proofs.YtpfilldnfpcpkaaGreatDoor.PPo
open Go.RowKit Go.Proofs.YtpfilldnfpcpkaaGreatDoorW.PrintWords Go.Proofs.YtpfilldnfpcpkaaGreatDoorW.PrintLast Go.Proofs.YtpfilldnfpcpkaaGreatDoorW.PrintMore
attribute [local go_sem] max2_int min2_int max_two min_two max_three min_three max_four min_four   -- for this text's walks alone

def prefix_First.f (a0_0 : Bool) (a0_1 : Int) (a0_2 : Int) (a0_3 : Int) : Option (Bool × Int × Int) := (prefix_Right.f a0_0 a0_1 a0_2 a0_3).bind fun t236 => (if t236 = true then (some (a0_0, a0_1, a0_2)) else (some (false, 0, 0)))
set_option maxHeartbeats 8000000 in
set_option maxRecDepth 100000 in
theorem prefix_First.calls (a0_0 : Bool) (a0_1 : Int) (a0_2 : Int) (a0_3 : Int) (r1 : Bool) (r2 : Int) (r3 : Int) (w : World) (h : prefix_First.f a0_0 a0_1 a0_2 a0_3 = some (r1, r2, r3)) :
  Calls Tryz.prog 33 #[.agg #[.bool a0_0, .int .u64 a0_1, .int .u64 a0_2, .int .i64 a0_3]] w fun e w' => e = .returned (.agg #[.bool r1, .int .u64 r2, .int .u64 r3]) ∧ Below w.heap.size w w' := by
 have hu28 := Tryz.underlying28
 have hu26 := Tryz.underlying26
 have HB := Aside0.mk (Below.refl w.heap.size w)
 have H : ((prefix_Right.f a0_0 a0_1 a0_2 a0_3).bind fun t236 => (if t236 = true then (some (a0_0, a0_1, a0_2)) else (some (false, 0, 0)))) = some (r1, r2, r3) := h
 clear h
 replace H := Option.bind_eq_some_iff.mp H
 obtain ⟨t236, A20, H⟩ := H
 replace H : (if t236 = true then (some (a0_0, a0_1, a0_2)) else (some (false, 0, 0))) = some (r1, r2, r3) := H
 have A2 := Aside0.mk A20
 clear A20
 by_cases c3 : t236 = true
 ·
  subst c3
  rw [if_pos rfl] at H
  simp only [Option.some.injEq, Prod.mk.injEq] at H
  obtain ⟨rfl, rfl, rfl⟩ := H
  go_enter Tryz.func33, Tryz.ntmps33
  go_wp2_with (first | ((with_reducible refine gate_dst (N := 1) rfl ?_); refine bx_ 1 #[.bool a0_0, .int .u64 a0_1, .int .u64 a0_2, .int .i64 a0_3] 28 ?_; intro gb234 hg w4 hbox hb; have BK234 := Aside0.mk (hbox); have GW234 := gw_ HB hg; have GE234 := gw_ HB hg; replace HB := bs_ HB hb; clear hb hbox hg) | ((with_reducible refine gate_dst (N := 2) rfl ?_); refine bx_ 2 #[.bool false, .int .u64 0, .int .u64 0] 26 ?_; intro gb235 hg w5 hbox hb; have BK235 := Aside0.mk (hbox); have GW235 := gw_ HB hg; have GE235 := gw_ HB hg; have NB234_235 := nl_ BK234 hg; have NB235_234 := ng_ BK234 hg; replace BK234 := bb_ BK234 hb; replace HB := bs_ HB hb; clear hb hbox hg; have hnb6 := NB234_235.out; have hnc6 := NB235_234.out; obtain ⟨hcz7_0, hcz7_1, hcz7_2, hcz7_3, hfz7_0, hfz7_1, hfz7_2, hfz7_3⟩ := c4_ BK234) | ((with_reducible refine gate_callee (f := 90) rfl ?_); refine gl_ (some 4) Tryz.func90 #[.agg #[.bool a0_0, .int .u64 a0_1, .int .u64 a0_2, .int .i64 a0_3]] ?_; (with_reducible refine (prefix_Right.calls a0_0 a0_1 a0_2 a0_3 true _ A2.out).mono ?_); rintro e w8 ⟨rfl, hb⟩; refine ⟨_, rfl, ?_⟩; replace BK234 := bb_ BK234 hb; replace BK235 := bb_ BK235 hb; replace HB := bs_ HB hb; (try clear hb); (try clear hb2); (try clear hk); (try clear hi); obtain ⟨hcz9_0, hcz9_1, hcz9_2, hcz9_3, hfz9_0, hfz9_1, hfz9_2, hfz9_3⟩ := c4_ BK234; obtain ⟨hcz10_0, hcz10_1, hcz10_2, hfz10_0, hfz10_1, hfz10_2⟩ := c3_ BK235))
  refine bodyPost_ret (results_cell_row rfl _ _ gb235 26 #[.bool a0_0, .int .u64 a0_1, .int .u64 a0_2] (0, 0) _ rfl (by refine pw_ ?_; refine blk_put (cs := #[.bool a0_0, .int .u64 a0_1, .int .u64 0]) ?_ 2 _ rfl; refine pw_ ?_; refine blk_put (cs := #[.bool a0_0, .int .u64 0, .int .u64 0]) ?_ 1 _ rfl; refine pw_ ?_; refine blk_put (cs := #[.bool false, .int .u64 0, .int .u64 0]) ?_ 0 _ rfl; refine pw_ ?_; exact BK235.out) Tryz.underlying26 rfl (by kernel_rfl)) rfl ?_
  exact ⟨by first | rfl | (simp [errW_none, errW_some] <;> rfl) | (simp [*, errW_none, errW_some] <;> rfl), pb_ HB⟩
 ·
  replace c3 := Bool.eq_false_iff.mpr c3
  subst c3
  have H1 : (some (false, 0, 0)) = some (r1, r2, r3) := by rw [if_neg (show ¬ (false = true) by decide)] at H; exact H
  clear H
  have H := H1
  clear H1
  simp only [Option.some.injEq, Prod.mk.injEq] at H
  obtain ⟨rfl, rfl, rfl⟩ := H
  go_enter Tryz.func33, Tryz.ntmps33
  go_wp2_with (first | ((with_reducible refine gate_dst (N := 1) rfl ?_); refine bx_ 1 #[.bool a0_0, .int .u64 a0_1, .int .u64 a0_2, .int .i64 a0_3] 28 ?_; intro gb234 hg w11 hbox hb; have BK234 := Aside0.mk (hbox); have GW234 := gw_ HB hg; have GE234 := gw_ HB hg; replace HB := bs_ HB hb; clear hb hbox hg) | ((with_reducible refine gate_dst (N := 2) rfl ?_); refine bx_ 2 #[.bool false, .int .u64 0, .int .u64 0] 26 ?_; intro gb235 hg w12 hbox hb; have BK235 := Aside0.mk (hbox); have GW235 := gw_ HB hg; have GE235 := gw_ HB hg; have NB234_235 := nl_ BK234 hg; have NB235_234 := ng_ BK234 hg; replace BK234 := bb_ BK234 hb; replace HB := bs_ HB hb; clear hb hbox hg; have hnb13 := NB234_235.out; have hnc13 := NB235_234.out; obtain ⟨hcz14_0, hcz14_1, hcz14_2, hcz14_3, hfz14_0, hfz14_1, hfz14_2, hfz14_3⟩ := c4_ BK234) | ((with_reducible refine gate_callee (f := 90) rfl ?_); refine gl_ (some 4) Tryz.func90 #[.agg #[.bool a0_0, .int .u64 a0_1, .int .u64 a0_2, .int .i64 a0_3]] ?_; (with_reducible refine (prefix_Right.calls a0_0 a0_1 a0_2 a0_3 false _ A2.out).mono ?_); rintro e w15 ⟨rfl, hb⟩; refine ⟨_, rfl, ?_⟩; replace BK234 := bb_ BK234 hb; replace BK235 := bb_ BK235 hb; replace HB := bs_ HB hb; (try clear hb); (try clear hb2); (try clear hk); (try clear hi); obtain ⟨hcz16_0, hcz16_1, hcz16_2, hfz16_0, hfz16_1, hfz16_2⟩ := c3_ BK235))
  refine bodyPost_ret (results_cell_row rfl _ _ gb235 26 #[.bool false, .int .u64 0, .int .u64 0] (0, 0) _ rfl (by refine pw_ ?_; refine blk_put (cs := #[.bool false, .int .u64 0, .int .u64 0]) ?_ 2 _ rfl; refine pw_ ?_; refine blk_put (cs := #[.bool false, .int .u64 0, .int .u64 0]) ?_ 1 _ rfl; refine pw_ ?_; refine blk_put (cs := #[.bool false, .int .u64 0, .int .u64 0]) ?_ 0 _ rfl; refine pw_ ?_; exact BK235.out) Tryz.underlying26 rfl (by kernel_rfl)) rfl ?_
  exact ⟨by first | rfl | (simp [errW_none, errW_some] <;> rfl) | (simp [*, errW_none, errW_some] <;> rfl), pb_ HB⟩

end Go.Proofs.YtpfilldnfpcpkaaGreatDoor.PPo

namespace Go.Proofs.YtpfilldnfpcpkaaGreatDoor.PPo
open Go.RowKit Go.Proofs.YtpfilldnfpcpkaaGreatDoorW.PrintWords Go.Proofs.YtpfilldnfpcpkaaGreatDoorW.PrintLast Go.Proofs.YtpfilldnfpcpkaaGreatDoorW.PrintMore
attribute [local go_sem] max2_int min2_int max_two min_two max_three min_three max_four min_four   -- for this text's walks alone

mutual
def platbookref01_Bits.l0 : Nat → List Int → Int → Int → Int → Option (List Int)
 | 0, _, _, _, _ => none
 | k + 1, x3, x4, x5, x6 => if x6 < 64 then (if x3.length < 17592186044416 then (platbookref01_Bits.l0 k (x3 ++ [wrap64 (Int.tmod x4 2)]) (IntKind.u64.wrap (Int.tdiv x4 2)) x5 (wrap64 (x6 + 1))) else (none)) else (platbookref01_Bits.l1 k x3 x5 0)
def platbookref01_Bits.l1 : Nat → List Int → Int → Int → Option (List Int)
 | 0, _, _, _ => none
 | k + 1, x3, x5, x7 => if x7 < 64 then (if x3.length < 17592186044416 then (platbookref01_Bits.l1 k (x3 ++ [wrap64 (Int.tmod x5 2)]) (IntKind.u64.wrap (Int.tdiv x5 2)) (wrap64 (x7 + 1))) else (none)) else (some x3)
end
def platbookref01_Bits.f (k : Nat) (a0_0 : Int) (a0_1 : Int) : Option (List Int) := platbookref01_Bits.l0 k (([] : List Int)) a0_1 a0_0 0
set_option maxHeartbeats 8000000 in
set_option maxRecDepth 100000 in
theorem platbookref01_Bits.calls (k : Nat) (a0_0 : Int) (a0_1 : Int) (r : List Int) (w : World) (h : platbookref01_Bits.f k a0_0 a0_1 = some r) :
  Calls Tryz.prog 145 #[.agg #[.int .u64 a0_0, .int .u64 a0_1]] w fun e w' => ∃ v0_ : Value, e = .returned (v0_) ∧ Kd.R (Kd.int .i64) 3 w' w.heap.size (fun _ => True) v0_ r ∧ Below w.heap.size w w' := by
 have hu24 := Tryz.underlying24
 have HB := Aside0.mk (Below.refl w.heap.size w)
 have H : (platbookref01_Bits.l0 k (([] : List Int)) a0_1 a0_0 0) = some r := h
 clear h
 obtain ⟨y242, hy242⟩ : ∃ y_ : List Int, y_ = (([] : List Int)) := ⟨_, rfl⟩
 replace H : (platbookref01_Bits.l0 k y242 a0_1 a0_0 0) = some r := by first | (rw [hy242]; with_reducible exact H) | (have H2_ := (Option.bind_some _ _).symm.trans H; rw [hy242]; with_reducible exact H2_) | (have H2_ := (Option.bind_some _ _).symm.trans H; with_reducible exact H2_) | with_reducible exact H | (rw [hy242]; exact H) | exact H
 have Ny242 := Aside0.mk hy242
 clear hy242
 have H' := Aside0.mk H
 clear H
 go_enter Tryz.func145, Tryz.ntmps145
 go_wp2_with (first | ((with_reducible refine gate_dst (N := 1) rfl ?_); refine bx_ 1 #[.int .u64 a0_0, .int .u64 a0_1] 24 ?_; intro gb241 hg w2 hbox hb; have BK241 := Aside0.mk (hbox); have GW241 := gw_ HB hg; have GE241 := gw_ HB hg; replace HB := bs_ HB hb; clear hb hbox hg) | ((with_reducible refine gate_dst (N := 8) rfl ?_); refine Kd.R_lit (Kd.int .i64) _ 3 ?hg (N := 8) ?hd (xs := ([] : List Int)) (inner := []) (ok := fun _ => True) (okp := fun _ => True) ?hr ?hp (fun _ hk => hk) trivial (Below.refl _ _) (Nat.le_refl _) (by simp) ?_; (case hd => rfl); (case hg => rfl); (case hr => first | (go_simp; done) | (go_simp; rfl)); (case hp => exact (Reps.none _ _)); intro v243 w3 ho4 hb hg_ hnew_; clear hg_ hnew_; (first | rw [← Ny242.out] at ho4 | (simp only [Int.reduceToNat] at ho4; rw [← Ny242.out] at ho4)); have HO244 := Aside0.mk (Kd.R_lower ho4 (below_size (pb_ HB))); replace BK241 := bb_ BK241 hb; replace HB := bs_ HB hb; clear hb ho4; obtain ⟨hcz5_0, hcz5_1, hfz5_0, hfz5_1⟩ := c2_ BK241))
 go_loopg [3, 4, 6] k (fun kq v3 v4 v6 w' => ∃ (x3_1 : List Int) (x4_1 : Int) (x6_1 : Int), v4 = .int .u64 x4_1 ∧ v6 = .int .i64 x6_1 ∧ Aside0 (platbookref01_Bits.l0 kq x3_1 x4_1 a0_0 x6_1 = some r) ∧ Aside0 (kq ≤ k) ∧ Aside0 (Kd.R (Kd.int .i64) 3 w' w.heap.size (fun _ => True) v3 x3_1) ∧ Aside0 (w'.heap[gb241]? = some (.cells #[.int .u64 a0_0, .int .u64 a0_1] 24 (0, 0))) ∧ Aside0 (Below w.heap.size w w'))
 case atStart => exact ⟨(y242), (a0_1), (0), (by first | rfl | (simp; done) | (simp [*]; done)), (by first | rfl | (simp; done) | (simp [*]; done)), H', ⟨Nat.le_refl _⟩, ⟨by (with_reducible repeat (first | apply Kd.R_alloc | apply Kd.R_drewN | apply Kd.R_drew)); exact HO244.out⟩, ⟨by refine pw_ ?_; exact BK241.out⟩, ⟨pb_ HB⟩⟩
 case round =>
  clear H'
  try clear c1
  try clear p2
  try clear hcz5_0
  try clear hcz5_1
  try clear hfz5_0
  try clear hfz5_1
  obtain ⟨x3_1, x4_1, x6_1, rfl, rfl, HA, HK1, HO_3, BK241, HB⟩ := hrel
  cases gk with
  | zero => exact absurd HA.out (by simp [platbookref01_Bits.l0])
  | succ k1 =>
   have H := HA.out
   clear HA
   simp only [platbookref01_Bits.l0] at H
   by_cases c6 : x6_1 < 64
   ·
    rw [if_pos c6] at H
    have c6b0 : decide (x6_1 < 64) = true := decide_eq_true c6
    clear c6
    by_cases c7 : x3_1.length < 17592186044416
    ·
     rw [if_pos c7] at H
     have LMc7 := Aside0.mk c7
     clear c7
     obtain ⟨y245, hy245⟩ : ∃ y_ : List Int, y_ = (x3_1 ++ [wrap64 (Int.tmod x4_1 2)]) := ⟨_, rfl⟩
     replace H : (platbookref01_Bits.l0 k1 y245 (IntKind.u64.wrap (Int.tdiv x4_1 2)) a0_0 (wrap64 (x6_1 + 1))) = some r := by first | (rw [hy245]; with_reducible exact H) | (have H2_ := (Option.bind_some _ _).symm.trans H; rw [hy245]; with_reducible exact H2_) | (have H2_ := (Option.bind_some _ _).symm.trans H; with_reducible exact H2_) | with_reducible exact H | (rw [hy245]; exact H) | exact H
     have Ny245 := Aside0.mk hy245
     clear hy245
     have H' := Aside0.mk H
     clear H
     go_wp2_with (first | ((with_reducible refine gate_builtin (b := .append) (xs := #[.tmp 17, .tmp 21]) rfl ?_); at_builtin; refine Kd.R_append (Kd.int .i64) (w0 := w) w.heap.size rfl (.tmp 17) (.tmp 21) 52 3 (.int .i64 0) 8 rfl Tryz.underlying52 info3 rfl (by decide) (by omega) u3 x3_1 (wrap64 (Int.tmod x4_1 2)) [.int .i64 (wrap64 (Int.tmod x4_1 2))] (fun _ => True) (fun _ => False) rfl rfl ?aP (fun _ hk => hk.elim) ?aF ?aO ?aB ?aS ?aL ?_; (case aP => exact rfl); (case aB => exact (pb_ HB)); (case aF => exact (fun _ _ => trivial)); (case aO => exact (by (with_reducible repeat (first | apply Kd.R_alloc | apply Kd.R_drewN | apply Kd.R_drew)); exact HO_3.out)); (case aS => exact (below_size (pb_ HB))); (case aL => have := LMc7.out; omega); intro v246 w8 ho hb hg hat; rw [← Ny245.out] at ho; have HO247 := Aside0.mk (ho); replace BK241 := Aside0.mk (blk_grown (g := gb241) (o := .cells #[.int .u64 a0_0, .int .u64 a0_1] 24 (0, 0)) (pk_ BK241) hg (Kd.R_ne HO_3.out BK241.out (by decide))); replace HB := Aside0.mk (hb); clear HO_3; clear ho hb hg hat))
     go_roundg k1
     case measure => have := HK1.out; omega
     case rel => exact ⟨(y245), (IntKind.u64.wrap (Int.tdiv x4_1 2)), (wrap64 (x6_1 + 1)), (by first | rfl | (simp; done) | (simp [*]; done)), (by first | rfl | (simp; done) | (simp [*]; done)), H', ⟨by have := HK1.out; omega⟩, ⟨by (with_reducible repeat (first | apply Kd.R_alloc | apply Kd.R_drewN | apply Kd.R_drew)); exact HO247.out⟩, ⟨by refine pw_ ?_; exact BK241.out⟩, ⟨pb_ HB⟩⟩
    ·
     rw [if_neg c7] at H
     exact absurd H (by simp)
   ·
    rw [if_neg c6] at H
    have c6b0 : decide (x6_1 < 64) = false := decide_eq_false c6
    clear c6
    have H' := Aside0.mk H
    clear H
    go_wp2
    go_loopg [3, 5, 7] k1 (fun kq v3 v5 v7 w' => ∃ (x3_2 : List Int) (x5_2 : Int) (x7_2 : Int), v5 = .int .u64 x5_2 ∧ v7 = .int .i64 x7_2 ∧ Aside0 (platbookref01_Bits.l1 kq x3_2 x5_2 x7_2 = some r) ∧ Aside0 (kq ≤ k1) ∧ Aside0 (Kd.R (Kd.int .i64) 3 w' w.heap.size (fun _ => True) v3 x3_2) ∧ Aside0 (w'.heap[gb241]? = some (.cells #[.int .u64 a0_0, .int .u64 a0_1] 24 (0, 0))) ∧ Aside0 (Below w.heap.size w w'))
    case atStart => exact ⟨(x3_1), (a0_0), (0), (by first | rfl | (simp; done) | (simp [*]; done)), (by first | rfl | (simp; done) | (simp [*]; done)), H', ⟨Nat.le_refl _⟩, ⟨by (with_reducible repeat (first | apply Kd.R_alloc | apply Kd.R_drewN | apply Kd.R_drew)); exact HO_3.out⟩, ⟨by refine pw_ ?_; exact BK241.out⟩, ⟨pb_ HB⟩⟩
    case round =>
     clear H'
     try clear c1
     try clear p2
     try clear c6
     try clear c6b0
     try clear p6
     try clear c7
     try clear hcz5_0
     try clear hcz5_1
     try clear hfz5_0
     try clear hfz5_1
     try clear p2
     obtain ⟨x3_2, x5_2, x7_2, rfl, rfl, HA, HK2, HO_3, BK241, HB⟩ := hrel
     cases gk with
     | zero => exact absurd HA.out (by simp [platbookref01_Bits.l1])
     | succ k2 =>
      have H := HA.out
      clear HA
      simp only [platbookref01_Bits.l1] at H
      by_cases c9 : x7_2 < 64
      ·
       rw [if_pos c9] at H
       have c9b0 : decide (x7_2 < 64) = true := decide_eq_true c9
       clear c9
       by_cases c10 : x3_2.length < 17592186044416
       ·
        rw [if_pos c10] at H
        have LMc10 := Aside0.mk c10
        clear c10
        obtain ⟨y248, hy248⟩ : ∃ y_ : List Int, y_ = (x3_2 ++ [wrap64 (Int.tmod x5_2 2)]) := ⟨_, rfl⟩
        replace H : (platbookref01_Bits.l1 k2 y248 (IntKind.u64.wrap (Int.tdiv x5_2 2)) (wrap64 (x7_2 + 1))) = some r := by first | (rw [hy248]; with_reducible exact H) | (have H2_ := (Option.bind_some _ _).symm.trans H; rw [hy248]; with_reducible exact H2_) | (have H2_ := (Option.bind_some _ _).symm.trans H; with_reducible exact H2_) | with_reducible exact H | (rw [hy248]; exact H) | exact H
        have Ny248 := Aside0.mk hy248
        clear hy248
        have H' := Aside0.mk H
        clear H
        go_wp2_with (first | ((with_reducible refine gate_builtin (b := .append) (xs := #[.tmp 29, .tmp 33]) rfl ?_); at_builtin; refine Kd.R_append (Kd.int .i64) (w0 := w) w.heap.size rfl (.tmp 29) (.tmp 33) 52 3 (.int .i64 0) 8 rfl Tryz.underlying52 info3 rfl (by decide) (by omega) u3 x3_2 (wrap64 (Int.tmod x5_2 2)) [.int .i64 (wrap64 (Int.tmod x5_2 2))] (fun _ => True) (fun _ => False) rfl rfl ?aP (fun _ hk => hk.elim) ?aF ?aO ?aB ?aS ?aL ?_; (case aP => exact rfl); (case aB => exact (pb_ HB)); (case aF => exact (fun _ _ => trivial)); (case aO => exact (by (with_reducible repeat (first | apply Kd.R_alloc | apply Kd.R_drewN | apply Kd.R_drew)); exact HO_3.out)); (case aS => exact (below_size (pb_ HB))); (case aL => have := LMc10.out; omega); intro v249 w11 ho hb hg hat; rw [← Ny248.out] at ho; have HO250 := Aside0.mk (ho); replace BK241 := Aside0.mk (blk_grown (g := gb241) (o := .cells #[.int .u64 a0_0, .int .u64 a0_1] 24 (0, 0)) (pk_ BK241) hg (Kd.R_ne HO_3.out BK241.out (by decide))); replace HB := Aside0.mk (hb); clear HO_3; clear ho hb hg hat))
        go_roundg k2
        case measure => have := HK1.out; have := HK2.out; omega
        case rel => exact ⟨(y248), (IntKind.u64.wrap (Int.tdiv x5_2 2)), (wrap64 (x7_2 + 1)), (by first | rfl | (simp; done) | (simp [*]; done)), (by first | rfl | (simp; done) | (simp [*]; done)), H', ⟨by have := HK1.out; have := HK2.out; omega⟩, ⟨by (with_reducible repeat (first | apply Kd.R_alloc | apply Kd.R_drewN | apply Kd.R_drew)); exact HO250.out⟩, ⟨by refine pw_ ?_; exact BK241.out⟩, ⟨pb_ HB⟩⟩
       ·
        rw [if_neg c10] at H
        exact absurd H (by simp)
      ·
       rw [if_neg c9] at H
       have c9b0 : decide (x7_2 < 64) = false := decide_eq_false c9
       clear c9
       obtain rfl := Option.some.inj H
       go_wp2
       go_ret
       exact ⟨_, by first | rfl | (simp [errW_none, errW_some] <;> rfl) | (simp [*, errW_none, errW_some] <;> rfl), by (with_reducible repeat (first | apply Kd.R_alloc | apply Kd.R_drewN | apply Kd.R_drew)); exact HO_3.out, pb_ HB⟩

def platbookref03_Row.l0 : Nat → List Int → List Int → Int → Option (List Int)
 | 0, _, _, _ => none
 | k + 1, x3, x4, x5 => if x5 ≥ 0 then (if 0 ≤ x5 then (if x5 < (x3.length : Int) then (if x4.length < 17592186044416 then (platbookref03_Row.l0 k x3 (x4 ++ [rd x3 x5]) (wrap64 (x5 - 1))) else (none)) else (none)) else (none)) else (some x4)
def platbookref03_Row.f (k : Nat) (a0_0 : Bool) (a0_1 : Int) (a0_2 : Int) : Option (List Int) := (platbookref01_Bits.f k a0_1 a0_2).bind fun t252 => ((platbookref02_Width.f a0_0 a0_1 a0_2).bind fun t258 => (platbookref03_Row.l0 k t252 (([] : List Int)) (wrap64 (t258 - 1))))
set_option maxHeartbeats 8000000 in
set_option maxRecDepth 100000 in
theorem platbookref03_Row.calls (k : Nat) (a0_0 : Bool) (a0_1 : Int) (a0_2 : Int) (r : List Int) (w : World) (h : platbookref03_Row.f k a0_0 a0_1 a0_2 = some r) :
  Calls Tryz.prog 107 #[.agg #[.bool a0_0, .int .u64 a0_1, .int .u64 a0_2]] w fun e w' => ∃ v0_ : Value, e = .returned (v0_) ∧ Kd.R (Kd.int .i64) 3 w' w.heap.size (fun _ => True) v0_ r ∧ Below w.heap.size w w' := by
 have hu26 := Tryz.underlying26
 have hu24 := Tryz.underlying24
 have HB := Aside0.mk (Below.refl w.heap.size w)
 have H : ((platbookref01_Bits.f k a0_1 a0_2).bind fun t252 => ((platbookref02_Width.f a0_0 a0_1 a0_2).bind fun t258 => (platbookref03_Row.l0 k t252 (([] : List Int)) (wrap64 (t258 - 1))))) = some r := h
 clear h
 replace H := Option.bind_eq_some_iff.mp H
 obtain ⟨t252, A20, H⟩ := H
 replace H : ((platbookref02_Width.f a0_0 a0_1 a0_2).bind fun t258 => (platbookref03_Row.l0 k t252 (([] : List Int)) (wrap64 (t258 - 1)))) = some r := H
 have A2 := Aside0.mk A20
 clear A20
 obtain ⟨y255, hy255⟩ : ∃ y_ : List Int, y_ = (([] : List Int)) := ⟨_, rfl⟩
 replace H : ((platbookref02_Width.f a0_0 a0_1 a0_2).bind fun t258 => (platbookref03_Row.l0 k t252 y255 (wrap64 (t258 - 1)))) = some r := by first | (rw [hy255]; with_reducible exact H) | (have H2_ := (Option.bind_some _ _).symm.trans H; rw [hy255]; with_reducible exact H2_) | (have H2_ := (Option.bind_some _ _).symm.trans H; with_reducible exact H2_) | with_reducible exact H | (rw [hy255]; exact H) | exact H
 have Ny255 := Aside0.mk hy255
 clear hy255
 replace H := Option.bind_eq_some_iff.mp H
 obtain ⟨t258, A30, H⟩ := H
 replace H : (platbookref03_Row.l0 k t252 y255 (wrap64 (t258 - 1))) = some r := H
 have A3 := Aside0.mk A30
 clear A30
 have H' := Aside0.mk H
 clear H
 go_enter Tryz.func107, Tryz.ntmps107
 go_wp2_with (first | ((with_reducible refine gate_dst (N := 1) rfl ?_); refine bx_ 1 #[.bool a0_0, .int .u64 a0_1, .int .u64 a0_2] 26 ?_; intro gb251 hg w4 hbox hb; have BK251 := Aside0.mk (hbox); have GW251 := gw_ HB hg; have GE251 := gw_ HB hg; replace HB := bs_ HB hb; clear hb hbox hg; obtain ⟨hcz5_0, hcz5_1, hcz5_2, hfz5_0, hfz5_1, hfz5_2⟩ := c3_ BK251) | ((with_reducible refine gate_callee (f := 145) rfl ?_); refine gl_ (some 8) Tryz.func145 #[.agg #[.int .u64 a0_1, .int .u64 a0_2]] ?_; (with_reducible refine (platbookref01_Bits.calls k a0_1 a0_2 t252 _ A2.out).mono ?_); rintro e w6 ⟨v253, rfl, ho0, hb⟩; refine ⟨_, rfl, ?_⟩; have HO254 := Aside0.mk (Kd.R_lower ho0 (below_size (pb_ HB))); replace BK251 := bb_ BK251 hb; replace HB := bs_ HB hb; (try clear hb); (try clear hb2); (try clear hk); (try clear hi); (try clear ho0)) | ((with_reducible refine gate_dst (N := 9) rfl ?_); refine Kd.R_lit (Kd.int .i64) _ 3 ?hg (N := 9) ?hd (xs := ([] : List Int)) (inner := []) (ok := fun _ => True) (okp := fun _ => True) ?hr ?hp (fun _ hk => hk) trivial (Below.refl _ _) (Nat.le_refl _) (by simp) ?_; (case hd => rfl); (case hg => rfl); (case hr => first | (go_simp; done) | (go_simp; rfl)); (case hp => exact (Reps.none _ _)); intro v256 w7 ho8 hb hg_ hnew_; clear hg_ hnew_; (first | rw [← Ny255.out] at ho8 | (simp only [Int.reduceToNat] at ho8; rw [← Ny255.out] at ho8)); have HO257 := Aside0.mk (Kd.R_lower (Kd.R_new' ho8 (Kd.R_lt (by (with_reducible repeat (first | apply Kd.R_alloc | apply Kd.R_drewN | apply Kd.R_drew)); exact HO254.out))) (below_size (pb_ HB))); replace HO254 := Aside0.mk (Kd.R_elder' (by (with_reducible repeat (first | apply Kd.R_alloc | apply Kd.R_drewN | apply Kd.R_drew)); exact HO254.out) (Kd.R_base ho8) hb); replace BK251 := bb_ BK251 hb; replace HB := bs_ HB hb; clear hb ho8; obtain ⟨hcz9_0, hcz9_1, hcz9_2, hfz9_0, hfz9_1, hfz9_2⟩ := c3_ BK251) | ((with_reducible refine gate_callee (f := 67) rfl ?_); refine gl_ (some 11) Tryz.func67 #[.agg #[.bool a0_0, .int .u64 a0_1, .int .u64 a0_2]] ?_; (with_reducible refine (platbookref02_Width.calls a0_0 a0_1 a0_2 t258 _ A3.out).mono ?_); rintro e w10 ⟨rfl, hb⟩; refine ⟨_, rfl, ?_⟩; replace HO254 := Aside0.mk (Kd.R_below (by (with_reducible repeat (first | apply Kd.R_alloc | apply Kd.R_drewN | apply Kd.R_drew)); exact HO254.out) hb); replace HO257 := Aside0.mk (Kd.R_below (by (with_reducible repeat (first | apply Kd.R_alloc | apply Kd.R_drewN | apply Kd.R_drew)); exact HO257.out) hb); replace BK251 := bb_ BK251 hb; replace HB := bs_ HB hb; (try clear hb); (try clear hb2); (try clear hk); (try clear hi)))
 go_loopg [4, 5] k (fun kq v4 v5 w' => ∃ (x4_1 : List Int) (x5_1 : Int), v5 = .int .i64 x5_1 ∧ Aside0 (platbookref03_Row.l0 kq t252 x4_1 x5_1 = some r) ∧ Aside0 (kq ≤ k) ∧ Aside0 (Kd.R (Kd.int .i64) 3 w' w.heap.size (fun k_ => some k_ ≠ (v4 : Value).ownBlock) v253 t252) ∧ Aside0 (Kd.R (Kd.int .i64) 3 w' w.heap.size (fun k_ => some k_ ≠ (v253 : Value).ownBlock) v4 x4_1) ∧ Aside0 (w'.heap[gb251]? = some (.cells #[.bool a0_0, .int .u64 a0_1, .int .u64 a0_2] 26 (0, 0))) ∧ Aside0 (Below w.heap.size w w'))
 case atStart => exact ⟨(y255), (wrap64 (t258 - 1)), (by first | rfl | (simp; done) | (simp [*]; done)), H', ⟨Nat.le_refl _⟩, ⟨by (with_reducible repeat (first | apply Kd.R_alloc | apply Kd.R_drewN | apply Kd.R_drew)); exact Kd.R_mono HO254.out (fun _ hk => hk.2)⟩, ⟨by (with_reducible repeat (first | apply Kd.R_alloc | apply Kd.R_drewN | apply Kd.R_drew)); exact Kd.R_mono HO257.out (fun _ hk => hk.2)⟩, ⟨by refine pw_ ?_; exact BK251.out⟩, ⟨pb_ HB⟩⟩
 case round =>
  clear H'
  try clear c1
  try clear p2
  try clear c6
  try clear p6
  try clear c10
  try clear hcz5_0
  try clear hcz5_1
  try clear hcz5_2
  try clear hcz9_0
  try clear hcz9_1
  try clear hcz9_2
  try clear hfz5_0
  try clear hfz5_1
  try clear hfz5_2
  try clear hfz9_0
  try clear hfz9_1
  try clear hfz9_2
  obtain ⟨x4_1, x5_1, rfl, HA, HK1, HO_3, HO_4, BK251, HB⟩ := hrel
  cases gk with
  | zero => exact absurd HA.out (by simp [platbookref03_Row.l0])
  | succ k1 =>
   have H := HA.out
   clear HA
   simp only [platbookref03_Row.l0] at H
   by_cases c11 : x5_1 ≥ 0
   ·
    rw [if_pos c11] at H
    have c11b0 : decide (0 ≤ x5_1) = true := decide_eq_true c11
    clear c11
    by_cases c12 : 0 ≤ x5_1
    ·
     rw [if_pos c12] at H
     have c12b0 : decide (0 ≤ x5_1) = true := decide_eq_true c12
     clear c12
     by_cases c13 : x5_1 < (t252.length : Int)
     ·
      rw [if_pos c13] at H
      have c13b0 : decide (x5_1 < (t252.length : Int)) = true := decide_eq_true c13
      clear c13
      by_cases c14 : x4_1.length < 17592186044416
      ·
       rw [if_pos c14] at H
       have LMc14 := Aside0.mk c14
       clear c14
       obtain ⟨y260, hy260⟩ : ∃ y_ : List Int, y_ = (x4_1 ++ [rd t252 x5_1]) := ⟨_, rfl⟩
       replace H : (platbookref03_Row.l0 k1 t252 y260 (wrap64 (x5_1 - 1))) = some r := by first | (rw [hy260]; with_reducible exact H) | (have H2_ := (Option.bind_some _ _).symm.trans H; rw [hy260]; with_reducible exact H2_) | (have H2_ := (Option.bind_some _ _).symm.trans H; with_reducible exact H2_) | with_reducible exact H | (rw [hy260]; exact H) | exact H
       have Ny260 := Aside0.mk hy260
       clear hy260
       have H' := Aside0.mk H
       clear H
       obtain ⟨Ao15, co15, eo15⟩ := Kd.R_slice HO_3.out
       subst eo15
       have p259 : 0 ≤ (x5_1 : Int) := of_decide_eq_true (by first | (with_reducible assumption) | assumption)
       have q259 : x5_1 < (t252.length : Int) := of_decide_eq_true (by first | (with_reducible assumption) | assumption)
       obtain ⟨ad259, e259, hx259_0⟩ := Kd.at_int (Kd.R_reads' HO_3.out).2.2 x5_1 p259 q259
       cases e259
       replace p259 := eq_true p259
       replace q259 := eq_true q259
       go_wp2_with (first | ((with_reducible refine gate_builtin (b := .append) (xs := #[.tmp 17, .tmp 22]) rfl ?_); at_builtin; refine Kd.R_append (Kd.int .i64) (w0 := w) w.heap.size rfl (.tmp 17) (.tmp 22) 52 3 (.int .i64 0) 8 rfl Tryz.underlying52 info3 rfl (by decide) (by omega) u4 x4_1 (rd t252 x5_1) [.int .i64 (rd t252 x5_1)] (fun k_ => some k_ ≠ (.slice (some ad259) t252.length co15 : Value).ownBlock) (fun _ => False) rfl rfl ?aP (fun _ hk => hk.elim) ?aF ?aO ?aB ?aS ?aL ?_; (case aP => exact rfl); (case aB => exact (pb_ HB)); (case aF => exact (fun k_ hk => Kd.fresh' (Kd.R_lt (by (with_reducible repeat (first | apply Kd.R_alloc | apply Kd.R_drewN | apply Kd.R_drew)); exact HO_3.out)) k_ hk)); (case aO => exact (by (with_reducible repeat (first | apply Kd.R_alloc | apply Kd.R_drewN | apply Kd.R_drew)); exact HO_4.out)); (case aS => exact (below_size (pb_ HB))); (case aL => have := LMc14.out; omega); intro v261 w16 ho hb hg hat; rw [← Ny260.out] at ho; have HO262 := Aside0.mk (ho); replace HO_3 := Aside0.mk (Kd.R_after (ok := (fun _ => True)) (by (with_reducible repeat (first | apply Kd.R_alloc | apply Kd.R_drewN | apply Kd.R_drew)); exact Kd.R_mono HO_3.out (fun _ hk => ⟨trivial, hk⟩)) hg hat); replace BK251 := Aside0.mk (blk_grown (g := gb251) (o := .cells #[.bool a0_0, .int .u64 a0_1, .int .u64 a0_2] 26 (0, 0)) (pk_ BK251) hg (Kd.R_ne HO_4.out BK251.out (by decide))); replace HB := Aside0.mk (hb); clear HO_4; clear ho hb hg hat))
       go_roundg k1
       case measure => have := HK1.out; omega
       case rel => exact ⟨(y260), (wrap64 (x5_1 - 1)), (by first | rfl | (simp; done) | (simp [*]; done)), H', ⟨by have := HK1.out; omega⟩, ⟨by (with_reducible repeat (first | apply Kd.R_alloc | apply Kd.R_drewN | apply Kd.R_drew)); exact Kd.R_mono HO_3.out (fun _ hk => hk.2)⟩, ⟨by (with_reducible repeat (first | apply Kd.R_alloc | apply Kd.R_drewN | apply Kd.R_drew)); exact HO262.out⟩, ⟨by refine pw_ ?_; exact BK251.out⟩, ⟨pb_ HB⟩⟩
      ·
       rw [if_neg c14] at H
       exact absurd H (by simp)
     ·
      rw [if_neg c13] at H
      exact absurd H (by simp)
    ·
     rw [if_neg c12] at H
     exact absurd H (by simp)
   ·
    rw [if_neg c11] at H
    have c11b0 : decide (0 ≤ x5_1) = false := decide_eq_false c11
    clear c11
    obtain rfl := Option.some.inj H
    go_wp2
    go_ret
    exact ⟨_, by first | rfl | (simp [errW_none, errW_some] <;> rfl) | (simp [*, errW_none, errW_some] <;> rfl), by (with_reducible repeat (first | apply Kd.R_alloc | apply Kd.R_drewN | apply Kd.R_drew)); exact Kd.R_mono HO_4.out (fun _ hk => trivial), pb_ HB⟩

mutual
def platbookref01_Num.l0 : Nat → List Int → Int → Int → Int → Option (Int × Int)
 | 0, _, _, _, _ => none
 | k + 1, x0, x4, x265000, x265001 => if x4 ≥ 64 then (if x4 < (x0.length : Int) then (if 0 ≤ x4 then (platbookref01_Num.l0 k x0 (wrap64 (x4 - 1)) (IntKind.u64.wrap ((IntKind.u64.wrap (x265000 * 2)) + (IntKind.u64.wrap (rd x0 x4)))) x265001) else (none)) else (platbookref01_Num.l0 k x0 (wrap64 (x4 - 1)) (IntKind.u64.wrap (x265000 * 2)) x265001)) else (platbookref01_Num.l1 k x0 63 x265000 x265001)
def platbookref01_Num.l1 : Nat → List Int → Int → Int → Int → Option (Int × Int)
 | 0, _, _, _, _ => none
 | k + 1, x0, x5, x265000, x265001 => if x5 ≥ 0 then (if x5 < (x0.length : Int) then (if 0 ≤ x5 then (platbookref01_Num.l1 k x0 (wrap64 (x5 - 1)) x265000 (IntKind.u64.wrap ((IntKind.u64.wrap (x265001 * 2)) + (IntKind.u64.wrap (rd x0 x5))))) else (none)) else (platbookref01_Num.l1 k x0 (wrap64 (x5 - 1)) x265000 (IntKind.u64.wrap (x265001 * 2)))) else (some (x265000, x265001))
end
def platbookref01_Num.f (k : Nat) (l0 : List Int) : Option (Int × Int) := platbookref01_Num.l0 k l0 127 0 0
def platbookref01_Num.T7 : Bool × List (List Nat × List Nat) := (true, [([], []), ([0], [0]), ([], []), ([], []), ([2, 3], [2, 3]), ([4], [4]), ([5], [5]), ([1, 6], [1, 6]), ([0, 1, 2, 3, 4, 5, 6, 7], []), ([8, 7, 0, 1, 2, 3, 4, 5, 6, 7], [7, 8])])
def platbookref01_Num.B7 : List Nat := [0, 1, 0, 0, 12, 28, 60, 127, 255, 511]
theorem platbookref01_Num.tab7 : rtab .any (opsOf Tryz.f170 7) = platbookref01_Num.T7 := by kernel_rfl
theorem platbookref01_Num.bits7 : waitsOk platbookref01_Num.T7.2 platbookref01_Num.B7 = true := by kernel_rfl
def platbookref01_Num.T13 : Bool × List (List Nat × List Nat) := (true, [([], []), ([0], [0]), ([], []), ([], []), ([2, 3], [2, 3]), ([4], [4]), ([5], [5]), ([1, 6], [1, 6]), ([0, 1, 2, 3, 4, 5, 6, 7], []), ([8, 7, 0, 1, 2, 3, 4, 5, 6, 7], [7, 8])])
def platbookref01_Num.B13 : List Nat := [0, 1, 0, 0, 12, 28, 60, 127, 255, 511]
theorem platbookref01_Num.tab13 : rtab .any (opsOf Tryz.f170 13) = platbookref01_Num.T13 := by kernel_rfl
theorem platbookref01_Num.bits13 : waitsOk platbookref01_Num.T13.2 platbookref01_Num.B13 = true := by kernel_rfl
set_option maxHeartbeats 8000000 in
set_option maxRecDepth 100000 in
theorem platbookref01_Num.calls (k : Nat) (A0 : Option Addr) (c0 : Nat) (l0 : List Int) (r1 : Int) (r2 : Int) (w : World) (hr0 : Kd.C (Kd.int .i64) w A0 l0.length l0) (hc0 : l0.length ≤ c0) (h : platbookref01_Num.f k l0 = some (r1, r2)) :
  Calls Tryz.prog 170 #[.slice A0 l0.length c0] w fun e w' => e = .returned (.agg #[.int .u64 r1, .int .u64 r2]) ∧ Below w.heap.size w w' := by
 have hu24 := Tryz.underlying24
 have HR0 := Aside0.mk hr0
 have HC0 := Aside0.mk hc0
 clear hr0 hc0
 have HB := Aside0.mk (Below.refl w.heap.size w)
 have H : (platbookref01_Num.l0 k l0 127 0 0) = some (r1, r2) := h
 clear h
 have H' := Aside0.mk H
 clear H
 go_enter Tryz.func170, Tryz.ntmps170
 go_wp2_with (first | ((with_reducible refine gate_dst (N := 2) rfl ?_); refine bx_ 2 #[.int .u64 0, .int .u64 0] 24 ?_; intro gb263 hg w2 hbox hb; have BK263 := Aside0.mk (hbox); have GW263 := gw_ HB hg; have GE263 := gw_ HB hg; replace HB := bs_ HB hb; clear hb hbox hg) | ((with_reducible refine gate_dst (N := 3) rfl ?_); refine bx_ 3 #[.int .u64 0, .int .u64 0] 24 ?_; intro gb264 hg w3 hbox hb; have BK264 := Aside0.mk (hbox); have GW264 := gw_ HB hg; have GE264 := gw_ HB hg; have NB263_264 := nl_ BK263 hg; have NB264_263 := ng_ BK263 hg; replace BK263 := bb_ BK263 hb; replace HB := bs_ HB hb; clear hb hbox hg; have hnb4 := NB264_263.out; have hnc4 := NB263_264.out; obtain ⟨hcz5_0, hcz5_1, hfz5_0, hfz5_1⟩ := c2_ BK264))
 go_loopg [4] k (fun kq v4 w' => ∃ (x4_1 : Int) (x265000_1 : Int), v4 = .int .i64 x4_1 ∧ Aside0 (platbookref01_Num.l0 kq l0 x4_1 x265000_1 0 = some (r1, r2)) ∧ Aside0 (kq ≤ k) ∧ Aside0 (w'.heap[gb263]? = some (.cells #[.int .u64 0, .int .u64 0] 24 (0, 0))) ∧ Aside0 (w'.heap[gb264]? = some (.cells #[.int .u64 x265000_1, .int .u64 0] 24 (0, 0))) ∧ Aside0 (Below w.heap.size w w'))
 case atStart => exact ⟨(127), (0), (by first | rfl | (simp; done) | (simp [*]; done)), H', ⟨Nat.le_refl _⟩, ⟨by refine pw_ ?_; refine blk_far ?_ NB263_264.out _; refine pw_ ?_; refine blk_far ?_ NB263_264.out _; refine pw_ ?_; exact BK263.out⟩, ⟨by refine pw_ ?_; refine blk_put (cs := #[.int .u64 0, .int .u64 0]) ?_ 1 _ rfl; refine pw_ ?_; refine blk_put (cs := #[.int .u64 0, .int .u64 0]) ?_ 0 _ rfl; refine pw_ ?_; exact BK264.out⟩, ⟨pb_ HB⟩⟩
 case round =>
  clear H'
  try clear c1
  try clear p2
  try clear c4
  try clear hcz5_0
  try clear hcz5_1
  try clear hfz5_0
  try clear hfz5_1
  obtain ⟨x4_1, x265000_1, rfl, HA, HK1, BK263, BK264, HB⟩ := hrel
  cases gk with
  | zero => exact absurd HA.out (by simp [platbookref01_Num.l0])
  | succ k1 =>
   have H := HA.out
   clear HA
   simp only [platbookref01_Num.l0] at H
   by_cases c6 : x4_1 ≥ 64
   ·
    rw [if_pos c6] at H
    have c6b0 : decide (64 ≤ x4_1) = true := decide_eq_true c6
    clear c6
    by_cases c7 : x4_1 < (l0.length : Int)
    ·
     rw [if_pos c7] at H
     have c7b0 : decide (x4_1 < (l0.length : Int)) = true := decide_eq_true c7
     clear c7
     by_cases c8 : 0 ≤ x4_1
     ·
      rw [if_pos c8] at H
      have c8b0 : decide (0 ≤ x4_1) = true := decide_eq_true c8
      clear c8
      have H' := Aside0.mk H
      clear H
      have hnb9 := NB264_263.out
      have hnc9 := NB263_264.out
      obtain ⟨hcz10_0, hcz10_1, hfz10_0, hfz10_1⟩ := c2_ BK264
      try go_wp2
      have n0_ : Aside0 ((wr.setCell ⟨gb264, 0, none⟩ (.int .u64 (IntKind.u64.wrap (x265000_1 * 2)))).heap[gb263]? = some (.cells #[.int .u64 0, .int .u64 0] 24 (0, 0))) := ⟨by refine pw_ ?_; refine blk_far ?_ NB263_264.out _; refine pw_ ?_; exact BK263.out⟩
      have n1_ : Aside0 ((wr.setCell ⟨gb264, 0, none⟩ (.int .u64 (IntKind.u64.wrap (x265000_1 * 2)))).heap[gb264]? = some (.cells #[.int .u64 (IntKind.u64.wrap (x265000_1 * 2)), .int .u64 0] 24 (0, 0))) := ⟨by refine pw_ ?_; refine blk_put (cs := #[.int .u64 x265000_1, .int .u64 0]) ?_ 0 _ rfl; refine pw_ ?_; exact BK264.out⟩
      have n2_ : Aside0 (Below w.heap.size w (wr.setCell ⟨gb264, 0, none⟩ (.int .u64 (IntKind.u64.wrap (x265000_1 * 2))))) := ⟨pb_ HB⟩
      (try clear BK263)
      (try clear BK264)
      (try clear HB)
      generalize (wr.setCell ⟨gb264, 0, none⟩ (.int .u64 (IntKind.u64.wrap (x265000_1 * 2)))) = w11 at n0_ n1_ n2_ ⊢
      have BK263 := n0_
      have BK264 := n1_
      have HB := n2_
      clear n0_ n1_ n2_
      replace BK263 := Aside0.mk (blk_drew BK263.out)
      replace BK264 := Aside0.mk (blk_drew BK264.out)
      replace HB := Aside0.mk (below_drew1 HB.out)
      have p265 : 0 ≤ (x4_1 : Int) := of_decide_eq_true (by first | (with_reducible assumption) | assumption)
      have q265 : x4_1 < (l0.length : Int) := of_decide_eq_true (by first | (with_reducible assumption) | assumption)
      obtain ⟨ad265, e265, hx265_0⟩ := Kd.at_int HR0.out x4_1 p265 q265
      have hw265_0 := hx265_0
      cases e265
      replace hx265_0 := (HB.out.cell (World.block_lt_of_cell? w _ hx265_0)).trans hx265_0
      replace p265 := eq_true p265
      replace q265 := eq_true q265
      refine start_ (n := 10) (S := fun w' => w'.cell? ⟨gb264, 0, none⟩ = some (.int .u64 (IntKind.u64.wrap (x265000_1 * 2))) ∧ w'.cell? ⟨gb264, 1, none⟩ = some (.int .u64 0) ∧ w'.cell? (ad265.add (x4_1).toNat) = some (.int .i64 (rd l0 x4_1))) (ds := [9]) (bm_ 10 0) (by kernel_rfl) rfl rfl ⟨kc_ BK264 0, kc_ BK264 1, ((HB.out.cell (World.block_lt_of_cell? w _ hw265_0)).trans hw265_0)⟩ (fun hHeld => ?_); refine with_tabW platbookref01_Num.tab7 platbookref01_Num.bits7 (fun HT_ HW_ => ?_)
      generalize w11.drew = w12 at BK263 BK264 HB hx265_0 hHeld ⊢
      refine pu_ 0 (some 19) (bm_ 10 1) rfl HT_ ⟨by rfl, by intro w'; go_simp; with_reducible rfl⟩ ?_
      refine pu_ 2 (some 21) (bm_ 10 5) rfl HT_ ⟨by rfl, by intro w'; go_simp; with_reducible rfl⟩ ?_
      refine pu_ 3 (some 22) (bm_ 10 13) rfl HT_ ⟨by rfl, by intro w'; go_simp; with_reducible rfl⟩ ?_
      refine pu_ 4 (some 23) (bm_ 10 29) rfl HT_ ⟨by rfl, by intro w'; go_simp; with_reducible rfl⟩ ?_
      refine ta_ 1 (some 20) (bm_ 10 31) rfl HT_ HW_ ⟨by rfl, by rintro w' ⟨s0, s1, s2⟩; go_simp; with_reducible rfl⟩ hHeld ?_
      refine ta_ 5 (some 24) (bm_ 10 63) rfl HT_ HW_ ⟨by rfl, by rintro w' ⟨s0, s1, s2⟩; go_simp; with_reducible rfl⟩ hHeld ?_
      refine pu_ 6 (some 25) (bm_ 10 127) rfl HT_ ⟨by rfl, by intro w'; go_simp; with_reducible rfl⟩ ?_
      refine pu_ 7 (some 26) (bm_ 10 255) rfl HT_ ⟨by rfl, by intro w'; go_simp; with_reducible rfl⟩ ?_
      refine pu_ 8 (some 27) (bm_ 10 511) rfl HT_ ⟨by rfl, by intro w'; go_simp; with_reducible rfl⟩ ?_
      refine last_ (i := 9) (N := none) (bm_ 10 1023) rfl rfl (one_of HT_.out (by kernel_rfl)) (by decide) (fun K hK => ?_)
      have hs13 : w12.cell? ⟨gb264, 0, none⟩ = some (.int .u64 (IntKind.u64.wrap (x265000_1 * 2))) := kc_ BK264 0
      have hfs13 := blk_frozen BK264.out 0
      have hns13_0 := NB263_264.out
      have hms13_0 := NB264_263.out
      refine skip_ (w1 := ?_) (by rfl) rfl ?_ ?_
      rotate_left
      ·
       go_simp
       rfl
      refine hK.out _ _ ?_
      clear hK K
      refine done_ (done_of HT_.out (by kernel_rfl)) ?_
      try go_wp2
      go_roundg k1
      case measure => have := HK1.out; omega
      case rel => exact ⟨(wrap64 (x4_1 - 1)), (IntKind.u64.wrap ((IntKind.u64.wrap (x265000_1 * 2)) + (IntKind.u64.wrap (rd l0 x4_1)))), (by first | rfl | (simp; done) | (simp [*]; done)), H', ⟨by have := HK1.out; omega⟩, ⟨by refine pw_ ?_; refine blk_far ?_ NB263_264.out _; refine pw_ ?_; exact BK263.out⟩, ⟨by refine pw_ ?_; refine blk_put (cs := #[.int .u64 (IntKind.u64.wrap (x265000_1 * 2)), .int .u64 0]) ?_ 0 _ rfl; refine pw_ ?_; exact BK264.out⟩, ⟨pb_ HB⟩⟩
     ·
      rw [if_neg c8] at H
      exact absurd H (by simp)
    ·
     rw [if_neg c7] at H
     have c7b0 : decide (x4_1 < (l0.length : Int)) = false := decide_eq_false c7
     clear c7
     have H' := Aside0.mk H
     clear H
     have hnb14 := NB264_263.out
     have hnc14 := NB263_264.out
     obtain ⟨hcz15_0, hcz15_1, hfz15_0, hfz15_1⟩ := c2_ BK264
     go_wp2
     go_roundg k1
     case measure => have := HK1.out; omega
     case rel => exact ⟨(wrap64 (x4_1 - 1)), (IntKind.u64.wrap (x265000_1 * 2)), (by first | rfl | (simp; done) | (simp [*]; done)), H', ⟨by have := HK1.out; omega⟩, ⟨by refine pw_ ?_; refine blk_far ?_ NB263_264.out _; refine pw_ ?_; exact BK263.out⟩, ⟨by refine pw_ ?_; refine blk_put (cs := #[.int .u64 x265000_1, .int .u64 0]) ?_ 0 _ rfl; refine pw_ ?_; exact BK264.out⟩, ⟨pb_ HB⟩⟩
   ·
    rw [if_neg c6] at H
    have c6b0 : decide (64 ≤ x4_1) = false := decide_eq_false c6
    clear c6
    have H' := Aside0.mk H
    clear H
    go_wp2
    go_loopg [5] k1 (fun kq v5 w' => ∃ (x5_2 : Int) (x265001_2 : Int), v5 = .int .i64 x5_2 ∧ Aside0 (platbookref01_Num.l1 kq l0 x5_2 x265000_1 x265001_2 = some (r1, r2)) ∧ Aside0 (kq ≤ k1) ∧ Aside0 (w'.heap[gb263]? = some (.cells #[.int .u64 0, .int .u64 0] 24 (0, 0))) ∧ Aside0 (w'.heap[gb264]? = some (.cells #[.int .u64 x265000_1, .int .u64 x265001_2] 24 (0, 0))) ∧ Aside0 (Below w.heap.size w w'))
    case atStart => exact ⟨(63), (0), (by first | rfl | (simp; done) | (simp [*]; done)), H', ⟨Nat.le_refl _⟩, ⟨by refine pw_ ?_; exact BK263.out⟩, ⟨by refine pw_ ?_; exact BK264.out⟩, ⟨pb_ HB⟩⟩
    case round =>
     clear H'
     try clear c1
     try clear p2
     try clear q2
     try clear hx2
     try clear c4
     try clear c6
     try clear c6b0
     try clear p6
     try clear c7
     try clear c7b0
     try clear c8
     try clear c8b0
     try clear c9
     try clear c14
     try clear hcz10_0
     try clear hcz10_1
     try clear hcz15_0
     try clear hcz15_1
     try clear hcz5_0
     try clear hcz5_1
     try clear hfz10_0
     try clear hfz10_1
     try clear hfz15_0
     try clear hfz15_1
     try clear hfz5_0
     try clear hfz5_1
     try clear hx265_0
     try clear p2
     try clear p265
     try clear q265
     obtain ⟨x5_2, x265001_2, rfl, HA, HK2, BK263, BK264, HB⟩ := hrel
     cases gk with
     | zero => exact absurd HA.out (by simp [platbookref01_Num.l1])
     | succ k2 =>
      have H := HA.out
      clear HA
      simp only [platbookref01_Num.l1] at H
      by_cases c16 : x5_2 ≥ 0
      ·
       rw [if_pos c16] at H
       have c16b0 : decide (0 ≤ x5_2) = true := decide_eq_true c16
       clear c16
       by_cases c17 : x5_2 < (l0.length : Int)
       ·
        rw [if_pos c17] at H
        have c17b0 : decide (x5_2 < (l0.length : Int)) = true := decide_eq_true c17
        clear c17
        by_cases c18 : 0 ≤ x5_2
        ·
         rw [if_pos c18] at H
         have c18b0 : decide (0 ≤ x5_2) = true := decide_eq_true c18
         clear c18
         have H' := Aside0.mk H
         clear H
         have hnb19 := NB264_263.out
         have hnc19 := NB263_264.out
         obtain ⟨hcz20_0, hcz20_1, hfz20_0, hfz20_1⟩ := c2_ BK264
         try go_wp2
         have n0_ : Aside0 ((wr.setCell ⟨gb264, 1, none⟩ (.int .u64 (IntKind.u64.wrap (x265001_2 * 2)))).heap[gb263]? = some (.cells #[.int .u64 0, .int .u64 0] 24 (0, 0))) := ⟨by refine pw_ ?_; refine blk_far ?_ NB263_264.out _; refine pw_ ?_; exact BK263.out⟩
         have n1_ : Aside0 ((wr.setCell ⟨gb264, 1, none⟩ (.int .u64 (IntKind.u64.wrap (x265001_2 * 2)))).heap[gb264]? = some (.cells #[.int .u64 x265000_1, .int .u64 (IntKind.u64.wrap (x265001_2 * 2))] 24 (0, 0))) := ⟨by refine pw_ ?_; refine blk_put (cs := #[.int .u64 x265000_1, .int .u64 x265001_2]) ?_ 1 _ rfl; refine pw_ ?_; exact BK264.out⟩
         have n2_ : Aside0 (Below w.heap.size w (wr.setCell ⟨gb264, 1, none⟩ (.int .u64 (IntKind.u64.wrap (x265001_2 * 2))))) := ⟨pb_ HB⟩
         (try clear BK263)
         (try clear BK264)
         (try clear HB)
         generalize (wr.setCell ⟨gb264, 1, none⟩ (.int .u64 (IntKind.u64.wrap (x265001_2 * 2)))) = w21 at n0_ n1_ n2_ ⊢
         have BK263 := n0_
         have BK264 := n1_
         have HB := n2_
         clear n0_ n1_ n2_
         replace BK263 := Aside0.mk (blk_drew BK263.out)
         replace BK264 := Aside0.mk (blk_drew BK264.out)
         replace HB := Aside0.mk (below_drew1 HB.out)
         have p266 : 0 ≤ (x5_2 : Int) := of_decide_eq_true (by first | (with_reducible assumption) | assumption)
         have q266 : x5_2 < (l0.length : Int) := of_decide_eq_true (by first | (with_reducible assumption) | assumption)
         obtain ⟨ad266, e266, hx266_0⟩ := Kd.at_int HR0.out x5_2 p266 q266
         have hw266_0 := hx266_0
         cases e266
         replace hx266_0 := (HB.out.cell (World.block_lt_of_cell? w _ hx266_0)).trans hx266_0
         replace p266 := eq_true p266
         replace q266 := eq_true q266
         refine start_ (n := 10) (S := fun w' => w'.cell? ⟨gb264, 0, none⟩ = some (.int .u64 x265000_1) ∧ w'.cell? ⟨gb264, 1, none⟩ = some (.int .u64 (IntKind.u64.wrap (x265001_2 * 2))) ∧ w'.cell? (ad266.add (x5_2).toNat) = some (.int .i64 (rd l0 x5_2))) (ds := [9]) (bm_ 10 0) (by kernel_rfl) rfl rfl ⟨kc_ BK264 0, kc_ BK264 1, ((HB.out.cell (World.block_lt_of_cell? w _ hw266_0)).trans hw266_0)⟩ (fun hHeld => ?_); refine with_tabW platbookref01_Num.tab13 platbookref01_Num.bits13 (fun HT_ HW_ => ?_)
         generalize w21.drew = w22 at BK263 BK264 HB hx266_0 hHeld ⊢
         refine pu_ 0 (some 40) (bm_ 10 1) rfl HT_ ⟨by rfl, by intro w'; go_simp; with_reducible rfl⟩ ?_
         refine pu_ 2 (some 42) (bm_ 10 5) rfl HT_ ⟨by rfl, by intro w'; go_simp; with_reducible rfl⟩ ?_
         refine pu_ 3 (some 43) (bm_ 10 13) rfl HT_ ⟨by rfl, by intro w'; go_simp; with_reducible rfl⟩ ?_
         refine pu_ 4 (some 44) (bm_ 10 29) rfl HT_ ⟨by rfl, by intro w'; go_simp; with_reducible rfl⟩ ?_
         refine ta_ 1 (some 41) (bm_ 10 31) rfl HT_ HW_ ⟨by rfl, by rintro w' ⟨s0, s1, s2⟩; go_simp; with_reducible rfl⟩ hHeld ?_
         refine ta_ 5 (some 45) (bm_ 10 63) rfl HT_ HW_ ⟨by rfl, by rintro w' ⟨s0, s1, s2⟩; go_simp; with_reducible rfl⟩ hHeld ?_
         refine pu_ 6 (some 46) (bm_ 10 127) rfl HT_ ⟨by rfl, by intro w'; go_simp; with_reducible rfl⟩ ?_
         refine pu_ 7 (some 47) (bm_ 10 255) rfl HT_ ⟨by rfl, by intro w'; go_simp; with_reducible rfl⟩ ?_
         refine pu_ 8 (some 48) (bm_ 10 511) rfl HT_ ⟨by rfl, by intro w'; go_simp; with_reducible rfl⟩ ?_
         refine last_ (i := 9) (N := none) (bm_ 10 1023) rfl rfl (one_of HT_.out (by kernel_rfl)) (by decide) (fun K hK => ?_)
         have hs23 : w22.cell? ⟨gb264, 1, none⟩ = some (.int .u64 (IntKind.u64.wrap (x265001_2 * 2))) := kc_ BK264 1
         have hfs23 := blk_frozen BK264.out 1
         have hns23_0 := NB263_264.out
         have hms23_0 := NB264_263.out
         refine skip_ (w1 := ?_) (by rfl) rfl ?_ ?_
         rotate_left
         ·
          go_simp
          rfl
         refine hK.out _ _ ?_
         clear hK K
         refine done_ (done_of HT_.out (by kernel_rfl)) ?_
         try go_wp2
         go_roundg k2
         case measure => have := HK1.out; have := HK2.out; omega
         case rel => exact ⟨(wrap64 (x5_2 - 1)), (IntKind.u64.wrap ((IntKind.u64.wrap (x265001_2 * 2)) + (IntKind.u64.wrap (rd l0 x5_2)))), (by first | rfl | (simp; done) | (simp [*]; done)), H', ⟨by have := HK1.out; have := HK2.out; omega⟩, ⟨by refine pw_ ?_; refine blk_far ?_ NB263_264.out _; refine pw_ ?_; exact BK263.out⟩, ⟨by refine pw_ ?_; refine blk_put (cs := #[.int .u64 x265000_1, .int .u64 (IntKind.u64.wrap (x265001_2 * 2))]) ?_ 1 _ rfl; refine pw_ ?_; exact BK264.out⟩, ⟨pb_ HB⟩⟩
        ·
         rw [if_neg c18] at H
         exact absurd H (by simp)
       ·
        rw [if_neg c17] at H
        have c17b0 : decide (x5_2 < (l0.length : Int)) = false := decide_eq_false c17
        clear c17
        have H' := Aside0.mk H
        clear H
        have hnb24 := NB264_263.out
        have hnc24 := NB263_264.out
        obtain ⟨hcz25_0, hcz25_1, hfz25_0, hfz25_1⟩ := c2_ BK264
        go_wp2
        go_roundg k2
        case measure => have := HK1.out; have := HK2.out; omega
        case rel => exact ⟨(wrap64 (x5_2 - 1)), (IntKind.u64.wrap (x265001_2 * 2)), (by first | rfl | (simp; done) | (simp [*]; done)), H', ⟨by have := HK1.out; have := HK2.out; omega⟩, ⟨by refine pw_ ?_; refine blk_far ?_ NB263_264.out _; refine pw_ ?_; exact BK263.out⟩, ⟨by refine pw_ ?_; refine blk_put (cs := #[.int .u64 x265000_1, .int .u64 x265001_2]) ?_ 1 _ rfl; refine pw_ ?_; exact BK264.out⟩, ⟨pb_ HB⟩⟩
      ·
       rw [if_neg c16] at H
       have c16b0 : decide (0 ≤ x5_2) = false := decide_eq_false c16
       clear c16
       simp only [Option.some.injEq, Prod.mk.injEq] at H
       obtain ⟨rfl, rfl⟩ := H
       have hnb26 := NB264_263.out
       have hnc26 := NB263_264.out
       obtain ⟨hcz27_0, hcz27_1, hfz27_0, hfz27_1⟩ := c2_ BK264
       obtain ⟨hcz28_0, hcz28_1, hfz28_0, hfz28_1⟩ := c2_ BK263
       go_wp2
       refine bodyPost_ret (results_cell_row rfl _ _ gb263 24 #[.int .u64 x265000_1, .int .u64 x265001_2] (0, 0) _ rfl (by refine pw_ ?_; refine blk_put (cs := #[.int .u64 x265000_1, .int .u64 0]) ?_ 1 _ rfl; refine pw_ ?_; refine blk_put (cs := #[.int .u64 0, .int .u64 0]) ?_ 0 _ rfl; refine pw_ ?_; exact BK263.out) Tryz.underlying24 rfl (by kernel_rfl)) rfl ?_
       exact ⟨by first | rfl | (simp [errW_none, errW_some] <;> rfl) | (simp [*, errW_none, errW_some] <;> rfl), pb_ HB⟩

def platbookref03_Addr.l0 : Nat → Bool → List Int → List Int → Int → Option (Bool × Int × Int)
 | 0, _, _, _, _ => none
 | k + 1, x0, x1, x5, x6 => if x6 ≥ 0 then (if 0 ≤ x6 then (if x6 < (x1.length : Int) then (if x5.length < 17592186044416 then (platbookref03_Addr.l0 k x0 x1 (x5 ++ [rd x1 x6]) (wrap64 (x6 - 1))) else (none)) else (none)) else (none)) else ((platbookref01_Num.f k x5).bind fun bt275 => (some (x0, bt275.1, bt275.2)))
def platbookref03_Addr.f (k : Nat) (a0 : Bool) (l1 : List Int) : Option (Bool × Int × Int) := platbookref03_Addr.l0 k a0 l1 (([] : List Int)) (wrap64 ((l1.length : Int) - 1))
set_option maxHeartbeats 8000000 in
set_option maxRecDepth 100000 in
theorem platbookref03_Addr.calls (k : Nat) (a0 : Bool) (A1 : Option Addr) (c1 : Nat) (l1 : List Int) (r1 : Bool) (r2 : Int) (r3 : Int) (w : World) (hr1 : Kd.C (Kd.int .i64) w A1 l1.length l1) (hc1 : l1.length ≤ c1) (h : platbookref03_Addr.f k a0 l1 = some (r1, r2, r3)) :
  Calls Tryz.prog 146 #[.bool a0, .slice A1 l1.length c1] w fun e w' => e = .returned (.agg #[.bool r1, .int .u64 r2, .int .u64 r3]) ∧ Below w.heap.size w w' := by
 have hu26 := Tryz.underlying26
 have HR1 := Aside0.mk hr1
 have HC1 := Aside0.mk hc1
 clear hr1 hc1
 have HB := Aside0.mk (Below.refl w.heap.size w)
 have H : (platbookref03_Addr.l0 k a0 l1 (([] : List Int)) (wrap64 ((l1.length : Int) - 1))) = some (r1, r2, r3) := h
 clear h
 obtain ⟨y268, hy268⟩ : ∃ y_ : List Int, y_ = (([] : List Int)) := ⟨_, rfl⟩
 replace H : (platbookref03_Addr.l0 k a0 l1 y268 (wrap64 ((l1.length : Int) - 1))) = some (r1, r2, r3) := by first | (rw [hy268]; with_reducible exact H) | (have H2_ := (Option.bind_some _ _).symm.trans H; rw [hy268]; with_reducible exact H2_) | (have H2_ := (Option.bind_some _ _).symm.trans H; with_reducible exact H2_) | with_reducible exact H | (rw [hy268]; exact H) | exact H
 have Ny268 := Aside0.mk hy268
 clear hy268
 have H' := Aside0.mk H
 clear H
 go_enter Tryz.func146, Tryz.ntmps146
 go_wp2_with (first | ((with_reducible refine gate_dst (N := 4) rfl ?_); refine bx_ 4 #[.bool false, .int .u64 0, .int .u64 0] 26 ?_; intro gb267 hg w3 hbox hb; have BK267 := Aside0.mk (hbox); have GW267 := gw_ HB hg; have GE267 := gw_ HB hg; replace HB := bs_ HB hb; clear hb hbox hg) | ((with_reducible refine gate_dst (N := 7) rfl ?_); refine Kd.R_lit (Kd.int .i64) _ 3 ?hg (N := 7) ?hd (xs := ([] : List Int)) (inner := []) (ok := fun _ => True) (okp := fun _ => True) ?hr ?hp (fun _ hk => hk) trivial (Below.refl _ _) (Nat.le_refl _) (by simp) ?_; (case hd => rfl); (case hg => rfl); (case hr => first | (go_simp; done) | (go_simp; rfl)); (case hp => exact (Reps.none _ _)); intro v269 w4 ho5 hb hg_ hnew_; clear hg_ hnew_; (first | rw [← Ny268.out] at ho5 | (simp only [Int.reduceToNat] at ho5; rw [← Ny268.out] at ho5)); have HO270 := Aside0.mk (Kd.R_lower ho5 (below_size (pb_ HB))); replace BK267 := bb_ BK267 hb; replace HB := bs_ HB hb; clear hb ho5))
 go_loopg [5, 6] k (fun kq v5 v6 w' => ∃ (x5_1 : List Int) (x6_1 : Int), v6 = .int .i64 x6_1 ∧ Aside0 (platbookref03_Addr.l0 kq a0 l1 x5_1 x6_1 = some (r1, r2, r3)) ∧ Aside0 (kq ≤ k) ∧ Aside0 (Kd.R (Kd.int .i64) 3 w' w.heap.size (fun _ => True) v5 x5_1) ∧ Aside0 (w'.heap[gb267]? = some (.cells #[.bool false, .int .u64 0, .int .u64 0] 26 (0, 0))) ∧ Aside0 (Below w.heap.size w w'))
 case atStart => exact ⟨(y268), (wrap64 ((l1.length : Int) - 1)), (by first | rfl | (simp; done) | (simp [*]; done)), H', ⟨Nat.le_refl _⟩, ⟨by (with_reducible repeat (first | apply Kd.R_alloc | apply Kd.R_drewN | apply Kd.R_drew)); exact HO270.out⟩, ⟨by refine pw_ ?_; exact BK267.out⟩, ⟨pb_ HB⟩⟩
 case round =>
  clear H'
  try clear c1
  try clear p2
  obtain ⟨x5_1, x6_1, rfl, HA, HK1, HO_5, BK267, HB⟩ := hrel
  cases gk with
  | zero => exact absurd HA.out (by simp [platbookref03_Addr.l0])
  | succ k1 =>
   have H := HA.out
   clear HA
   simp only [platbookref03_Addr.l0] at H
   by_cases c6 : x6_1 ≥ 0
   ·
    rw [if_pos c6] at H
    have c6b0 : decide (0 ≤ x6_1) = true := decide_eq_true c6
    clear c6
    by_cases c7 : 0 ≤ x6_1
    ·
     rw [if_pos c7] at H
     have c7b0 : decide (0 ≤ x6_1) = true := decide_eq_true c7
     clear c7
     by_cases c8 : x6_1 < (l1.length : Int)
     ·
      rw [if_pos c8] at H
      have c8b0 : decide (x6_1 < (l1.length : Int)) = true := decide_eq_true c8
      clear c8
      by_cases c9 : x5_1.length < 17592186044416
      ·
       rw [if_pos c9] at H
       have LMc9 := Aside0.mk c9
       clear c9
       obtain ⟨y272, hy272⟩ : ∃ y_ : List Int, y_ = (x5_1 ++ [rd l1 x6_1]) := ⟨_, rfl⟩
       replace H : (platbookref03_Addr.l0 k1 a0 l1 y272 (wrap64 (x6_1 - 1))) = some (r1, r2, r3) := by first | (rw [hy272]; with_reducible exact H) | (have H2_ := (Option.bind_some _ _).symm.trans H; rw [hy272]; with_reducible exact H2_) | (have H2_ := (Option.bind_some _ _).symm.trans H; with_reducible exact H2_) | with_reducible exact H | (rw [hy272]; exact H) | exact H
       have Ny272 := Aside0.mk hy272
       clear hy272
       have H' := Aside0.mk H
       clear H
       have p271 : 0 ≤ (x6_1 : Int) := of_decide_eq_true (by first | (with_reducible assumption) | assumption)
       have q271 : x6_1 < (l1.length : Int) := of_decide_eq_true (by first | (with_reducible assumption) | assumption)
       obtain ⟨ad271, e271, hx271_0⟩ := Kd.at_int HR1.out x6_1 p271 q271
       cases e271
       replace hx271_0 := (HB.out.cell (World.block_lt_of_cell? w _ hx271_0)).trans hx271_0
       replace p271 := eq_true p271
       replace q271 := eq_true q271
       go_wp2_with (first | ((with_reducible refine gate_builtin (b := .append) (xs := #[.tmp 15, .tmp 20]) rfl ?_); at_builtin; refine Kd.R_append (Kd.int .i64) (w0 := w) w.heap.size rfl (.tmp 15) (.tmp 20) 52 3 (.int .i64 0) 8 rfl Tryz.underlying52 info3 rfl (by decide) (by omega) u5 x5_1 (rd l1 x6_1) [.int .i64 (rd l1 x6_1)] (fun _ => True) (fun _ => False) rfl rfl ?aP (fun _ hk => hk.elim) ?aF ?aO ?aB ?aS ?aL ?_; (case aP => exact rfl); (case aB => exact (pb_ HB)); (case aF => exact (fun _ _ => trivial)); (case aO => exact (by (with_reducible repeat (first | apply Kd.R_alloc | apply Kd.R_drewN | apply Kd.R_drew)); exact HO_5.out)); (case aS => exact (below_size (pb_ HB))); (case aL => have := LMc9.out; omega); intro v273 w10 ho hb hg hat; rw [← Ny272.out] at ho; have HO274 := Aside0.mk (ho); replace BK267 := Aside0.mk (blk_grown (g := gb267) (o := .cells #[.bool false, .int .u64 0, .int .u64 0] 26 (0, 0)) (pk_ BK267) hg (Kd.R_ne HO_5.out BK267.out (by decide))); replace HB := Aside0.mk (hb); clear HO_5; clear ho hb hg hat))
       go_roundg k1
       case measure => have := HK1.out; omega
       case rel => exact ⟨(y272), (wrap64 (x6_1 - 1)), (by first | rfl | (simp; done) | (simp [*]; done)), H', ⟨by have := HK1.out; omega⟩, ⟨by (with_reducible repeat (first | apply Kd.R_alloc | apply Kd.R_drewN | apply Kd.R_drew)); exact HO274.out⟩, ⟨by refine pw_ ?_; exact BK267.out⟩, ⟨pb_ HB⟩⟩
      ·
       rw [if_neg c9] at H
       exact absurd H (by simp)
     ·
      rw [if_neg c8] at H
      exact absurd H (by simp)
    ·
     rw [if_neg c7] at H
     exact absurd H (by simp)
   ·
    rw [if_neg c6] at H
    have c6b0 : decide (0 ≤ x6_1) = false := decide_eq_false c6
    clear c6
    replace H := Option.bind_eq_some_iff.mp H
    obtain ⟨⟨t275, t276⟩, A110, H⟩ := H
    replace H : (some (a0, t275, t276)) = some (r1, r2, r3) := H
    have A11 := Aside0.mk A110
    clear A110
    simp only [Option.some.injEq, Prod.mk.injEq] at H
    obtain ⟨rfl, rfl, rfl⟩ := H
    obtain ⟨Ao12, co12, eo12⟩ := Kd.R_slice HO_5.out
    subst eo12
    go_wp2_with (first | ((with_reducible refine gate_callee (f := 170) rfl ?_); refine gl_ (some 24) Tryz.func170 #[.slice Ao12 x5_1.length co12] ?_; (with_reducible refine (platbookref01_Num.calls k1 _ _ x5_1 t275 t276 _ ?side1 ?side2 A11.out).mono ?_); (case side1 => repeat (first | exact (Kd.R_reads' HO_5.out).2.2 | (with_reducible refine Kd.C_alloc ?_ _) | (with_reducible refine Kd.C_drewN ?_ _) | (with_reducible refine Kd.C_drew ?_))); (case side2 => exact (Kd.R_reads' HO_5.out).2.1); rintro e w13 ⟨rfl, hb⟩; refine ⟨_, rfl, ?_⟩; replace HO_5 := Aside0.mk (Kd.R_below (by (with_reducible repeat (first | apply Kd.R_alloc | apply Kd.R_drewN | apply Kd.R_drew)); exact HO_5.out) hb); replace BK267 := bb_ BK267 hb; replace HB := bs_ HB hb; (try clear hb); (try clear hb2); (try clear hk); (try clear hi); obtain ⟨hcz14_0, hcz14_1, hcz14_2, hfz14_0, hfz14_1, hfz14_2⟩ := c3_ BK267))
    refine bodyPost_ret (results_cell_row rfl _ _ gb267 26 #[.bool a0, .int .u64 t275, .int .u64 t276] (0, 0) _ rfl (by refine pw_ ?_; refine blk_put (cs := #[.bool a0, .int .u64 t275, .int .u64 0]) ?_ 2 _ rfl; refine pw_ ?_; refine blk_put (cs := #[.bool a0, .int .u64 0, .int .u64 0]) ?_ 1 _ rfl; refine pw_ ?_; refine blk_put (cs := #[.bool false, .int .u64 0, .int .u64 0]) ?_ 0 _ rfl; refine pw_ ?_; exact BK267.out) Tryz.underlying26 rfl (by kernel_rfl)) rfl ?_
    exact ⟨by first | rfl | (simp [errW_none, errW_some] <;> rfl) | (simp [*, errW_none, errW_some] <;> rfl), pb_ HB⟩

end Go.Proofs.YtpfilldnfpcpkaaGreatDoor.PPo

namespace Go.Proofs.YtpfilldnfpcpkaaGreatDoor.PPo
open Go.RowKit Go.Proofs.YtpfilldnfpcpkaaGreatDoorW.PrintWords Go.Proofs.YtpfilldnfpcpkaaGreatDoorW.PrintLast Go.Proofs.YtpfilldnfpcpkaaGreatDoorW.PrintMore
attribute [local go_sem] max2_int min2_int max_two min_two max_three min_three max_four min_four   -- for this text's walks alone

attribute [local go_sem high] eqA26
def platbookref03_Filled.l0 : Nat → Int → List Int → Int → Bool → Int → Int → Option (Bool × Int × Int)
 | 0, _, _, _, _, _, _ => none
 | k + 1, x2, x7, x8, x278000, x278001, x278002 => if x8 < (x7.length : Int) then (if 0 ≤ x8 then (platbookref03_Filled.l0 k x2 (x7.set (x8 : Int).toNat x2) (wrap64 (x8 + 1)) x278000 x278001 x278002) else (none)) else ((platbookref03_Addr.f k x278000 x7).bind fun bt283 => (some (bt283.1, bt283.2.1, bt283.2.2)))
def platbookref03_Filled.f (k : Nat) (a0_0 : Bool) (a0_1 : Int) (a0_2 : Int) (a1 : Int) (a2 : Int) : Option (Bool × Int × Int) := (platbookref03_Row.f k a0_0 a0_1 a0_2).bind fun t279 => (platbookref03_Filled.l0 k a2 t279 a1 a0_0 a0_1 a0_2)
set_option maxHeartbeats 8000000 in
set_option maxRecDepth 100000 in
theorem platbookref03_Filled.calls (k : Nat) (a0_0 : Bool) (a0_1 : Int) (a0_2 : Int) (a1 : Int) (a2 : Int) (r1 : Bool) (r2 : Int) (r3 : Int) (w : World) (h : platbookref03_Filled.f k a0_0 a0_1 a0_2 a1 a2 = some (r1, r2, r3)) :
  Calls Tryz.prog 108 #[.agg #[.bool a0_0, .int .u64 a0_1, .int .u64 a0_2], .int .i64 a1, .int .i64 a2] w fun e w' => e = .returned (.agg #[.bool r1, .int .u64 r2, .int .u64 r3]) ∧ Below w.heap.size w w' := by
 have hu26 := Tryz.underlying26
 have HB := Aside0.mk (Below.refl w.heap.size w)
 have H : ((platbookref03_Row.f k a0_0 a0_1 a0_2).bind fun t279 => (platbookref03_Filled.l0 k a2 t279 a1 a0_0 a0_1 a0_2)) = some (r1, r2, r3) := h
 clear h
 replace H := Option.bind_eq_some_iff.mp H
 obtain ⟨t279, A40, H⟩ := H
 replace H : (platbookref03_Filled.l0 k a2 t279 a1 a0_0 a0_1 a0_2) = some (r1, r2, r3) := H
 have A4 := Aside0.mk A40
 clear A40
 have H' := Aside0.mk H
 clear H
 go_enter Tryz.func108, Tryz.ntmps108
 go_wp2_with (first | ((with_reducible refine gate_dst (N := 3) rfl ?_); refine bx_ 3 #[.bool a0_0, .int .u64 a0_1, .int .u64 a0_2] 26 ?_; intro gb277 hg w5 hbox hb; have BK277 := Aside0.mk (hbox); have GW277 := gw_ HB hg; have GE277 := gw_ HB hg; replace HB := bs_ HB hb; clear hb hbox hg) | ((with_reducible refine gate_dst (N := 6) rfl ?_); refine bx_ 6 #[.bool false, .int .u64 0, .int .u64 0] 26 ?_; intro gb278 hg w6 hbox hb; have BK278 := Aside0.mk (hbox); have GW278 := gw_ HB hg; have GE278 := gw_ HB hg; have NB277_278 := nl_ BK277 hg; have NB278_277 := ng_ BK277 hg; replace BK277 := bb_ BK277 hb; replace HB := bs_ HB hb; clear hb hbox hg; have hnb7 := NB277_278.out; have hnc7 := NB278_277.out; obtain ⟨hcz8_0, hcz8_1, hcz8_2, hfz8_0, hfz8_1, hfz8_2⟩ := c3_ BK277) | ((with_reducible refine gate_callee (f := 107) rfl ?_); refine gl_ (some 10) Tryz.func107 #[.agg #[.bool a0_0, .int .u64 a0_1, .int .u64 a0_2]] ?_; (with_reducible refine (platbookref03_Row.calls k a0_0 a0_1 a0_2 t279 _ A4.out).mono ?_); rintro e w9 ⟨v280, rfl, ho0, hb⟩; refine ⟨_, rfl, ?_⟩; have HO281 := Aside0.mk (Kd.R_lower ho0 (below_size (pb_ HB))); replace BK277 := bb_ BK277 hb; replace BK278 := bb_ BK278 hb; replace HB := bs_ HB hb; (try clear hb); (try clear hb2); (try clear hk); (try clear hi); (try clear ho0)))
 go_loopg [8] k (fun kq v8 w' => ∃ (x7_1 : List Int) (x8_1 : Int), v8 = .int .i64 x8_1 ∧ Aside0 (platbookref03_Filled.l0 kq a2 x7_1 x8_1 a0_0 a0_1 a0_2 = some (r1, r2, r3)) ∧ Aside0 (kq ≤ k) ∧ Aside0 (Kd.R (Kd.int .i64) 3 w' w.heap.size (fun _ => True) v280 x7_1) ∧ Aside0 (w'.heap[gb277]? = some (.cells #[.bool a0_0, .int .u64 a0_1, .int .u64 a0_2] 26 (0, 0))) ∧ Aside0 (w'.heap[gb278]? = some (.cells #[.bool false, .int .u64 0, .int .u64 0] 26 (0, 0))) ∧ Aside0 (Below w.heap.size w w'))
 case atStart => exact ⟨(t279), (a1), (by first | rfl | (simp; done) | (simp [*]; done)), H', ⟨Nat.le_refl _⟩, ⟨by (with_reducible repeat (first | apply Kd.R_alloc | apply Kd.R_drewN | apply Kd.R_drew)); exact HO281.out⟩, ⟨by refine pw_ ?_; exact BK277.out⟩, ⟨by refine pw_ ?_; exact BK278.out⟩, ⟨pb_ HB⟩⟩
 case round =>
  clear H'
  try clear c1
  try clear p2
  try clear c7
  try clear hcz8_0
  try clear hcz8_1
  try clear hcz8_2
  try clear hfz8_0
  try clear hfz8_1
  try clear hfz8_2
  obtain ⟨x7_1, x8_1, rfl, HA, HK1, HO_7, BK277, BK278, HB⟩ := hrel
  cases gk with
  | zero => exact absurd HA.out (by simp [platbookref03_Filled.l0])
  | succ k1 =>
   have H := HA.out
   clear HA
   simp only [platbookref03_Filled.l0] at H
   by_cases c10 : x8_1 < (x7_1.length : Int)
   ·
    rw [if_pos c10] at H
    have c10b0 : decide (x8_1 < (x7_1.length : Int)) = true := decide_eq_true c10
    clear c10
    by_cases c11 : 0 ≤ x8_1
    ·
     rw [if_pos c11] at H
     have c11b0 : decide (0 ≤ x8_1) = true := decide_eq_true c11
     clear c11
     obtain ⟨y282, hy282⟩ : ∃ y_ : List Int, y_ = (x7_1.set (x8_1 : Int).toNat a2) := ⟨_, rfl⟩
     replace H : (platbookref03_Filled.l0 k1 a2 y282 (wrap64 (x8_1 + 1)) a0_0 a0_1 a0_2) = some (r1, r2, r3) := by first | (rw [hy282]; with_reducible exact H) | (have H2_ := (Option.bind_some _ _).symm.trans H; rw [hy282]; with_reducible exact H2_) | (have H2_ := (Option.bind_some _ _).symm.trans H; with_reducible exact H2_) | with_reducible exact H | (rw [hy282]; exact H) | exact H
     have Ny282 := Aside0.mk hy282
     clear hy282
     have H' := Aside0.mk H
     clear H
     obtain ⟨Ao13, co13, eo13⟩ := Kd.R_slice HO_7.out
     subst eo13
     have p12 : 0 ≤ (x8_1 : Int) := of_decide_eq_true (by first | (with_reducible assumption) | assumption)
     have q12 : (x8_1 : Int) < ((x7_1.length : Int) : Int) := of_decide_eq_true (by first | (with_reducible assumption) | assumption)
     obtain ⟨go12, co12, eo12, gb12, gl12, cl12, HG12⟩ := Kd.R_form HO_7.out (by omega)
     (first | cases eo12 | (injection eo12 with ea_ en_ ec_; (first | subst ea_ | (injection ea_ with ea_; subst ea_)); subst ec_; clear en_))
     have GB12 := Aside0.mk gb12
     have GG12 := Aside0.mk HG12
     clear gb12 gl12 HG12
     obtain ⟨hx12_0, hf12_0⟩ := Kd.R_celln 0 HO_7.out (x8_1 : Int) p12 q12
     replace p12 := eq_true p12
     replace q12 := eq_true q12
     have HP14 := Kd.R_putg HO_7.out (x8_1 : Int) a2
     go_wp2_with (first | ((with_reducible refine gate_store (t := 3) (p := 21) rfl ?_); refine store_event (t := 3) (p := 21) (v := ?vo_w15) (w1 := (wr.setCell ⟨go12, (x8_1 : Int).toNat, none⟩ (.int .i64 a2))) ?hg ?ho ?hn ?hr ?_; (case ho => rfl); (case hg => rfl); (case hn => rfl); (case hr => first | (go_simp; done) | (go_simp; rfl)); intro w15 hw; have hg : wr.grownBy w15 (some go12) := (by rw [hw]; exact HP14.2); have hp_ : Kd.R (Kd.int .i64) 3 w15 w.heap.size (fun _ => True) (.slice (some ⟨go12, 0, none⟩) x7_1.length co13) y282 := (by rw [hw, Ny282.out]; exact HP14.1); clear HP14; have n0_ := Aside0.mk (hp_); have n1_ := Aside0.mk (blk_grown (g := gb277) (o := .cells #[.bool a0_0, .int .u64 a0_1, .int .u64 a0_2] 26 (0, 0)) (pk_ BK277) hg (Kd.R_ne HO_7.out BK277.out (by decide))); have n2_ := Aside0.mk (blk_grown (g := gb278) (o := .cells #[.bool false, .int .u64 0, .int .u64 0] 26 (0, 0)) (pk_ BK278) hg (Kd.R_ne HO_7.out BK278.out (by decide))); have n3_ := Aside0.mk ((by rw [hw]; exact below_set (HB.out) GB12.out : Below w.heap.size w w15)); clear HO_7; clear BK277; clear BK278; clear HB; have HO_7 := n0_; have BK277 := n1_; have BK278 := n2_; have HB := n3_; clear n0_ n1_ n2_ n3_; clear hg hw hp_))
     go_roundg k1
     case measure => have := HK1.out; omega
     case rel => exact ⟨(y282), (wrap64 (x8_1 + 1)), (by first | rfl | (simp; done) | (simp [*]; done)), H', ⟨by have := HK1.out; omega⟩, ⟨by (with_reducible repeat (first | apply Kd.R_alloc | apply Kd.R_drewN | apply Kd.R_drew)); exact HO_7.out⟩, ⟨by refine pw_ ?_; exact BK277.out⟩, ⟨by refine pw_ ?_; exact BK278.out⟩, ⟨pb_ HB⟩⟩
    ·
     rw [if_neg c11] at H
     exact absurd H (by simp)
   ·
    rw [if_neg c10] at H
    have c10b0 : decide (x8_1 < (x7_1.length : Int)) = false := decide_eq_false c10
    clear c10
    replace H := Option.bind_eq_some_iff.mp H
    obtain ⟨⟨t283, t284, t285⟩, A160, H⟩ := H
    replace H : (some (t283, t284, t285)) = some (r1, r2, r3) := H
    have A16 := Aside0.mk A160
    clear A160
    simp only [Option.some.injEq, Prod.mk.injEq] at H
    obtain ⟨rfl, rfl, rfl⟩ := H
    obtain ⟨Ao17, co17, eo17⟩ := Kd.R_slice HO_7.out
    subst eo17
    have hnb18 := NB277_278.out
    have hnc18 := NB278_277.out
    obtain ⟨hcz19_0, hcz19_1, hcz19_2, hfz19_0, hfz19_1, hfz19_2⟩ := c3_ BK277
    go_wp2_with (first | ((with_reducible refine gate_callee (f := 146) rfl ?_); refine gl_ (some 25) Tryz.func146 #[.bool a0_0, .slice Ao17 x7_1.length co17] ?_; (with_reducible refine (platbookref03_Addr.calls k1 a0_0 _ _ x7_1 t283 t284 t285 _ ?side1 ?side2 A16.out).mono ?_); (case side1 => repeat (first | exact (Kd.R_reads' HO_7.out).2.2 | (with_reducible refine Kd.C_alloc ?_ _) | (with_reducible refine Kd.C_drewN ?_ _) | (with_reducible refine Kd.C_drew ?_))); (case side2 => exact (Kd.R_reads' HO_7.out).2.1); rintro e w20 ⟨rfl, hb⟩; refine ⟨_, rfl, ?_⟩; replace HO_7 := Aside0.mk (Kd.R_below (by (with_reducible repeat (first | apply Kd.R_alloc | apply Kd.R_drewN | apply Kd.R_drew)); exact HO_7.out) hb); replace BK277 := bb_ BK277 hb; replace BK278 := bb_ BK278 hb; replace HB := bs_ HB hb; (try clear hb); (try clear hb2); (try clear hk); (try clear hi); obtain ⟨hcz21_0, hcz21_1, hcz21_2, hfz21_0, hfz21_1, hfz21_2⟩ := c3_ BK278))
    refine bodyPost_ret (results_cell_row rfl _ _ gb278 26 #[.bool t283, .int .u64 t284, .int .u64 t285] (0, 0) _ rfl (by refine pw_ ?_; refine blk_put (cs := #[.bool t283, .int .u64 t284, .int .u64 0]) ?_ 2 _ rfl; refine pw_ ?_; refine blk_put (cs := #[.bool t283, .int .u64 0, .int .u64 0]) ?_ 1 _ rfl; refine pw_ ?_; refine blk_put (cs := #[.bool false, .int .u64 0, .int .u64 0]) ?_ 0 _ rfl; refine pw_ ?_; exact BK278.out) Tryz.underlying26 rfl (by kernel_rfl)) rfl ?_
    exact ⟨by first | rfl | (simp [errW_none, errW_some] <;> rfl) | (simp [*, errW_none, errW_some] <;> rfl), pb_ HB⟩

def platbookref03_Right.f (k : Nat) (a0_0 : Bool) (a0_1 : Int) (a0_2 : Int) (a0_3 : Int) : Option (Bool) := (platbookref02_Right.f a0_0 a0_1 a0_2).bind fun t287 => (if t287 = true then (if a0_3 < 0 then (some false) else ((platbookref02_Width.f a0_0 a0_1 a0_2).bind fun t288 => (if a0_3 > t288 then (some false) else ((platbookref03_Filled.f k a0_0 a0_1 a0_2 a0_3 0).bind fun bt289 => (some (bt289.1 == a0_0 && ((bt289.2.1 == a0_1 && (bt289.2.2 == a0_2))))))))) else (some false))
def platbookref03_Right.T1 : Bool × List (List Nat × List Nat) := (true, [([], []), ([0], [0]), ([1], [1]), ([2], [2]), ([3, 2], [3]), ([4], [4]), ([5, 4], [4, 5]), ([6, 4], [4, 6]), ([4, 7], [4, 7]), ([8, 4], [8]), ([9], [9]), ([10, 9], [9, 10]), ([9], [9]), ([12, 9], [9, 12]), ([13, 9, 9], [9, 13]), ([11, 14, 9], [9, 11, 14]), ([9, 15], [9, 15])])
def platbookref03_Right.B1 : List Nat := [0, 1, 3, 7, 15, 31, 63, 127, 255, 511, 1023, 2047, 1023, 5119, 13311, 32767, 65535]
theorem platbookref03_Right.tab1 : rtab .any (opsOf Tryz.f55 1) = platbookref03_Right.T1 := by kernel_rfl
theorem platbookref03_Right.bits1 : waitsOk platbookref03_Right.T1.2 platbookref03_Right.B1 = true := by kernel_rfl
def platbookref03_Right.T3 : Bool × List (List Nat × List Nat) := (true, [([], []), ([0], [0]), ([], []), ([2], [2]), ([1, 3], [1, 3]), ([], []), ([5], [5]), ([4, 6], [4, 6]), ([7, 4, 0, 1, 2, 3, 4, 5, 6, 7], [7])])
def platbookref03_Right.B3 : List Nat := [0, 1, 0, 4, 15, 0, 32, 127, 255]
theorem platbookref03_Right.tab3 : rtab .any (opsOf Tryz.f55 3) = platbookref03_Right.T3 := by kernel_rfl
theorem platbookref03_Right.bits3 : waitsOk platbookref03_Right.T3.2 platbookref03_Right.B3 = true := by kernel_rfl
set_option maxHeartbeats 8000000 in
set_option maxRecDepth 100000 in
theorem platbookref03_Right.calls (k : Nat) (a0_0 : Bool) (a0_1 : Int) (a0_2 : Int) (a0_3 : Int) (r : Bool) (w : World) (h : platbookref03_Right.f k a0_0 a0_1 a0_2 a0_3 = some r) :
  Calls Tryz.prog 55 #[.agg #[.bool a0_0, .int .u64 a0_1, .int .u64 a0_2, .int .i64 a0_3]] w fun e w' => e = .returned (.bool r) ∧ Below w.heap.size w w' := by
 have hu28 := Tryz.underlying28
 have hu26 := Tryz.underlying26
 have HB := Aside0.mk (Below.refl w.heap.size w)
 have H : ((platbookref02_Right.f a0_0 a0_1 a0_2).bind fun t287 => (if t287 = true then (if a0_3 < 0 then (some false) else ((platbookref02_Width.f a0_0 a0_1 a0_2).bind fun t288 => (if a0_3 > t288 then (some false) else ((platbookref03_Filled.f k a0_0 a0_1 a0_2 a0_3 0).bind fun bt289 => (some (bt289.1 == a0_0 && ((bt289.2.1 == a0_1 && (bt289.2.2 == a0_2))))))))) else (some false))) = some r := h
 clear h
 replace H := Option.bind_eq_some_iff.mp H
 obtain ⟨t287, A20, H⟩ := H
 replace H : (if t287 = true then (if a0_3 < 0 then (some false) else ((platbookref02_Width.f a0_0 a0_1 a0_2).bind fun t288 => (if a0_3 > t288 then (some false) else ((platbookref03_Filled.f k a0_0 a0_1 a0_2 a0_3 0).bind fun bt289 => (some (bt289.1 == a0_0 && ((bt289.2.1 == a0_1 && (bt289.2.2 == a0_2))))))))) else (some false)) = some r := H
 have A2 := Aside0.mk A20
 clear A20
 by_cases c3 : t287 = true
 ·
  subst c3
  rw [if_pos rfl] at H
  by_cases c4 : a0_3 < 0
  ·
   rw [if_pos c4] at H
   have c4b0 : decide (a0_3 < 0) = true := decide_eq_true c4
   clear c4
   obtain rfl := Option.some.inj H
   go_enter Tryz.func55, Tryz.ntmps55
   try go_wp2_with (first | ((with_reducible refine gate_dst (N := 1) rfl ?_); refine bx_ 1 #[.bool a0_0, .int .u64 a0_1, .int .u64 a0_2, .int .i64 a0_3] 28 ?_; intro gb286 hg w5 hbox hb; have BK286 := Aside0.mk (hbox); have GW286 := gw_ HB hg; have GE286 := gw_ HB hg; replace HB := bs_ HB hb; clear hb hbox hg))
   replace BK286 := Aside0.mk (blk_drew BK286.out)
   replace HB := Aside0.mk (below_drew1 HB.out)
   refine start_ (n := 17) (S := fun w' => w'.cell? ⟨gb286, 0, none⟩ = some (.bool a0_0) ∧ w'.cell? ⟨gb286, 1, none⟩ = some (.int .u64 a0_1) ∧ w'.cell? ⟨gb286, 2, none⟩ = some (.int .u64 a0_2) ∧ w'.cell? ⟨gb286, 3, none⟩ = some (.int .i64 a0_3)) (ds := []) (bm_ 17 0) (by kernel_rfl) rfl rfl ⟨kc_ BK286 0, kc_ BK286 1, kc_ BK286 2, kc_ BK286 3⟩ (fun hHeld => ?_); refine with_tabW platbookref03_Right.tab1 platbookref03_Right.bits1 (fun HT_ HW_ => ?_)
   generalize w5.drew = w6 at BK286 HB hHeld ⊢
   refine pu_ 0 (some 3) (bm_ 17 1) rfl HT_ ⟨by rfl, by intro w'; go_simp; with_reducible rfl⟩ ?_
   refine ta_ 1 (some 4) (bm_ 17 3) rfl HT_ HW_ ⟨by rfl, by rintro w' ⟨s0, s1, s2, s3⟩; go_simp; with_reducible rfl⟩ hHeld ?_
   refine one_ (i := 2) (N := some 5) (bm_ 17 7) rfl rfl (one_of HT_.out (by kernel_rfl)) (by decide) (fun K hK => ?_)
   refine gr_ Tryz.func105 #[.agg #[.bool a0_0, .int .u64 a0_1, .int .u64 a0_2]] ?_
   with_reducible refine (platbookref02_Right.calls a0_0 a0_1 a0_2 true _ A2.out).mono ?_
   rintro e w7 ⟨rfl, hb⟩
   refine ⟨_, rfl, ?_⟩
   replace BK286 := bb_ BK286 hb
   replace HB := bs_ HB hb
   (try clear hb)
   (try clear hb2)
   (try clear hk)
   (try clear hi)
   refine hK.out _ _ ⟨kc_ BK286 0, kc_ BK286 1, kc_ BK286 2, kc_ BK286 3⟩ (fun hHeld => ?_)
   clear hK K
   refine norm_ (a' := ?_) ?_ ?_
   rotate_left
   ·
    show Act.put _ (some 5) _ = _
    simp only [Act.put, List.setIfInBounds_toArray, List.set_cons_zero, List.set_cons_succ, i64_w, i32_w]
    rfl
   refine pu_ 3 (some 6) (bm_ 17 15) rfl HT_ ⟨by rfl, by intro w'; go_simp; with_reducible rfl⟩ ?_
   refine pu_ 4 (some 7) (bm_ 17 31) rfl HT_ ⟨by rfl, by intro w'; go_simp; with_reducible rfl⟩ ?_
   refine pu_ 5 (some 8) (bm_ 17 63) rfl HT_ ⟨by rfl, by intro w'; go_simp; with_reducible rfl⟩ ?_
   refine ta_ 6 (some 9) (bm_ 17 127) rfl HT_ HW_ ⟨by rfl, by rintro w' ⟨s0, s1, s2, s3⟩; go_simp; with_reducible rfl⟩ hHeld ?_
   refine pu_ 7 (some 10) (bm_ 17 255) rfl HT_ ⟨by rfl, by intro w'; go_simp; with_reducible rfl⟩ ?_
   refine pu_ 8 (some 11) (bm_ 17 511) rfl HT_ ⟨by rfl, by intro w'; go_simp; with_reducible rfl⟩ ?_
   refine pu_ 9 (some 12) (bm_ 17 1023) rfl HT_ ⟨by rfl, by intro w'; go_simp; with_reducible rfl⟩ ?_
   refine pure_ (i := 10) (N := some 13) (v := undef) (a' := ?_) (bm_ 17 2047) rfl rfl (any_of HT_.out (by kernel_rfl)) (fun _ _ _ h => h) (Or.inr ⟨by rfl, rfl⟩) ?_ ?_
   rotate_left
   ·
    simp only [Act.put, List.setIfInBounds_toArray, List.set_cons_zero, List.set_cons_succ, i64_w, i32_w]
    rfl
   refine pure_ (i := 11) (N := some 14) (v := undef) (a' := ?_) (bm_ 17 4095) rfl rfl (any_of HT_.out (by kernel_rfl)) (fun _ _ _ h => h) (Or.inr ⟨by rfl, rfl⟩) ?_ ?_
   rotate_left
   ·
    simp only [Act.put, List.setIfInBounds_toArray, List.set_cons_zero, List.set_cons_succ, i64_w, i32_w]
    rfl
   refine pure_ (i := 12) (N := some 15) (v := undef) (a' := ?_) (bm_ 17 8191) rfl rfl (any_of HT_.out (by kernel_rfl)) (fun _ _ _ h => h) (Or.inr ⟨by rfl, rfl⟩) ?_ ?_
   rotate_left
   ·
    simp only [Act.put, List.setIfInBounds_toArray, List.set_cons_zero, List.set_cons_succ, i64_w, i32_w]
    rfl
   refine pure_ (i := 13) (N := some 16) (v := undef) (a' := ?_) (bm_ 17 16383) rfl rfl (any_of HT_.out (by kernel_rfl)) (fun _ _ _ h => h) (Or.inr ⟨by rfl, rfl⟩) ?_ ?_
   rotate_left
   ·
    simp only [Act.put, List.setIfInBounds_toArray, List.set_cons_zero, List.set_cons_succ, i64_w, i32_w]
    rfl
   refine pure_ (i := 14) (N := some 17) (v := undef) (a' := ?_) (bm_ 17 32767) rfl rfl (any_of HT_.out (by kernel_rfl)) (fun _ _ _ h => h) (Or.inr ⟨by rfl, rfl⟩) ?_ ?_
   rotate_left
   ·
    simp only [Act.put, List.setIfInBounds_toArray, List.set_cons_zero, List.set_cons_succ, i64_w, i32_w]
    rfl
   refine pure_ (i := 15) (N := some 18) (v := undef) (a' := ?_) (bm_ 17 65535) rfl rfl (any_of HT_.out (by kernel_rfl)) (fun _ _ _ h => h) (Or.inr ⟨by rfl, rfl⟩) ?_ ?_
   rotate_left
   ·
    simp only [Act.put, List.setIfInBounds_toArray, List.set_cons_zero, List.set_cons_succ, i64_w, i32_w]
    rfl
   refine pu_ 16 (some 19) (bm_ 17 131071) rfl HT_ ⟨by rfl, by intro w'; go_simp; with_reducible rfl⟩ ?_
   refine done_ (done_of HT_.out (by kernel_rfl)) ?_
   try go_wp2
   go_ret
   exact ⟨by first | rfl | (simp [errW_none, errW_some] <;> rfl) | (simp [*, errW_none, errW_some] <;> rfl), pb_ HB⟩
  ·
   rw [if_neg c4] at H
   have c4b0 : decide (a0_3 < 0) = false := decide_eq_false c4
   clear c4
   replace H := Option.bind_eq_some_iff.mp H
   obtain ⟨t288, A80, H⟩ := H
   replace H : (if a0_3 > t288 then (some false) else ((platbookref03_Filled.f k a0_0 a0_1 a0_2 a0_3 0).bind fun bt289 => (some (bt289.1 == a0_0 && ((bt289.2.1 == a0_1 && (bt289.2.2 == a0_2))))))) = some r := H
   have A8 := Aside0.mk A80
   clear A80
   by_cases c9 : a0_3 > t288
   ·
    rw [if_pos c9] at H
    have c9b0 : decide (t288 < a0_3) = true := decide_eq_true c9
    clear c9
    obtain rfl := Option.some.inj H
    go_enter Tryz.func55, Tryz.ntmps55
    try go_wp2_with (first | ((with_reducible refine gate_dst (N := 1) rfl ?_); refine bx_ 1 #[.bool a0_0, .int .u64 a0_1, .int .u64 a0_2, .int .i64 a0_3] 28 ?_; intro gb286 hg w10 hbox hb; have BK286 := Aside0.mk (hbox); have GW286 := gw_ HB hg; have GE286 := gw_ HB hg; replace HB := bs_ HB hb; clear hb hbox hg))
    replace BK286 := Aside0.mk (blk_drew BK286.out)
    replace HB := Aside0.mk (below_drew1 HB.out)
    refine start_ (n := 17) (S := fun w' => w'.cell? ⟨gb286, 0, none⟩ = some (.bool a0_0) ∧ w'.cell? ⟨gb286, 1, none⟩ = some (.int .u64 a0_1) ∧ w'.cell? ⟨gb286, 2, none⟩ = some (.int .u64 a0_2) ∧ w'.cell? ⟨gb286, 3, none⟩ = some (.int .i64 a0_3)) (ds := []) (bm_ 17 0) (by kernel_rfl) rfl rfl ⟨kc_ BK286 0, kc_ BK286 1, kc_ BK286 2, kc_ BK286 3⟩ (fun hHeld => ?_); refine with_tabW platbookref03_Right.tab1 platbookref03_Right.bits1 (fun HT_ HW_ => ?_)
    generalize w10.drew = w11 at BK286 HB hHeld ⊢
    refine pu_ 0 (some 3) (bm_ 17 1) rfl HT_ ⟨by rfl, by intro w'; go_simp; with_reducible rfl⟩ ?_
    refine ta_ 1 (some 4) (bm_ 17 3) rfl HT_ HW_ ⟨by rfl, by rintro w' ⟨s0, s1, s2, s3⟩; go_simp; with_reducible rfl⟩ hHeld ?_
    refine one_ (i := 2) (N := some 5) (bm_ 17 7) rfl rfl (one_of HT_.out (by kernel_rfl)) (by decide) (fun K hK => ?_)
    refine gr_ Tryz.func105 #[.agg #[.bool a0_0, .int .u64 a0_1, .int .u64 a0_2]] ?_
    with_reducible refine (platbookref02_Right.calls a0_0 a0_1 a0_2 true _ A2.out).mono ?_
    rintro e w12 ⟨rfl, hb⟩
    refine ⟨_, rfl, ?_⟩
    replace BK286 := bb_ BK286 hb
    replace HB := bs_ HB hb
    (try clear hb)
    (try clear hb2)
    (try clear hk)
    (try clear hi)
    refine hK.out _ _ ⟨kc_ BK286 0, kc_ BK286 1, kc_ BK286 2, kc_ BK286 3⟩ (fun hHeld => ?_)
    clear hK K
    refine norm_ (a' := ?_) ?_ ?_
    rotate_left
    ·
     show Act.put _ (some 5) _ = _
     simp only [Act.put, List.setIfInBounds_toArray, List.set_cons_zero, List.set_cons_succ, i64_w, i32_w]
     rfl
    refine pu_ 3 (some 6) (bm_ 17 15) rfl HT_ ⟨by rfl, by intro w'; go_simp; with_reducible rfl⟩ ?_
    refine pu_ 4 (some 7) (bm_ 17 31) rfl HT_ ⟨by rfl, by intro w'; go_simp; with_reducible rfl⟩ ?_
    refine pu_ 5 (some 8) (bm_ 17 63) rfl HT_ ⟨by rfl, by intro w'; go_simp; with_reducible rfl⟩ ?_
    refine ta_ 6 (some 9) (bm_ 17 127) rfl HT_ HW_ ⟨by rfl, by rintro w' ⟨s0, s1, s2, s3⟩; go_simp; with_reducible rfl⟩ hHeld ?_
    refine pu_ 7 (some 10) (bm_ 17 255) rfl HT_ ⟨by rfl, by intro w'; go_simp; with_reducible rfl⟩ ?_
    refine pu_ 8 (some 11) (bm_ 17 511) rfl HT_ ⟨by rfl, by intro w'; go_simp; with_reducible rfl⟩ ?_
    refine pu_ 9 (some 12) (bm_ 17 1023) rfl HT_ ⟨by rfl, by intro w'; go_simp; with_reducible rfl⟩ ?_
    refine pu_ 10 (some 13) (bm_ 17 2047) rfl HT_ ⟨by rfl, by intro w'; go_simp; with_reducible rfl⟩ ?_
    refine pu_ 12 (some 15) (bm_ 17 6143) rfl HT_ ⟨by rfl, by intro w'; go_simp; with_reducible rfl⟩ ?_
    refine ta_ 11 (some 14) (bm_ 17 8191) rfl HT_ HW_ ⟨by rfl, by rintro w' ⟨s0, s1, s2, s3⟩; go_simp; with_reducible rfl⟩ hHeld ?_
    refine ta_ 13 (some 16) (bm_ 17 16383) rfl HT_ HW_ ⟨by rfl, by rintro w' ⟨s0, s1, s2, s3⟩; go_simp; with_reducible rfl⟩ hHeld ?_
    refine one_ (i := 14) (N := some 17) (bm_ 17 32767) rfl rfl (one_of HT_.out (by kernel_rfl)) (by decide) (fun K hK => ?_)
    refine gr_ Tryz.func67 #[.agg #[.bool a0_0, .int .u64 a0_1, .int .u64 a0_2]] ?_
    with_reducible refine (platbookref02_Width.calls a0_0 a0_1 a0_2 t288 _ A8.out).mono ?_
    rintro e w13 ⟨rfl, hb⟩
    refine ⟨_, rfl, ?_⟩
    replace BK286 := bb_ BK286 hb
    replace HB := bs_ HB hb
    (try clear hb)
    (try clear hb2)
    (try clear hk)
    (try clear hi)
    refine hK.out _ _ ⟨kc_ BK286 0, kc_ BK286 1, kc_ BK286 2, kc_ BK286 3⟩ (fun hHeld => ?_)
    clear hK K
    refine norm_ (a' := ?_) ?_ ?_
    rotate_left
    ·
     show Act.put _ (some 17) _ = _
     simp only [Act.put, List.setIfInBounds_toArray, List.set_cons_zero, List.set_cons_succ, i64_w, i32_w]
     rfl
    refine pu_ 15 (some 18) (bm_ 17 65535) rfl HT_ ⟨by rfl, by intro w'; go_simp; with_reducible rfl⟩ ?_
    refine pu_ 16 (some 19) (bm_ 17 131071) rfl HT_ ⟨by rfl, by intro w'; go_simp; with_reducible rfl⟩ ?_
    refine done_ (done_of HT_.out (by kernel_rfl)) ?_
    try go_wp2
    go_ret
    exact ⟨by first | rfl | (simp [errW_none, errW_some] <;> rfl) | (simp [*, errW_none, errW_some] <;> rfl), pb_ HB⟩
   ·
    rw [if_neg c9] at H
    have c9b0 : decide (t288 < a0_3) = false := decide_eq_false c9
    clear c9
    replace H := Option.bind_eq_some_iff.mp H
    obtain ⟨⟨t289, t290, t291⟩, A140, H⟩ := H
    replace H : (some (t289 == a0_0 && ((t290 == a0_1 && (t291 == a0_2))))) = some r := H
    have A14 := Aside0.mk A140
    clear A140
    obtain rfl := Option.some.inj H
    go_enter Tryz.func55, Tryz.ntmps55
    try go_wp2_with (first | ((with_reducible refine gate_dst (N := 1) rfl ?_); refine bx_ 1 #[.bool a0_0, .int .u64 a0_1, .int .u64 a0_2, .int .i64 a0_3] 28 ?_; intro gb286 hg w15 hbox hb; have BK286 := Aside0.mk (hbox); have GW286 := gw_ HB hg; have GE286 := gw_ HB hg; replace HB := bs_ HB hb; clear hb hbox hg))
    replace BK286 := Aside0.mk (blk_drew BK286.out)
    replace HB := Aside0.mk (below_drew1 HB.out)
    refine start_ (n := 17) (S := fun w' => w'.cell? ⟨gb286, 0, none⟩ = some (.bool a0_0) ∧ w'.cell? ⟨gb286, 1, none⟩ = some (.int .u64 a0_1) ∧ w'.cell? ⟨gb286, 2, none⟩ = some (.int .u64 a0_2) ∧ w'.cell? ⟨gb286, 3, none⟩ = some (.int .i64 a0_3)) (ds := []) (bm_ 17 0) (by kernel_rfl) rfl rfl ⟨kc_ BK286 0, kc_ BK286 1, kc_ BK286 2, kc_ BK286 3⟩ (fun hHeld => ?_); refine with_tabW platbookref03_Right.tab1 platbookref03_Right.bits1 (fun HT_ HW_ => ?_)
    generalize w15.drew = w16 at BK286 HB hHeld ⊢
    refine pu_ 0 (some 3) (bm_ 17 1) rfl HT_ ⟨by rfl, by intro w'; go_simp; with_reducible rfl⟩ ?_
    refine ta_ 1 (some 4) (bm_ 17 3) rfl HT_ HW_ ⟨by rfl, by rintro w' ⟨s0, s1, s2, s3⟩; go_simp; with_reducible rfl⟩ hHeld ?_
    refine one_ (i := 2) (N := some 5) (bm_ 17 7) rfl rfl (one_of HT_.out (by kernel_rfl)) (by decide) (fun K hK => ?_)
    refine gr_ Tryz.func105 #[.agg #[.bool a0_0, .int .u64 a0_1, .int .u64 a0_2]] ?_
    with_reducible refine (platbookref02_Right.calls a0_0 a0_1 a0_2 true _ A2.out).mono ?_
    rintro e w17 ⟨rfl, hb⟩
    refine ⟨_, rfl, ?_⟩
    replace BK286 := bb_ BK286 hb
    replace HB := bs_ HB hb
    (try clear hb)
    (try clear hb2)
    (try clear hk)
    (try clear hi)
    refine hK.out _ _ ⟨kc_ BK286 0, kc_ BK286 1, kc_ BK286 2, kc_ BK286 3⟩ (fun hHeld => ?_)
    clear hK K
    refine norm_ (a' := ?_) ?_ ?_
    rotate_left
    ·
     show Act.put _ (some 5) _ = _
     simp only [Act.put, List.setIfInBounds_toArray, List.set_cons_zero, List.set_cons_succ, i64_w, i32_w]
     rfl
    refine pu_ 3 (some 6) (bm_ 17 15) rfl HT_ ⟨by rfl, by intro w'; go_simp; with_reducible rfl⟩ ?_
    refine pu_ 4 (some 7) (bm_ 17 31) rfl HT_ ⟨by rfl, by intro w'; go_simp; with_reducible rfl⟩ ?_
    refine pu_ 5 (some 8) (bm_ 17 63) rfl HT_ ⟨by rfl, by intro w'; go_simp; with_reducible rfl⟩ ?_
    refine ta_ 6 (some 9) (bm_ 17 127) rfl HT_ HW_ ⟨by rfl, by rintro w' ⟨s0, s1, s2, s3⟩; go_simp; with_reducible rfl⟩ hHeld ?_
    refine pu_ 7 (some 10) (bm_ 17 255) rfl HT_ ⟨by rfl, by intro w'; go_simp; with_reducible rfl⟩ ?_
    refine pu_ 8 (some 11) (bm_ 17 511) rfl HT_ ⟨by rfl, by intro w'; go_simp; with_reducible rfl⟩ ?_
    refine pu_ 9 (some 12) (bm_ 17 1023) rfl HT_ ⟨by rfl, by intro w'; go_simp; with_reducible rfl⟩ ?_
    refine pu_ 10 (some 13) (bm_ 17 2047) rfl HT_ ⟨by rfl, by intro w'; go_simp; with_reducible rfl⟩ ?_
    refine pu_ 12 (some 15) (bm_ 17 6143) rfl HT_ ⟨by rfl, by intro w'; go_simp; with_reducible rfl⟩ ?_
    refine ta_ 11 (some 14) (bm_ 17 8191) rfl HT_ HW_ ⟨by rfl, by rintro w' ⟨s0, s1, s2, s3⟩; go_simp; with_reducible rfl⟩ hHeld ?_
    refine ta_ 13 (some 16) (bm_ 17 16383) rfl HT_ HW_ ⟨by rfl, by rintro w' ⟨s0, s1, s2, s3⟩; go_simp; with_reducible rfl⟩ hHeld ?_
    refine one_ (i := 14) (N := some 17) (bm_ 17 32767) rfl rfl (one_of HT_.out (by kernel_rfl)) (by decide) (fun K hK => ?_)
    refine gr_ Tryz.func67 #[.agg #[.bool a0_0, .int .u64 a0_1, .int .u64 a0_2]] ?_
    with_reducible refine (platbookref02_Width.calls a0_0 a0_1 a0_2 t288 _ A8.out).mono ?_
    rintro e w18 ⟨rfl, hb⟩
    refine ⟨_, rfl, ?_⟩
    replace BK286 := bb_ BK286 hb
    replace HB := bs_ HB hb
    (try clear hb)
    (try clear hb2)
    (try clear hk)
    (try clear hi)
    refine hK.out _ _ ⟨kc_ BK286 0, kc_ BK286 1, kc_ BK286 2, kc_ BK286 3⟩ (fun hHeld => ?_)
    clear hK K
    refine norm_ (a' := ?_) ?_ ?_
    rotate_left
    ·
     show Act.put _ (some 17) _ = _
     simp only [Act.put, List.setIfInBounds_toArray, List.set_cons_zero, List.set_cons_succ, i64_w, i32_w]
     rfl
    refine pu_ 15 (some 18) (bm_ 17 65535) rfl HT_ ⟨by rfl, by intro w'; go_simp; with_reducible rfl⟩ ?_
    refine pu_ 16 (some 19) (bm_ 17 131071) rfl HT_ ⟨by rfl, by intro w'; go_simp; with_reducible rfl⟩ ?_
    refine done_ (done_of HT_.out (by kernel_rfl)) ?_
    try go_wp2
    replace BK286 := Aside0.mk (blk_drew BK286.out)
    replace HB := Aside0.mk (below_drew1 HB.out)
    refine start_ (n := 9) (S := fun w' => w'.cell? ⟨gb286, 0, none⟩ = some (.bool a0_0) ∧ w'.cell? ⟨gb286, 1, none⟩ = some (.int .u64 a0_1) ∧ w'.cell? ⟨gb286, 2, none⟩ = some (.int .u64 a0_2) ∧ w'.cell? ⟨gb286, 3, none⟩ = some (.int .i64 a0_3)) (ds := []) (bm_ 9 0) (by kernel_rfl) rfl rfl ⟨kc_ BK286 0, kc_ BK286 1, kc_ BK286 2, kc_ BK286 3⟩ (fun hHeld => ?_); refine with_tabW platbookref03_Right.tab3 platbookref03_Right.bits3 (fun HT_ HW_ => ?_)
    generalize w18.drew = w19 at BK286 HB hHeld ⊢
    refine pu_ 0 (some 20) (bm_ 9 1) rfl HT_ ⟨by rfl, by intro w'; go_simp; with_reducible rfl⟩ ?_
    refine pu_ 2 (some 22) (bm_ 9 5) rfl HT_ ⟨by rfl, by intro w'; go_simp; with_reducible rfl⟩ ?_
    refine pu_ 5 (some 25) (bm_ 9 37) rfl HT_ ⟨by rfl, by intro w'; go_simp; with_reducible rfl⟩ ?_
    refine ta_ 1 (some 21) (bm_ 9 39) rfl HT_ HW_ ⟨by rfl, by rintro w' ⟨s0, s1, s2, s3⟩; go_simp; with_reducible rfl⟩ hHeld ?_
    refine ta_ 3 (some 23) (bm_ 9 47) rfl HT_ HW_ ⟨by rfl, by rintro w' ⟨s0, s1, s2, s3⟩; go_simp; with_reducible rfl⟩ hHeld ?_
    refine ta_ 6 (some 26) (bm_ 9 111) rfl HT_ HW_ ⟨by rfl, by rintro w' ⟨s0, s1, s2, s3⟩; go_simp; with_reducible rfl⟩ hHeld ?_
    refine one_ (i := 4) (N := some 24) (bm_ 9 127) rfl rfl (one_of HT_.out (by kernel_rfl)) (by decide) (fun K hK => ?_)
    refine gr_ Tryz.func108 #[.agg #[.bool a0_0, .int .u64 a0_1, .int .u64 a0_2], .int .i64 a0_3, .int .i64 0] ?_
    with_reducible refine (platbookref03_Filled.calls k a0_0 a0_1 a0_2 a0_3 0 t289 t290 t291 _ A14.out).mono ?_
    rintro e w20 ⟨rfl, hb⟩
    refine ⟨_, rfl, ?_⟩
    replace BK286 := bb_ BK286 hb
    replace HB := bs_ HB hb
    (try clear hb)
    (try clear hb2)
    (try clear hk)
    (try clear hi)
    refine hK.out _ _ ⟨kc_ BK286 0, kc_ BK286 1, kc_ BK286 2, kc_ BK286 3⟩ (fun hHeld => ?_)
    clear hK K
    refine norm_ (a' := ?_) ?_ ?_
    rotate_left
    ·
     show Act.put _ (some 24) _ = _
     simp only [Act.put, List.setIfInBounds_toArray, List.set_cons_zero, List.set_cons_succ, i64_w, i32_w]
     rfl
    refine pu_ 7 (some 27) (bm_ 9 255) rfl HT_ ⟨by rfl, by intro w'; go_simp; with_reducible rfl⟩ ?_
    refine pu_ 8 (some 2) (bm_ 9 511) rfl HT_ ⟨by rfl, by intro w'; go_simp; with_reducible rfl⟩ ?_
    refine done_ (done_of HT_.out (by kernel_rfl)) ?_
    try go_wp2
    go_ret
    exact ⟨by first | rfl | (simp [errW_none, errW_some] <;> rfl) | (simp [*, errW_none, errW_some] <;> rfl), pb_ HB⟩
 ·
  replace c3 := Bool.eq_false_iff.mpr c3
  subst c3
  have H1 : (some false) = some r := by rw [if_neg (show ¬ (false = true) by decide)] at H; exact H
  clear H
  have H := H1
  clear H1
  obtain rfl := Option.some.inj H
  go_enter Tryz.func55, Tryz.ntmps55
  try go_wp2_with (first | ((with_reducible refine gate_dst (N := 1) rfl ?_); refine bx_ 1 #[.bool a0_0, .int .u64 a0_1, .int .u64 a0_2, .int .i64 a0_3] 28 ?_; intro gb286 hg w21 hbox hb; have BK286 := Aside0.mk (hbox); have GW286 := gw_ HB hg; have GE286 := gw_ HB hg; replace HB := bs_ HB hb; clear hb hbox hg))
  replace BK286 := Aside0.mk (blk_drew BK286.out)
  replace HB := Aside0.mk (below_drew1 HB.out)
  refine start_ (n := 17) (S := fun w' => w'.cell? ⟨gb286, 0, none⟩ = some (.bool a0_0) ∧ w'.cell? ⟨gb286, 1, none⟩ = some (.int .u64 a0_1) ∧ w'.cell? ⟨gb286, 2, none⟩ = some (.int .u64 a0_2) ∧ w'.cell? ⟨gb286, 3, none⟩ = some (.int .i64 a0_3)) (ds := []) (bm_ 17 0) (by kernel_rfl) rfl rfl ⟨kc_ BK286 0, kc_ BK286 1, kc_ BK286 2, kc_ BK286 3⟩ (fun hHeld => ?_); refine with_tabW platbookref03_Right.tab1 platbookref03_Right.bits1 (fun HT_ HW_ => ?_)
  generalize w21.drew = w22 at BK286 HB hHeld ⊢
  refine pu_ 0 (some 3) (bm_ 17 1) rfl HT_ ⟨by rfl, by intro w'; go_simp; with_reducible rfl⟩ ?_
  refine ta_ 1 (some 4) (bm_ 17 3) rfl HT_ HW_ ⟨by rfl, by rintro w' ⟨s0, s1, s2, s3⟩; go_simp; with_reducible rfl⟩ hHeld ?_
  refine one_ (i := 2) (N := some 5) (bm_ 17 7) rfl rfl (one_of HT_.out (by kernel_rfl)) (by decide) (fun K hK => ?_)
  refine gr_ Tryz.func105 #[.agg #[.bool a0_0, .int .u64 a0_1, .int .u64 a0_2]] ?_
  with_reducible refine (platbookref02_Right.calls a0_0 a0_1 a0_2 false _ A2.out).mono ?_
  rintro e w23 ⟨rfl, hb⟩
  refine ⟨_, rfl, ?_⟩
  replace BK286 := bb_ BK286 hb
  replace HB := bs_ HB hb
  (try clear hb)
  (try clear hb2)
  (try clear hk)
  (try clear hi)
  refine hK.out _ _ ⟨kc_ BK286 0, kc_ BK286 1, kc_ BK286 2, kc_ BK286 3⟩ (fun hHeld => ?_)
  clear hK K
  refine norm_ (a' := ?_) ?_ ?_
  rotate_left
  ·
   show Act.put _ (some 5) _ = _
   simp only [Act.put, List.setIfInBounds_toArray, List.set_cons_zero, List.set_cons_succ, i64_w, i32_w]
   rfl
  refine pu_ 3 (some 6) (bm_ 17 15) rfl HT_ ⟨by rfl, by intro w'; go_simp; with_reducible rfl⟩ ?_
  refine pu_ 4 (some 7) (bm_ 17 31) rfl HT_ ⟨by rfl, by intro w'; go_simp; with_reducible rfl⟩ ?_
  refine pure_ (i := 5) (N := some 8) (v := undef) (a' := ?_) (bm_ 17 63) rfl rfl (any_of HT_.out (by kernel_rfl)) (fun _ _ _ h => h) (Or.inr ⟨by rfl, rfl⟩) ?_ ?_
  rotate_left
  ·
   simp only [Act.put, List.setIfInBounds_toArray, List.set_cons_zero, List.set_cons_succ, i64_w, i32_w]
   rfl
  refine pure_ (i := 6) (N := some 9) (v := undef) (a' := ?_) (bm_ 17 127) rfl rfl (any_of HT_.out (by kernel_rfl)) (fun _ _ _ h => h) (Or.inr ⟨by rfl, rfl⟩) ?_ ?_
  rotate_left
  ·
   simp only [Act.put, List.setIfInBounds_toArray, List.set_cons_zero, List.set_cons_succ, i64_w, i32_w]
   rfl
  refine pure_ (i := 7) (N := some 10) (v := undef) (a' := ?_) (bm_ 17 255) rfl rfl (any_of HT_.out (by kernel_rfl)) (fun _ _ _ h => h) (Or.inr ⟨by rfl, rfl⟩) ?_ ?_
  rotate_left
  ·
   simp only [Act.put, List.setIfInBounds_toArray, List.set_cons_zero, List.set_cons_succ, i64_w, i32_w]
   rfl
  refine pu_ 8 (some 11) (bm_ 17 511) rfl HT_ ⟨by rfl, by intro w'; go_simp; with_reducible rfl⟩ ?_
  refine pu_ 9 (some 12) (bm_ 17 1023) rfl HT_ ⟨by rfl, by intro w'; go_simp; with_reducible rfl⟩ ?_
  refine pure_ (i := 10) (N := some 13) (v := undef) (a' := ?_) (bm_ 17 2047) rfl rfl (any_of HT_.out (by kernel_rfl)) (fun _ _ _ h => h) (Or.inr ⟨by rfl, rfl⟩) ?_ ?_
  rotate_left
  ·
   simp only [Act.put, List.setIfInBounds_toArray, List.set_cons_zero, List.set_cons_succ, i64_w, i32_w]
   rfl
  refine pure_ (i := 11) (N := some 14) (v := undef) (a' := ?_) (bm_ 17 4095) rfl rfl (any_of HT_.out (by kernel_rfl)) (fun _ _ _ h => h) (Or.inr ⟨by rfl, rfl⟩) ?_ ?_
  rotate_left
  ·
   simp only [Act.put, List.setIfInBounds_toArray, List.set_cons_zero, List.set_cons_succ, i64_w, i32_w]
   rfl
  refine pure_ (i := 12) (N := some 15) (v := undef) (a' := ?_) (bm_ 17 8191) rfl rfl (any_of HT_.out (by kernel_rfl)) (fun _ _ _ h => h) (Or.inr ⟨by rfl, rfl⟩) ?_ ?_
  rotate_left
  ·
   simp only [Act.put, List.setIfInBounds_toArray, List.set_cons_zero, List.set_cons_succ, i64_w, i32_w]
   rfl
  refine pure_ (i := 13) (N := some 16) (v := undef) (a' := ?_) (bm_ 17 16383) rfl rfl (any_of HT_.out (by kernel_rfl)) (fun _ _ _ h => h) (Or.inr ⟨by rfl, rfl⟩) ?_ ?_
  rotate_left
  ·
   simp only [Act.put, List.setIfInBounds_toArray, List.set_cons_zero, List.set_cons_succ, i64_w, i32_w]
   rfl
  refine pure_ (i := 14) (N := some 17) (v := undef) (a' := ?_) (bm_ 17 32767) rfl rfl (any_of HT_.out (by kernel_rfl)) (fun _ _ _ h => h) (Or.inr ⟨by rfl, rfl⟩) ?_ ?_
  rotate_left
  ·
   simp only [Act.put, List.setIfInBounds_toArray, List.set_cons_zero, List.set_cons_succ, i64_w, i32_w]
   rfl
  refine pure_ (i := 15) (N := some 18) (v := undef) (a' := ?_) (bm_ 17 65535) rfl rfl (any_of HT_.out (by kernel_rfl)) (fun _ _ _ h => h) (Or.inr ⟨by rfl, rfl⟩) ?_ ?_
  rotate_left
  ·
   simp only [Act.put, List.setIfInBounds_toArray, List.set_cons_zero, List.set_cons_succ, i64_w, i32_w]
   rfl
  refine pu_ 16 (some 19) (bm_ 17 131071) rfl HT_ ⟨by rfl, by intro w'; go_simp; with_reducible rfl⟩ ?_
  refine done_ (done_of HT_.out (by kernel_rfl)) ?_
  try go_wp2
  go_ret
  exact ⟨by first | rfl | (simp [errW_none, errW_some] <;> rfl) | (simp [*, errW_none, errW_some] <;> rfl), pb_ HB⟩

end Go.Proofs.YtpfilldnfpcpkaaGreatDoor.PPo

namespace Go.Proofs.YtpfilldnfpcpkaaGreatDoor

theorem upd_same (f : Nat → Bool) (i : Nat) (b : Bool) : upd f i b i = b := by simp [upd]
theorem cnt_le (f : Nat → Bool) (a : Nat) : ∀ n, cnt f a n ≤ n
  | 0 => by simp [cnt]
  | n + 1 => by have := cnt_le f a n; rw [cnt]; cases f (a + n) <;> simp <;> omega
theorem cnt_all {f : Nat → Bool} {a : Nat} : ∀ {n}, (∀ x, a ≤ x → x < a + n → f x = true) → cnt f a n = n
  | 0, _ => rfl
  | n + 1, h => by rw [cnt, cnt_all (n := n) fun x h1 h2 => h x h1 (by omega), h (a + n) (by omega) (by omega)]; rfl
end Go.Proofs.YtpfilldnfpcpkaaGreatDoor

namespace Go.Proofs.YtpfilldnfpcpkaaGreatDoor

def mk16 : Nat → Nat | 0 => 0 | n + 1 => 16 * mk16 n + 3
def mk256 : Nat → Nat | 0 => 0 | n + 1 => 256 * mk256 n + 15
theorem mk4_32 : mk4 32 = 6148914691236517205 := by decide
theorem mk16_16 : mk16 16 = 3689348814741910323 := by decide
theorem mk256_8 : mk256 8 = 1085102592571150095 := by decide
theorem and_parts (e x y : Nat) : x &&& y = 2 ^ e * (x / 2 ^ e &&& y / 2 ^ e) + (x % 2 ^ e &&& y % 2 ^ e) := by
  rw [← Nat.and_div_two_pow, ← Nat.and_mod_two_pow, Nat.div_add_mod]
def c16 (n x : Nat) : Nat := (x / 4 &&& mk16 n) + (x &&& mk16 n)
def c256 (n x : Nat) : Nat := (x / 16 + x) &&& mk256 n
theorem c4_succ (n x : Nat) : c4 (n + 1) x = 4 * c4 n (x / 4) + (x % 4 / 2 + x % 2) := by
  unfold c4
  rw [and_parts 2 (x / 2), and_parts 2 x, mk4]
  rw [show (2 : Nat) ^ 2 = 4 from rfl, show (4 * mk4 n + 1) / 4 = mk4 n from by omega, show (4 * mk4 n + 1) % 4 = 1 from by omega, nat_mask1, nat_mask1,
    show x / 2 / 4 = x / 4 / 2 from by omega]
  omega
theorem c16_succ (n x : Nat) : c16 (n + 1) x = 16 * c16 n (x / 16) + (x % 16 / 4 + x % 4) := by
  unfold c16
  rw [and_parts 4 (x / 4), and_parts 4 x, mk16]
  rw [show (2 : Nat) ^ 4 = 16 from rfl, show (16 * mk16 n + 3) / 16 = mk16 n from by omega, show (16 * mk16 n + 3) % 16 = 3 from by omega, nat_mask2, nat_mask2,
    show x / 4 / 16 = x / 16 / 4 from by omega]
  omega
theorem fs4 : ∀ n x, fs 4 n (c4 n x) = fs 2 (2 * n) x
  | 0, _ => rfl
  | n + 1, x => by
    rw [show 2 * (n + 1) = 2 * n + 1 + 1 from by omega, fs, fs, fs, c4_succ, show (4 * c4 n (x / 4) + (x % 4 / 2 + x % 2)) / 4 = c4 n (x / 4) from by omega, fs4 n (x / 4), Nat.div_div_eq_div_mul, show 2 * 2 = 4 from rfl]
    generalize fs 2 (2 * n) (x / 4) = y
    generalize c4 n (x / 4) = z
    have a1 : x % 4 / 2 = x / 2 % 2 := by omega
    rw [a1]
    have b1 := Nat.mod_lt (x / 2) (show 0 < 2 by omega)
    have b2 := Nat.mod_lt x (show 0 < 2 by omega)
    generalize x / 2 % 2 = u at *
    generalize x % 2 = v at *
    omega
theorem fs16 : ∀ n x, fs 16 n (c16 n x) = fs 4 (2 * n) x
  | 0, _ => rfl
  | n + 1, x => by
    rw [show 2 * (n + 1) = 2 * n + 1 + 1 from by omega, fs, fs, fs, c16_succ, show (16 * c16 n (x / 16) + (x % 16 / 4 + x % 4)) / 16 = c16 n (x / 16) from by omega, fs16 n (x / 16), Nat.div_div_eq_div_mul, show 4 * 4 = 16 from rfl]
    generalize fs 4 (2 * n) (x / 16) = y
    generalize c16 n (x / 16) = z
    have a1 : x % 16 / 4 = x / 4 % 4 := by omega
    rw [a1]
    have b1 := Nat.mod_lt (x / 4) (show 0 < 4 by omega)
    have b2 := Nat.mod_lt x (show 0 < 4 by omega)
    generalize x / 4 % 4 = u at *
    generalize x % 4 = v at *
    omega
/-- digits to the base 4 of at most 2, to the base 16 of at most 4 -/
def D4 : Nat → Nat → Prop | 0, x => x = 0 | n + 1, x => x % 4 ≤ 2 ∧ D4 n (x / 4)
def D16 : Nat → Nat → Prop | 0, x => x = 0 | n + 1, x => x % 16 ≤ 4 ∧ D16 n (x / 16)
theorem D4_c4 : ∀ n x, D4 n (c4 n x)
  | 0, x => by simp [D4, c4, mk4]
  | n + 1, x => by
    rw [c4_succ]
    refine ⟨?_, ?_⟩
    · have b1 : x % 4 / 2 ≤ 1 := by omega
      have b2 : x % 2 ≤ 1 := by omega
      generalize x % 4 / 2 = u at *
      generalize x % 2 = v at *
      omega
    rw [show (4 * c4 n (x / 4) + (x % 4 / 2 + x % 2)) / 4 = c4 n (x / 4) from by omega]
    exact D4_c4 n _
theorem D16_c16 : ∀ n x, D4 (2 * n) x → D16 n (c16 n x)
  | 0, x, _ => by simp [D16, c16, mk16]
  | n + 1, x, h => by
    rw [show 2 * (n + 1) = 2 * n + 1 + 1 from by omega] at h
    obtain ⟨h1, h2, h3⟩ := h
    rw [Nat.div_div_eq_div_mul] at h3
    rw [c16_succ]
    refine ⟨?_, ?_⟩
    · have b1 : x % 16 / 4 = x / 4 % 4 := by omega
      rw [b1]
      generalize x / 4 % 4 = u at *
      generalize x % 4 = v at *
      generalize c16 n (x / 16) = z
      omega
    rw [show (16 * c16 n (x / 16) + (x % 16 / 4 + x % 4)) / 16 = c16 n (x / 16) from by omega]
    exact D16_c16 n _ h3
theorem c256_succ (n x : Nat) (h1 : x % 16 ≤ 4) (h2 : x / 16 % 16 ≤ 4) (h3 : x / 256 % 16 ≤ 4) : c256 (n + 1) x = 256 * c256 n (x / 256) + (x % 16 + x / 16 % 16) := by
  unfold c256
  have k1 : x = 256 * (x / 256) + 16 * (x / 16 % 16) + x % 16 := by omega
  have k2 : x / 16 = 16 * (x / 256) + x / 16 % 16 := by omega
  have k3 : x / 256 = 16 * (x / 256 / 16) + x / 256 % 16 := by omega
  generalize x / 16 % 16 = u at *
  generalize x / 16 = x1 at *
  generalize x / 256 % 16 = v at *
  generalize x % 16 = t at *
  generalize x / 256 / 16 = x3 at *
  have k4 : (x1 + x) / 256 = x3 + x / 256 := by omega
  have k5 : (x1 + x) % 256 % 16 = t + u := by omega
  rw [and_parts 8 (x1 + x), mk256]
  rw [show (2 : Nat) ^ 8 = 256 from rfl, show (256 * mk256 n + 15) / 256 = mk256 n from by omega, show (256 * mk256 n + 15) % 256 = 15 from by omega, nat_mask4, k4, k5]
theorem D16_low {n x : Nat} (h : D16 n x) : x % 16 ≤ 4 := by
  cases n with
  | zero => have : x = 0 := h; omega
  | succ n => exact h.1
/-- digits to the base 256 of at most 8 -/
def D256 : Nat → Nat → Prop | 0, x => x = 0 | n + 1, x => x % 256 ≤ 8 ∧ D256 n (x / 256)
theorem all256 : ∀ n x, D16 (2 * n) x → D256 n (c256 n x) ∧ fs 256 n (c256 n x) = fs 16 (2 * n) x
  | 0, x, h => ⟨by simp [D256, c256, mk256], rfl⟩
  | n + 1, x, h => by
    rw [show 2 * (n + 1) = 2 * n + 1 + 1 from by omega] at h ⊢
    obtain ⟨h1, h2, h3⟩ := h
    rw [Nat.div_div_eq_div_mul] at h3
    have h4 := D16_low h3
    obtain ⟨q1, q2⟩ := all256 n _ h3
    rw [c256_succ n x h1 h2 h4]
    have e : (256 * c256 n (x / 256) + (x % 16 + x / 16 % 16)) / 256 = c256 n (x / 256) := by omega
    refine ⟨⟨by omega, by rw [e]; exact q1⟩, ?_⟩
    rw [fs, fs, fs, e, q2, Nat.div_div_eq_div_mul]
    omega
theorem last256 {z : Nat} (h : D256 8 z) : z < 18446744073709551616 ∧ z + z / 256 < 18446744073709551616 ∧ (z + z / 256) + (z + z / 256) / 65536 < 18446744073709551616 ∧
    ((z + z / 256) + (z + z / 256) / 65536) + ((z + z / 256) + (z + z / 256) / 65536) / 4294967296 < 9223372036854775808 ∧
    (((z + z / 256) + (z + z / 256) / 65536) + ((z + z / 256) + (z + z / 256) / 65536) / 4294967296) % 128 = fs 256 8 z := by
  obtain ⟨h0, h1, h2, h3, h4, h5, h6, h7, h8⟩ := h
  change z / 256 / 256 / 256 / 256 / 256 / 256 / 256 / 256 = 0 at h8
  simp only [fs]
  generalize e0 : z % 256 = d0 at *
  generalize f0 : z / 256 = z1 at *
  generalize e1 : z1 % 256 = d1 at *
  generalize f1 : z1 / 256 = z2 at *
  generalize e2 : z2 % 256 = d2 at *
  generalize f2 : z2 / 256 = z3 at *
  generalize e3 : z3 % 256 = d3 at *
  generalize f3 : z3 / 256 = z4 at *
  generalize e4 : z4 % 256 = d4 at *
  generalize f4 : z4 / 256 = z5 at *
  generalize e5 : z5 % 256 = d5 at *
  generalize f5 : z5 / 256 = z6 at *
  generalize e6 : z6 % 256 = d6 at *
  generalize f6 : z6 / 256 = z7 at *
  generalize e7 : z7 % 256 = d7 at *
  have g7 : z7 = d7 := by omega
  have g6 : z6 = d6 + 256 * d7 := by omega
  have g5 : z5 = d5 + 256 * d6 + 65536 * d7 := by omega
  have g4 : z4 = d4 + 256 * d5 + 65536 * d6 + 16777216 * d7 := by omega
  have g3 : z3 = d3 + 256 * d4 + 65536 * d5 + 16777216 * d6 + 4294967296 * d7 := by omega
  have g2 : z2 = d2 + 256 * d3 + 65536 * d4 + 16777216 * d5 + 4294967296 * d6 + 1099511627776 * d7 := by omega
  have g1 : z1 = d1 + 256 * d2 + 65536 * d3 + 16777216 * d4 + 4294967296 * d5 + 1099511627776 * d6 + 281474976710656 * d7 := by omega
  have g0 : z = d0 + 256 * d1 + 65536 * d2 + 16777216 * d3 + 4294967296 * d4 + 1099511627776 * d5 + 281474976710656 * d6 + 72057594037927936 * d7 := by omega
  clear e0 e1 e2 e3 e4 e5 e6 e7 f0 f1 f2 f3 f4 f5 f6 h8
  have k1 : (z + z1) / 65536 = (d2 + d3) + 256 * (d3 + d4) + 65536 * (d4 + d5) + 16777216 * (d5 + d6) + 4294967296 * (d6 + d7) + 1099511627776 * d7 := by omega
  have k2 : (z + z1 + (z + z1) / 65536) / 4294967296 = (d4 + d5 + d6 + d7) + 256 * (d5 + d6 + d7) + 65536 * (d6 + d7) + 16777216 * d7 := by omega
  rw [k2, k1]
  clear k1 k2
  omega
/-- what OnesCount64 reckons -/
theorem pop_all (x : Nat) : D256 8 (c256 8 (c16 16 (c4 32 x))) ∧ fs 256 8 (c256 8 (c16 16 (c4 32 x))) = fs 2 64 x := by
  obtain ⟨a, b⟩ := all256 8 (c16 16 (c4 32 x)) (D16_c16 16 _ (D4_c4 32 x))
  refine ⟨a, b.trans ?_⟩
  rw [fs16 16, fs4 32]
theorem fs2_bits : ∀ n x k (f : Nat → Bool), (∀ j, j < n → x.testBit j = f (k + j)) → fs 2 n x = cnt f k n
  | 0, _, _, _, _ => rfl
  | n + 1, x, k, f, h => by
    have h0 := h 0 (by omega)
    have e : cnt f k (n + 1) = (f k).toNat + cnt f (k + 1) n := by
      rw [Nat.add_comm n 1, cnt_join]; simp [cnt]
    rw [fs, e, fs2_bits n (x / 2) (k + 1) f fun j hj => by rw [Nat.testBit_div_two, h (j + 1) (by omega)]; congr 1; omega]
    rw [Nat.add_zero] at h0
    rw [← h0, Nat.testBit_zero]
    by_cases hp : x % 2 = 1
    · simp [hp]
    · rw [show x % 2 = 0 from by omega]; rfl
theorem pop_W (f : Nat → Bool) (k : Nat) : fs 2 64 (W f k) = cnt f (64 * k) 64 :=
  fs2_bits 64 _ _ f fun j hj => by rw [W_bit]; simp [hj]
theorem c_bounds (x : Nat) (hx : x < 18446744073709551616) : c4 32 x < 18446744073709551616 ∧ c16 16 (c4 32 x) < 18446744073709551616 ∧ c16 16 (c4 32 x) / 16 + c16 16 (c4 32 x) < 18446744073709551616 := by
  have a1 : c4 32 x < 18446744073709551616 := by
    unfold c4
    have h1 := Nat.and_le_left (n := x / 2) (m := mk4 32)
    have h2 : x &&& mk4 32 ≤ mk4 32 := Nat.and_le_right
    rw [mk4_32] at *
    omega
  refine ⟨a1, ?_⟩
  generalize c4 32 x = y at *
  unfold c16
  have h1 : y / 4 &&& mk16 16 ≤ mk16 16 := Nat.and_le_right
  have h2 : y &&& mk16 16 ≤ mk16 16 := Nat.and_le_right
  rw [mk16_16] at *
  omega
end Go.Proofs.YtpfilldnfpcpkaaGreatDoor

namespace Go.Proofs.YtpfilldnfpcpkaaGreatDoor
open Go.RowKit

theorem ret_int {k : IntKind} {a b : Int} (h : a = b) : Ending.returned (.int k a) = .returned (.int k b) := by rw [h]
theorem pop1 {x : Nat} (hx : x < 18446744073709551616) : IntKind.u64.wrap (bits .and .u64 (↑x / 2) 6148914691236517205 + bits .and .u64 ↑x 6148914691236517205) = ((c4 32 x : Nat) : Int) := by
  have h := (c_bounds x hx).1
  unfold c4 at *
  rw [mk4_32] at *
  rw [show ((x : Int) / 2) = ((x / 2 : Nat) : Int) from by omega, show (6148914691236517205 : Int) = ((6148914691236517205 : Nat) : Int) from rfl, u64_and_nat _ _ (by omega) (by omega), u64_and_nat _ _ hx (by omega), IntKind.wrap_u64]
  omega
theorem pop2 {x : Nat} (hx : x < 18446744073709551616) (h : c16 16 x < 18446744073709551616) : IntKind.u64.wrap (bits .and .u64 (↑x / 4) 3689348814741910323 + bits .and .u64 ↑x 3689348814741910323) = ((c16 16 x : Nat) : Int) := by
  unfold c16 at *
  rw [mk16_16] at *
  rw [show ((x : Int) / 4) = ((x / 4 : Nat) : Int) from by omega, show (3689348814741910323 : Int) = ((3689348814741910323 : Nat) : Int) from rfl, u64_and_nat _ _ (by omega) (by omega), u64_and_nat _ _ hx (by omega), IntKind.wrap_u64]
  omega
theorem pop3 {x : Nat} (hx : x / 16 + x < 18446744073709551616) : bits .and .u64 (↑x / 16 + ↑x) 1085102592571150095 = ((c256 8 x : Nat) : Int) := by
  unfold c256
  rw [mk256_8]
  rw [show ((x : Int) / 16 + x) = ((x / 16 + x : Nat) : Int) from by omega, show (1085102592571150095 : Int) = ((1085102592571150095 : Nat) : Int) from rfl, u64_and_nat _ _ hx (by omega)]
set_option maxRecDepth 20000 in
theorem ones64_c (x : Nat) (w : World) (hx : x < 18446744073709551616) :
    Calls Tryz.prog 123 #[.int .u64 x] w fun e w' => e = .returned (.int .i64 (fs 2 64 x)) ∧ w = w' := by
  obtain ⟨b1, b2, b3⟩ := c_bounds x hx
  obtain ⟨p1, p2⟩ := pop_all x
  obtain ⟨l1, l2, l3, l4, l5⟩ := last256 p1
  have e1 := pop1 hx
  have e2 := pop2 b1 b2
  have e3 := pop3 b3
  rw [p2] at l5
  have P := Lib.hid l5
  clear l5 p1 p2
  generalize c4 32 x = y1 at *
  generalize c16 16 y1 = y2 at *
  generalize c256 8 y2 = y3 at *
  generalize fs 2 64 x = r at *
  go_enter Tryz.func123, Tryz.ntmps123
  go_wp2
  go_ret
  refine ⟨ret_int ?_, rfl⟩
  rw [← P.out]
  rw [i64_and127]
  simp only [Int.natCast_emod, Int.natCast_add, Int.natCast_ediv]
  rfl
theorem bones_c (f : Nat → Bool) (k : Nat) (w : World) :
    Calls Tryz.prog 123 #[.int .u64 (W f k : Nat)] w fun e w' => e = .returned (.int .i64 (cnt f (64 * k) 64)) ∧ w = w' := by
  rw [← pop_W]; exact ones64_c _ w (W_lt f k)

end Go.Proofs.YtpfilldnfpcpkaaGreatDoor

namespace Go.Proofs.YtpfilldnfpcpkaaGreatDoor
open Go.RowKit

theorem size_c (g c n : Nat) (f : Nat → Bool) (w : World) (h : MapAt w g c n f) :
    Calls Tryz.prog 72 #[.pointer (some ⟨g, 0, none⟩)] w fun e w' => e = .returned (.int .i64 n) ∧ w = w' := by
  have h0 := h.size
  go_enter Tryz.func72, Tryz.ntmps72
  go_wp2
  go_ret
  exact ⟨rfl, rfl⟩
end Go.Proofs.YtpfilldnfpcpkaaGreatDoor

namespace Go.Proofs.YtpfilldnfpcpkaaGreatDoor
open Go.RowKit

theorem count_words (g c n : Nat) (f : Nat → Bool) (w : World) (h : MapAt w g c n f) :
    Calls Tryz.prog 73 #[.pointer (some ⟨g, 0, none⟩)] w fun e w' => e = .returned (.int .i64 (cnt f 0 (64 * ((n + 63) / 64)))) ∧ w = w' := by
  have h1 := h.words
  have hs := h.small
  have hw : ∀ k, k < (n + 63) / 64 → w.cell? ⟨c, k, none⟩ = some (.int .u64 (W f k : Nat)) := fun k hk => h.word hk
  have HW := Lib.hid hw
  clear hw
  generalize hK : (n + 63) / 64 = K at *
  have hK2 : K ≤ 1024 := by omega
  clear hK
  go_enter Tryz.func73, Tryz.ntmps73
  go_wp2_with fail
  go_loop [3, 13] (fun s i => ∃ k : Nat, k ≤ K ∧ i = .int .i64 k ∧ s = .int .i64 (cnt f 0 (64 * k) : Nat)) (fun _ i => K - (intOf i).toNat)
  case atStart => exact ⟨0, by omega, rfl, rfl⟩
  case round =>
    obtain ⟨k, hk, rfl, rfl⟩ := hrel
    by_cases hlt : k < K
    · have hc := HW.out k hlt
      have hb := cnt_le f 0 (64 * k)
      have hb2 := cnt_le f (64 * k) 64
      have hj : cnt f 0 (64 * (k + 1)) = cnt f 0 (64 * k) + cnt f (64 * k) 64 := by
        rw [show 64 * (k + 1) = 64 * k + 64 from by omega, cnt_join, Nat.zero_add]
      have HJ := Lib.hid hj
      clear hj
      have dk : decide (k < K) = true := decide_eq_true hlt
      go_wp2_with fail
      refine (bones_c f k _).mono ?_
      rintro e w' ⟨rfl, rfl⟩
      go_wp2_with fail
      go_round
      case rel => exact ⟨k + 1, by omega, by go_num, by rw [HJ.out]; go_num⟩
      case measure => simp [intOf]; omega
    · have dk : decide (k < K) = false := decide_eq_false hlt
      obtain rfl : k = K := by omega
      go_wp2_with fail
      go_ret
      exact ⟨rfl, rfl⟩

end Go.Proofs.YtpfilldnfpcpkaaGreatDoor

namespace Go.Proofs.YtpfilldnfpcpkaaGreatDoor
open Go.RowKit

theorem boolsV_get (f : Nat → Bool) {n k : Nat} (h : k < n) : (boolsV f n).toArray[k]? = some (.bool (f k)) := by simp [boolsV, h]
theorem RefAt.bit {w : World} {g c n : Nat} {f : Nat → Bool} (h : RefAt w g c n f) {k : Nat} (hk : k < n) : w.cell? ⟨c, k, none⟩ = some (.bool (f k)) := (h.row.cell k).trans (boolsV_get f hk)
end Go.Proofs.YtpfilldnfpcpkaaGreatDoor

namespace Go.Proofs.YtpfilldnfpcpkaaGreatDoor.PPo
open Go.RowKit Go.Proofs.YtpfilldnfpcpkaaGreatDoorW.PrintWords Go.Proofs.YtpfilldnfpcpkaaGreatDoorW.PrintLast Go.Proofs.YtpfilldnfpcpkaaGreatDoorW.PrintMore
attribute [local go_sem] max2_int min2_int max_two min_two max_three min_three max_four min_four   -- for this text's walks alone

attribute [local go_sem high] eqA28
def platbookref06_Count.l0 : Nat → Int → Int → Int → Option (Int)
 | 0, _, _, _ => none
 | k + 1, x3, x4, x5 => if x5 < x3 then (platbookref06_Count.l0 k x3 (wrap64 (x4 * 2)) (wrap64 (x5 + 1))) else (if x4 < 4 then (some 0) else (some x4))
def platbookref06_Count.f (k : Nat) (a0_0 : Bool) (a0_1 : Int) (a0_2 : Int) (a0_3 : Int) : Option (Int) := (platbookref03_Right.f k a0_0 a0_1 a0_2 a0_3).bind fun t386 => (if t386 = true then ((platbookref02_Width.f a0_0 a0_1 a0_2).bind fun t387 => (if (wrap64 (t387 - a0_3)) > 16 then (some 65536) else (platbookref06_Count.l0 k (wrap64 (t387 - a0_3)) 1 0))) else (some 0))
set_option maxHeartbeats 8000000 in
set_option maxRecDepth 100000 in
theorem platbookref06_Count.calls (k : Nat) (a0_0 : Bool) (a0_1 : Int) (a0_2 : Int) (a0_3 : Int) (r : Int) (w : World) (h : platbookref06_Count.f k a0_0 a0_1 a0_2 a0_3 = some r) :
  Calls Tryz.prog 14 #[.agg #[.bool a0_0, .int .u64 a0_1, .int .u64 a0_2, .int .i64 a0_3]] w fun e w' => e = .returned (.int .i64 r) ∧ Below w.heap.size w w' := by
 have hu28 := Tryz.underlying28
 have hu26 := Tryz.underlying26
 have HB := Aside0.mk (Below.refl w.heap.size w)
 have H : ((platbookref03_Right.f k a0_0 a0_1 a0_2 a0_3).bind fun t386 => (if t386 = true then ((platbookref02_Width.f a0_0 a0_1 a0_2).bind fun t387 => (if (wrap64 (t387 - a0_3)) > 16 then (some 65536) else (platbookref06_Count.l0 k (wrap64 (t387 - a0_3)) 1 0))) else (some 0))) = some r := h
 clear h
 replace H := Option.bind_eq_some_iff.mp H
 obtain ⟨t386, A20, H⟩ := H
 replace H : (if t386 = true then ((platbookref02_Width.f a0_0 a0_1 a0_2).bind fun t387 => (if (wrap64 (t387 - a0_3)) > 16 then (some 65536) else (platbookref06_Count.l0 k (wrap64 (t387 - a0_3)) 1 0))) else (some 0)) = some r := H
 have A2 := Aside0.mk A20
 clear A20
 by_cases c3 : t386 = true
 ·
  subst c3
  rw [if_pos rfl] at H
  replace H := Option.bind_eq_some_iff.mp H
  obtain ⟨t387, A40, H⟩ := H
  replace H : (if (wrap64 (t387 - a0_3)) > 16 then (some 65536) else (platbookref06_Count.l0 k (wrap64 (t387 - a0_3)) 1 0)) = some r := H
  have A4 := Aside0.mk A40
  clear A40
  by_cases c5 : (wrap64 (t387 - a0_3)) > 16
  ·
   rw [if_pos c5] at H
   have c5b0 : decide (16 < (wrap64 (t387 - a0_3))) = true := decide_eq_true c5
   clear c5
   obtain rfl := Option.some.inj H
   go_enter Tryz.func14, Tryz.ntmps14
   try go_wp2_with (first | ((with_reducible refine gate_dst (N := 1) rfl ?_); refine bx_ 1 #[.bool a0_0, .int .u64 a0_1, .int .u64 a0_2, .int .i64 a0_3] 28 ?_; intro gb385 hg w6 hbox hb; have BK385 := Aside0.mk (hbox); have GW385 := gw_ HB hg; have GE385 := gw_ HB hg; replace HB := bs_ HB hb; clear hb hbox hg; obtain ⟨hcz7_0, hcz7_1, hcz7_2, hcz7_3, hfz7_0, hfz7_1, hfz7_2, hfz7_3⟩ := c4_ BK385) | ((with_reducible refine gate_callee (f := 55) rfl ?_); refine gl_ (some 7) Tryz.func55 #[.agg #[.bool a0_0, .int .u64 a0_1, .int .u64 a0_2, .int .i64 a0_3]] ?_; (with_reducible refine (platbookref03_Right.calls k a0_0 a0_1 a0_2 a0_3 true _ A2.out).mono ?_); rintro e w8 ⟨rfl, hb⟩; refine ⟨_, rfl, ?_⟩; replace BK385 := bb_ BK385 hb; replace HB := bs_ HB hb; (try clear hb); (try clear hb2); (try clear hk); (try clear hi)))
   replace BK385 := Aside0.mk (blk_drew BK385.out)
   replace HB := Aside0.mk (below_drew1 HB.out)
   refine start_ (n := 7) (S := fun w' => w'.cell? ⟨gb385, 0, none⟩ = some (.bool a0_0) ∧ w'.cell? ⟨gb385, 1, none⟩ = some (.int .u64 a0_1) ∧ w'.cell? ⟨gb385, 2, none⟩ = some (.int .u64 a0_2) ∧ w'.cell? ⟨gb385, 3, none⟩ = some (.int .i64 a0_3)) (ds := []) (bm_ 7 0) (by kernel_rfl) rfl rfl ⟨kc_ BK385 0, kc_ BK385 1, kc_ BK385 2, kc_ BK385 3⟩ (fun hHeld => ?_)
   generalize w8.drew = w9 at BK385 HB hHeld ⊢
   refine pure_ (i := 0) (N := some 9) (v := ?_) (a' := ?_) (bm_ 7 1) rfl rfl (by kernel_rfl) (fun _ _ _ h => h) (Or.inl ⟨by rfl, ?_⟩) ?_ ?_
   rotate_left
   ·
    intro w'
    go_simp
    with_reducible rfl
   rotate_left
   ·
    simp only [Act.put, List.setIfInBounds_toArray, List.set_cons_zero, List.set_cons_succ, i64_w, i32_w]
    rfl
   refine pure_ (i := 3) (N := some 12) (v := ?_) (a' := ?_) (bm_ 7 9) rfl rfl (by kernel_rfl) (fun _ _ _ h => h) (Or.inl ⟨by rfl, ?_⟩) ?_ ?_
   rotate_left
   ·
    intro w'
    go_simp
    with_reducible rfl
   rotate_left
   ·
    simp only [Act.put, List.setIfInBounds_toArray, List.set_cons_zero, List.set_cons_succ, i64_w, i32_w]
    rfl
   refine take_ (i := 1) (N := some 10) (v := ?_) (a' := ?_) (bm_ 7 11) rfl rfl (by kernel_rfl) (fun _ _ _ h => h) (Or.inl ⟨by rfl, ?_⟩) hHeld ?_ ?_
   rotate_left
   ·
    rintro w' ⟨s0, s1, s2, s3⟩
    go_simp
    with_reducible rfl
   rotate_left
   ·
    simp only [Act.put, List.setIfInBounds_toArray, List.set_cons_zero, List.set_cons_succ, i64_w, i32_w]
    rfl
   refine take_ (i := 4) (N := some 13) (v := ?_) (a' := ?_) (bm_ 7 27) rfl rfl (by kernel_rfl) (fun _ _ _ h => h) (Or.inl ⟨by rfl, ?_⟩) hHeld ?_ ?_
   rotate_left
   ·
    rintro w' ⟨s0, s1, s2, s3⟩
    go_simp
    with_reducible rfl
   rotate_left
   ·
    simp only [Act.put, List.setIfInBounds_toArray, List.set_cons_zero, List.set_cons_succ, i64_w, i32_w]
    rfl
   refine one_ (i := 2) (N := some 11) (bm_ 7 31) rfl rfl (by kernel_rfl) (by decide) (fun K hK => ?_)
   refine gr_ Tryz.func67 #[.agg #[.bool a0_0, .int .u64 a0_1, .int .u64 a0_2]] ?_
   with_reducible refine (platbookref02_Width.calls a0_0 a0_1 a0_2 t387 _ A4.out).mono ?_
   rintro e w10 ⟨rfl, hb⟩
   refine ⟨_, rfl, ?_⟩
   replace BK385 := bb_ BK385 hb
   replace HB := bs_ HB hb
   (try clear hb)
   (try clear hb2)
   (try clear hk)
   (try clear hi)
   refine hK.out _ _ ⟨kc_ BK385 0, kc_ BK385 1, kc_ BK385 2, kc_ BK385 3⟩ (fun hHeld => ?_)
   clear hK K
   refine norm_ (a' := ?_) ?_ ?_
   rotate_left
   ·
    show Act.put _ (some 11) _ = _
    simp only [Act.put, List.setIfInBounds_toArray, List.set_cons_zero, List.set_cons_succ, i64_w, i32_w]
    rfl
   refine pure_ (i := 5) (N := some 14) (v := ?_) (a' := ?_) (bm_ 7 63) rfl rfl (by kernel_rfl) (fun _ _ _ h => h) (Or.inl ⟨by rfl, ?_⟩) ?_ ?_
   rotate_left
   ·
    intro w'
    go_simp
    with_reducible rfl
   rotate_left
   ·
    simp only [Act.put, List.setIfInBounds_toArray, List.set_cons_zero, List.set_cons_succ, i64_w, i32_w]
    rfl
   refine pure_ (i := 6) (N := some 3) (v := ?_) (a' := ?_) (bm_ 7 127) rfl rfl (by kernel_rfl) (fun _ _ _ h => h) (Or.inl ⟨by rfl, ?_⟩) ?_ ?_
   rotate_left
   ·
    intro w'
    go_simp
    with_reducible rfl
   rotate_left
   ·
    simp only [Act.put, List.setIfInBounds_toArray, List.set_cons_zero, List.set_cons_succ, i64_w, i32_w]
    rfl
   refine done_ (by kernel_rfl) ?_
   try go_wp2
   go_ret
   exact ⟨by first | rfl | (simp [errW_none, errW_some] <;> rfl) | (simp [*, errW_none, errW_some] <;> rfl), pb_ HB⟩
  ·
   rw [if_neg c5] at H
   have c5b0 : decide (16 < (wrap64 (t387 - a0_3))) = false := decide_eq_false c5
   clear c5
   have H' := Aside0.mk H
   clear H
   go_enter Tryz.func14, Tryz.ntmps14
   try go_wp2_with (first | ((with_reducible refine gate_dst (N := 1) rfl ?_); refine bx_ 1 #[.bool a0_0, .int .u64 a0_1, .int .u64 a0_2, .int .i64 a0_3] 28 ?_; intro gb385 hg w11 hbox hb; have BK385 := Aside0.mk (hbox); have GW385 := gw_ HB hg; have GE385 := gw_ HB hg; replace HB := bs_ HB hb; clear hb hbox hg; obtain ⟨hcz12_0, hcz12_1, hcz12_2, hcz12_3, hfz12_0, hfz12_1, hfz12_2, hfz12_3⟩ := c4_ BK385) | ((with_reducible refine gate_callee (f := 55) rfl ?_); refine gl_ (some 7) Tryz.func55 #[.agg #[.bool a0_0, .int .u64 a0_1, .int .u64 a0_2, .int .i64 a0_3]] ?_; (with_reducible refine (platbookref03_Right.calls k a0_0 a0_1 a0_2 a0_3 true _ A2.out).mono ?_); rintro e w13 ⟨rfl, hb⟩; refine ⟨_, rfl, ?_⟩; replace BK385 := bb_ BK385 hb; replace HB := bs_ HB hb; (try clear hb); (try clear hb2); (try clear hk); (try clear hi)))
   replace BK385 := Aside0.mk (blk_drew BK385.out)
   replace HB := Aside0.mk (below_drew1 HB.out)
   refine start_ (n := 7) (S := fun w' => w'.cell? ⟨gb385, 0, none⟩ = some (.bool a0_0) ∧ w'.cell? ⟨gb385, 1, none⟩ = some (.int .u64 a0_1) ∧ w'.cell? ⟨gb385, 2, none⟩ = some (.int .u64 a0_2) ∧ w'.cell? ⟨gb385, 3, none⟩ = some (.int .i64 a0_3)) (ds := []) (bm_ 7 0) (by kernel_rfl) rfl rfl ⟨kc_ BK385 0, kc_ BK385 1, kc_ BK385 2, kc_ BK385 3⟩ (fun hHeld => ?_)
   generalize w13.drew = w14 at BK385 HB hHeld ⊢
   refine pure_ (i := 0) (N := some 9) (v := ?_) (a' := ?_) (bm_ 7 1) rfl rfl (by kernel_rfl) (fun _ _ _ h => h) (Or.inl ⟨by rfl, ?_⟩) ?_ ?_
   rotate_left
   ·
    intro w'
    go_simp
    with_reducible rfl
   rotate_left
   ·
    simp only [Act.put, List.setIfInBounds_toArray, List.set_cons_zero, List.set_cons_succ, i64_w, i32_w]
    rfl
   refine pure_ (i := 3) (N := some 12) (v := ?_) (a' := ?_) (bm_ 7 9) rfl rfl (by kernel_rfl) (fun _ _ _ h => h) (Or.inl ⟨by rfl, ?_⟩) ?_ ?_
   rotate_left
   ·
    intro w'
    go_simp
    with_reducible rfl
   rotate_left
   ·
    simp only [Act.put, List.setIfInBounds_toArray, List.set_cons_zero, List.set_cons_succ, i64_w, i32_w]
    rfl
   refine take_ (i := 1) (N := some 10) (v := ?_) (a' := ?_) (bm_ 7 11) rfl rfl (by kernel_rfl) (fun _ _ _ h => h) (Or.inl ⟨by rfl, ?_⟩) hHeld ?_ ?_
   rotate_left
   ·
    rintro w' ⟨s0, s1, s2, s3⟩
    go_simp
    with_reducible rfl
   rotate_left
   ·
    simp only [Act.put, List.setIfInBounds_toArray, List.set_cons_zero, List.set_cons_succ, i64_w, i32_w]
    rfl
   refine take_ (i := 4) (N := some 13) (v := ?_) (a' := ?_) (bm_ 7 27) rfl rfl (by kernel_rfl) (fun _ _ _ h => h) (Or.inl ⟨by rfl, ?_⟩) hHeld ?_ ?_
   rotate_left
   ·
    rintro w' ⟨s0, s1, s2, s3⟩
    go_simp
    with_reducible rfl
   rotate_left
   ·
    simp only [Act.put, List.setIfInBounds_toArray, List.set_cons_zero, List.set_cons_succ, i64_w, i32_w]
    rfl
   refine one_ (i := 2) (N := some 11) (bm_ 7 31) rfl rfl (by kernel_rfl) (by decide) (fun K hK => ?_)
   refine gr_ Tryz.func67 #[.agg #[.bool a0_0, .int .u64 a0_1, .int .u64 a0_2]] ?_
   with_reducible refine (platbookref02_Width.calls a0_0 a0_1 a0_2 t387 _ A4.out).mono ?_
   rintro e w15 ⟨rfl, hb⟩
   refine ⟨_, rfl, ?_⟩
   replace BK385 := bb_ BK385 hb
   replace HB := bs_ HB hb
   (try clear hb)
   (try clear hb2)
   (try clear hk)
   (try clear hi)
   refine hK.out _ _ ⟨kc_ BK385 0, kc_ BK385 1, kc_ BK385 2, kc_ BK385 3⟩ (fun hHeld => ?_)
   clear hK K
   refine norm_ (a' := ?_) ?_ ?_
   rotate_left
   ·
    show Act.put _ (some 11) _ = _
    simp only [Act.put, List.setIfInBounds_toArray, List.set_cons_zero, List.set_cons_succ, i64_w, i32_w]
    rfl
   refine pure_ (i := 5) (N := some 14) (v := ?_) (a' := ?_) (bm_ 7 63) rfl rfl (by kernel_rfl) (fun _ _ _ h => h) (Or.inl ⟨by rfl, ?_⟩) ?_ ?_
   rotate_left
   ·
    intro w'
    go_simp
    with_reducible rfl
   rotate_left
   ·
    simp only [Act.put, List.setIfInBounds_toArray, List.set_cons_zero, List.set_cons_succ, i64_w, i32_w]
    rfl
   refine pure_ (i := 6) (N := some 3) (v := ?_) (a' := ?_) (bm_ 7 127) rfl rfl (by kernel_rfl) (fun _ _ _ h => h) (Or.inl ⟨by rfl, ?_⟩) ?_ ?_
   rotate_left
   ·
    intro w'
    go_simp
    with_reducible rfl
   rotate_left
   ·
    simp only [Act.put, List.setIfInBounds_toArray, List.set_cons_zero, List.set_cons_succ, i64_w, i32_w]
    rfl
   refine done_ (by kernel_rfl) ?_
   try go_wp2
   go_loopg [4, 5] k (fun kq v4 v5 w' => ∃ (x4_1 : Int) (x5_1 : Int), v4 = .int .i64 x4_1 ∧ v5 = .int .i64 x5_1 ∧ Aside0 (platbookref06_Count.l0 kq (wrap64 (t387 - a0_3)) x4_1 x5_1 = some r) ∧ Aside0 (kq ≤ k) ∧ Aside0 (w'.heap[gb385]? = some (.cells #[.bool a0_0, .int .u64 a0_1, .int .u64 a0_2, .int .i64 a0_3] 28 (0, 0))) ∧ Aside0 (Below w.heap.size w w'))
   case atStart => exact ⟨(1), (0), (by first | rfl | (simp; done) | (simp [*]; done)), (by first | rfl | (simp; done) | (simp [*]; done)), H', ⟨Nat.le_refl _⟩, ⟨by refine pw_ ?_; exact BK385.out⟩, ⟨pb_ HB⟩⟩
   case round =>
    clear H'
    try clear c1
    try clear p2
    try clear c3
    try clear c5
    try clear c5b0
    try clear c6
    try clear p6
    try clear c14
    try clear hcz12_0
    try clear hcz12_1
    try clear hcz12_2
    try clear hcz12_3
    try clear hcz7_0
    try clear hcz7_1
    try clear hcz7_2
    try clear hcz7_3
    try clear hfz12_0
    try clear hfz12_1
    try clear hfz12_2
    try clear hfz12_3
    try clear hfz7_0
    try clear hfz7_1
    try clear hfz7_2
    try clear hfz7_3
    obtain ⟨x4_1, x5_1, rfl, rfl, HA, HK1, BK385, HB⟩ := hrel
    cases gk with
    | zero => exact absurd HA.out (by simp [platbookref06_Count.l0])
    | succ k1 =>
     have H := HA.out
     clear HA
     simp only [platbookref06_Count.l0] at H
     by_cases c16 : x5_1 < (wrap64 (t387 - a0_3))
     ·
      rw [if_pos c16] at H
      have c16b0 : decide (x5_1 < (wrap64 (t387 - a0_3))) = true := decide_eq_true c16
      clear c16
      have H' := Aside0.mk H
      clear H
      go_wp2
      go_roundg k1
      case measure => have := HK1.out; omega
      case rel => exact ⟨(wrap64 (x4_1 * 2)), (wrap64 (x5_1 + 1)), (by first | rfl | (simp; done) | (simp [*]; done)), (by first | rfl | (simp; done) | (simp [*]; done)), H', ⟨by have := HK1.out; omega⟩, ⟨by refine pw_ ?_; exact BK385.out⟩, ⟨pb_ HB⟩⟩
     ·
      rw [if_neg c16] at H
      have c16b0 : decide (x5_1 < (wrap64 (t387 - a0_3))) = false := decide_eq_false c16
      clear c16
      by_cases c17 : x4_1 < 4
      ·
       rw [if_pos c17] at H
       have c17b0 : decide (x4_1 < 4) = true := decide_eq_true c17
       clear c17
       obtain rfl := Option.some.inj H
       go_wp2
       go_ret
       exact ⟨by first | rfl | (simp [errW_none, errW_some] <;> rfl) | (simp [*, errW_none, errW_some] <;> rfl), pb_ HB⟩
      ·
       rw [if_neg c17] at H
       have c17b0 : decide (x4_1 < 4) = false := decide_eq_false c17
       clear c17
       obtain rfl := Option.some.inj H
       go_wp2
       go_ret
       exact ⟨by first | rfl | (simp [errW_none, errW_some] <;> rfl) | (simp [*, errW_none, errW_some] <;> rfl), pb_ HB⟩
 ·
  replace c3 := Bool.eq_false_iff.mpr c3
  subst c3
  have H1 : (some 0) = some r := by rw [if_neg (show ¬ (false = true) by decide)] at H; exact H
  clear H
  have H := H1
  clear H1
  obtain rfl := Option.some.inj H
  go_enter Tryz.func14, Tryz.ntmps14
  go_wp2_with (first | ((with_reducible refine gate_dst (N := 1) rfl ?_); refine bx_ 1 #[.bool a0_0, .int .u64 a0_1, .int .u64 a0_2, .int .i64 a0_3] 28 ?_; intro gb385 hg w18 hbox hb; have BK385 := Aside0.mk (hbox); have GW385 := gw_ HB hg; have GE385 := gw_ HB hg; replace HB := bs_ HB hb; clear hb hbox hg; obtain ⟨hcz19_0, hcz19_1, hcz19_2, hcz19_3, hfz19_0, hfz19_1, hfz19_2, hfz19_3⟩ := c4_ BK385) | ((with_reducible refine gate_callee (f := 55) rfl ?_); refine gl_ (some 7) Tryz.func55 #[.agg #[.bool a0_0, .int .u64 a0_1, .int .u64 a0_2, .int .i64 a0_3]] ?_; (with_reducible refine (platbookref03_Right.calls k a0_0 a0_1 a0_2 a0_3 false _ A2.out).mono ?_); rintro e w20 ⟨rfl, hb⟩; refine ⟨_, rfl, ?_⟩; replace BK385 := bb_ BK385 hb; replace HB := bs_ HB hb; (try clear hb); (try clear hb2); (try clear hk); (try clear hi)))
  go_ret
  exact ⟨by first | rfl | (simp [errW_none, errW_some] <;> rfl) | (simp [*, errW_none, errW_some] <;> rfl), pb_ HB⟩

end Go.Proofs.YtpfilldnfpcpkaaGreatDoor.PPo

namespace Go.Proofs.YtpfilldnfpcpkaaGreatDoor
open Go.RowKit

theorem cnt_top {f : Nat → Bool} {n m : Nat} (h : ∀ x, n ≤ x → f x = false) (hm : n ≤ m) : cnt f 0 m = cnt f 0 n := by
  rw [show m = n + (m - n) from by omega, cnt_join, cnt_none (n := m - n) fun x hx _ => h x (by omega), Nat.add_zero]
theorem kept_zero (v : Bool) (F : Nat) : kept v F 0 = true := by simp [kept]
theorem kept_false {v : Bool} {F i : Nat} : kept v F i = false ↔ i ≠ 0 ∧ (endK v F = true → i + 1 ≠ cntP F) := by
  unfold kept
  cases endK v F <;> simp
end Go.Proofs.YtpfilldnfpcpkaaGreatDoor

namespace Go.Proofs.YtpfilldnfpcpkaaGreatDoor
open Go.RowKit Go.Proofs.YtpfilldnfpcpkaaGreatDoorW.PrintWords Go.Proofs.YtpfilldnfpcpkaaGreatDoor.PPo

/-- the lowest d bits, the lowest one first -/
def rowL : Nat → Nat → List Int
  | _, 0 => []
  | x, d + 1 => ((x % 2 : Nat) : Int) :: rowL (x / 2) d
theorem rowL_succ (x d : Nat) : rowL x (d + 1) = ((x % 2 : Nat) : Int) :: rowL (x / 2) d := rfl
theorem bit_nat {b : Int} (h : b = 0 ∨ b = 1) : ∃ c : Nat, b = (c : Int) ∧ c ≤ 1 := by
  rcases h with rfl | rfl
  · exact ⟨0, rfl, by omega⟩
  · exact ⟨1, rfl, by omega⟩
theorem rowL_len : ∀ (d x : Nat), (rowL x d).length = d
  | 0, _ => rfl
  | d + 1, x => by simp [rowL, rowL_len d]
theorem rowL_add : ∀ (a b x : Nat), rowL x (a + b) = rowL x a ++ rowL (x / 2 ^ a) b
  | 0, b, x => by simp [rowL]
  | a + 1, b, x => by
    rw [show a + 1 + b = (a + b) + 1 by omega, rowL, rowL_add a b, rowL, List.cons_append, Nat.div_div_eq_div_mul, Nat.pow_succ, Nat.mul_comm 2]
theorem rowL_mod : ∀ (a h l : Nat), rowL (h * 2 ^ a + l) a = rowL l a
  | 0, _, _ => rfl
  | a + 1, h, l => by
    have e : h * 2 ^ (a + 1) = 2 * (h * 2 ^ a) := by rw [Nat.pow_succ]; rw [← Nat.mul_assoc, Nat.mul_comm 2]
    rw [rowL, rowL, show (h * 2 ^ (a + 1) + l) % 2 = l % 2 by omega, show (h * 2 ^ (a + 1) + l) / 2 = h * 2 ^ a + l / 2 by omega, rowL_mod a h]
theorem rowL_join {a b h l : Nat} (hl : l < 2 ^ a) : rowL (h * 2 ^ a + l) (a + b) = rowL l a ++ rowL h b := by
  rw [rowL_add, rowL_mod]
  congr 2
  rw [Nat.mul_comm, Nat.mul_add_div (Nat.two_pow_pos a), Nat.div_eq_of_lt hl, Nat.add_zero]
theorem rowL_bit : ∀ (d x : Nat), ∀ b ∈ rowL x d, b = 0 ∨ b = 1
  | 0, _, b, h => by cases h
  | d + 1, x, b, h => by
    rw [rowL] at h
    rcases List.mem_cons.1 h with rfl | h
    · omega
    · exact rowL_bit d (x / 2) b h
theorem tmod2 (x : Nat) : wrap64 (Int.tmod (x : Int) 2) = ((x % 2 : Nat) : Int) := by
  rw [Int.tmod_eq_emod_of_nonneg (by omega)]; unfold wrap64; omega
theorem tdiv2 (x : Nat) (h : x < 18446744073709551616) : IntKind.u64.wrap (Int.tdiv (x : Int) 2) = ((x / 2 : Nat) : Int) := by
  rw [Int.tdiv_eq_ediv_of_nonneg (by omega)]
  show ((x : Int) / 2) % 18446744073709551616 = _
  omega
theorem pbits_l1 (d : Nat) : ∀ (k : Nat) (acc : List Int) (x : Nat), d ≤ 64 → x < 18446744073709551616 → acc.length + d ≤ 1000 → platbookref01_Bits.l1 (k + d + 1) acc x (64 - (d : Int)) = some (acc ++ rowL x d) := by
  induction d with
  | zero => intro k acc x _ _ _; rw [platbookref01_Bits.l1, if_neg (by omega)]; simp [rowL]
  | succ d ih =>
    intro k acc x hd hx ha
    rw [show k + (d + 1) + 1 = (k + d + 1) + 1 by omega, platbookref01_Bits.l1, if_pos (by omega), if_pos (by omega), tmod2, tdiv2 x hx, w64 (by omega) (by omega), show (64 : Int) - ((d + 1 : Nat) : Int) + 1 = 64 - (d : Int) by omega, ih k _ (x / 2) (by omega) (by omega) (by simp; omega), rowL_succ x d]
    simp
theorem pbits_l0 (d : Nat) : ∀ (k : Nat) (acc : List Int) (x h : Nat), d ≤ 64 → x < 18446744073709551616 → h < 18446744073709551616 → acc.length + d + 64 ≤ 1000 → platbookref01_Bits.l0 (k + d + 66) acc x h (64 - (d : Int)) = some (acc ++ rowL x d ++ rowL h 64) := by
  induction d with
  | zero =>
    intro k acc x h _ _ hh ha
    rw [show k + 0 + 66 = (k + 64 + 1) + 1 by omega, platbookref01_Bits.l0, if_neg (by omega)]
    have := pbits_l1 64 k acc h (by omega) hh (by omega)
    rw [show (64 : Int) - ((64 : Nat) : Int) = 0 by omega] at this
    rw [this]; simp [rowL]
  | succ d ih =>
    intro k acc x h hd hx hh ha
    rw [show k + (d + 1) + 66 = (k + d + 66) + 1 by omega, platbookref01_Bits.l0, if_pos (by omega), if_pos (by omega), tmod2, tdiv2 x hx, w64 (by omega) (by omega), show (64 : Int) - ((d + 1 : Nat) : Int) + 1 = 64 - (d : Int) by omega, ih k _ (x / 2) h (by omega) (by omega) hh (by simp; omega), rowL_succ x d]
    simp
theorem pbits_f (k n : Nat) (hn : n < 340282366920938463463374607431768211456) : platbookref01_Bits.f (k + 130) (hi n) (lo n) = some (rowL n 128) := by
  unfold platbookref01_Bits.f hi lo
  have := pbits_l0 64 k [] (n % 18446744073709551616) (n / 18446744073709551616 % 18446744073709551616) (by omega) (by omega) (by omega) (by simp)
  rw [show (64 : Int) - ((64 : Nat) : Int) = 0 by omega] at this
  rw [show k + 130 = k + 64 + 66 by omega, this]
  have e := rowL_join (a := 64) (b := 64) (h := n / 18446744073709551616 % 18446744073709551616) (l := n % 18446744073709551616) (Nat.mod_lt _ (by decide))
  rw [show (2 : Nat) ^ 64 = 18446744073709551616 by decide, show n / 18446744073709551616 % 18446744073709551616 * 18446744073709551616 + n % 18446744073709551616 = n by omega] at e
  rw [List.nil_append, ← e]
/-- an address's bits, the highest one first -/
def rowT (n w : Nat) : List Int := (rowL n w).reverse
theorem prow_l0 (j : Nat) : ∀ (k : Nat) (xs acc : List Int), j ≤ xs.length → xs.length ≤ 1000 → acc.length + j ≤ 1000 → platbookref03_Row.l0 (k + j + 1) xs acc ((j : Int) - 1) = some (acc ++ (xs.take j).reverse) := by
  induction j with
  | zero => intro k xs acc _ _ _; rw [platbookref03_Row.l0, if_neg (by omega)]; simp
  | succ j ih =>
    intro k xs acc hj hx ha
    have e : rd xs (((j + 1 : Nat) : Int) - 1) = xs[j] := by
      unfold rd; rw [show ((((j + 1 : Nat) : Int) - 1)).toNat = j by omega]; simp [List.getD, List.getElem?_eq_getElem (show j < xs.length by omega)]
    rw [show k + (j + 1) + 1 = (k + j + 1) + 1 by omega, platbookref03_Row.l0, if_pos (by omega), if_pos (by omega), if_pos (by omega), if_pos (by omega), w64 (by omega) (by omega), e, show ((j + 1 : Nat) : Int) - 1 - 1 = (j : Int) - 1 by omega, ih k xs _ (by omega) hx (by simp; omega), List.take_succ_eq_append_getElem (show j < xs.length by omega), List.reverse_append]
    simp
theorem width_hl (v : Bool) (n : Nat) : platbookref02_Width.f v (hi n) (lo n) = some ((widthN v : Nat) : Int) := by
  unfold platbookref02_Width.f; rw [if_pos (by simpa using okW_hl n)]
theorem widthN_pos (v : Bool) : 32 ≤ widthN v := by cases v <;> decide
theorem prow_f (k : Nat) (v : Bool) (n : Nat) (hn : n < 340282366920938463463374607431768211456) : platbookref03_Row.f (k + 300) v (hi n) (lo n) = some (rowT n (widthN v)) := by
  unfold platbookref03_Row.f
  rw [show k + 300 = (k + 170) + 130 by omega, pbits_f _ n hn, width_hl]
  simp only [Option.bind_some]
  have hw := widthN_le v
  have hp := widthN_pos v
  rw [w64 (by omega) (by omega), show k + 170 + 130 = (k + 299 - widthN v) + widthN v + 1 by omega, prow_l0 _ _ _ _ (by rw [rowL_len]; exact hw) (by rw [rowL_len]; omega) (by simp; omega)]
  have e : rowL n 128 = rowL n (widthN v) ++ rowL (n / 2 ^ widthN v) (128 - widthN v) := by rw [← rowL_add]; congr 1; omega
  rw [e, List.take_left' (rowL_len _ _)]; rfl
/-- the number of a row of bits, the lowest one first -/
def valL : List Int → Nat
  | [] => 0
  | b :: r => b.toNat + 2 * valL r
theorem valL_append : ∀ (a b : List Int), valL (a ++ b) = valL a + 2 ^ a.length * valL b
  | [], b => by simp [valL]
  | x :: a, b => by rw [List.cons_append, valL, valL, valL_append a b, List.length_cons, Nat.pow_succ, Nat.mul_add]; rw [Nat.mul_comm (2 ^ a.length) 2, Nat.mul_assoc]; omega
theorem valL_lt : ∀ (a : List Int), (∀ b ∈ a, b = 0 ∨ b = 1) → valL a < 2 ^ a.length
  | [], _ => by simp [valL]
  | x :: a, h => by
    have h1 := valL_lt a (fun b hb => h b (by simp [hb]))
    have h2 := h x (by simp)
    rw [valL, List.length_cons, Nat.pow_succ]
    rcases h2 with rfl | rfl
    · simp; omega
    · simp; omega
theorem valL_row : ∀ (d x : Nat), valL (rowL x d) = x % 2 ^ d
  | 0, x => by simp [rowL, valL, Nat.mod_one]
  | d + 1, x => by
    rw [rowL, valL, valL_row d, Nat.pow_succ, Nat.mul_comm (2 ^ d) 2, Nat.mod_mul]
    omega
theorem valL_rep (d : Nat) : valL (List.replicate d 0) = 0 := by
  induction d with
  | zero => rfl
  | succ d ih => rw [List.replicate_succ, valL, ih]; rfl
theorem valL_ones (d : Nat) : valL (List.replicate d 1) = 2 ^ d - 1 := by
  induction d with
  | zero => rfl
  | succ d ih => rw [List.replicate_succ, valL, ih, Nat.pow_succ]; have := Nat.two_pow_pos d; simp; omega
theorem u64w {x : Nat} (h : x < 18446744073709551616) : IntKind.u64.wrap (x : Int) = (x : Int) := by show (x : Int) % 18446744073709551616 = _; omega
theorem pnum_l1 (j : Nat) : ∀ (k : Nat) (L : List Int) (H x : Nat), (∀ b ∈ L, b = 0 ∨ b = 1) → L.length ≤ 1000 → j ≤ 1000 → x * 2 ^ j + valL (L.take j) < 18446744073709551616 → platbookref01_Num.l1 (k + j + 1) L ((j : Int) - 1) H x = some ((H : Int), ((x * 2 ^ j + valL (L.take j) : Nat) : Int)) := by
  induction j with
  | zero => intro k L H x _ _ _ _; rw [platbookref01_Num.l1, if_neg (by omega)]; simp [valL]
  | succ j ih =>
    intro k L H x hb hl hj hx
    have hp : 2 ^ (j + 1) = 2 * 2 ^ j := by rw [Nat.pow_succ]; omega
    have hp0 := Nat.two_pow_pos j
    rw [show k + (j + 1) + 1 = (k + j + 1) + 1 by omega, platbookref01_Num.l1, if_pos (by omega)]
    by_cases h : j < L.length
    · have e : L.take (j + 1) = L.take j ++ [L[j]] := List.take_succ_eq_append_getElem h
      have hbj : L[j] = 0 ∨ L[j] = 1 := hb _ (List.getElem_mem h)
      obtain ⟨c, hc, hc2⟩ : ∃ c : Nat, L[j] = (c : Int) ∧ c ≤ 1 := by exact bit_nat hbj
      have er : rd L (((j + 1 : Nat) : Int) - 1) = (c : Int) := by
        unfold rd; rw [show ((((j + 1 : Nat) : Int) - 1)).toNat = j by omega]; simp [List.getD, List.getElem?_eq_getElem h, hc]
      have ev : valL (L.take (j + 1)) = valL (L.take j) + 2 ^ j * c := by
        rw [e, valL_append, List.length_take, Nat.min_eq_left (by omega), hc]; simp [valL]
      have e2 : x * 2 ^ (j + 1) + valL (L.take (j + 1)) = (2 * x + c) * 2 ^ j + valL (L.take j) := by
        rw [ev, hp, Nat.add_mul, Nat.mul_comm (2 ^ j) c, ← Nat.mul_assoc, Nat.mul_comm x 2]; omega
      rw [e2] at hx ⊢
      have hx2 : (2 * x + c) * 1 ≤ (2 * x + c) * 2 ^ j := Nat.mul_le_mul_left _ hp0
      rw [if_pos (by omega), if_pos (by omega), er, w64 (by omega) (by omega), show ((x : Int) * 2) = ((2 * x : Nat) : Int) by omega, u64w (x := 2 * x) (by omega), u64w (x := c) (by omega), show ((2 * x : Nat) : Int) + (c : Int) = ((2 * x + c : Nat) : Int) by omega, u64w (by omega), show ((j + 1 : Nat) : Int) - 1 - 1 = (j : Int) - 1 by omega]
      exact ih k L H (2 * x + c) hb hl (by omega) hx
    · have e : L.take (j + 1) = L.take j := by rw [List.take_of_length_le (by omega), List.take_of_length_le (by omega)]
      have e2 : x * 2 ^ (j + 1) + valL (L.take (j + 1)) = (2 * x) * 2 ^ j + valL (L.take j) := by
        rw [e, hp, ← Nat.mul_assoc, Nat.mul_comm x 2]
      rw [e2] at hx ⊢
      have hx2 : (2 * x) * 1 ≤ (2 * x) * 2 ^ j := Nat.mul_le_mul_left _ hp0
      rw [if_neg (by omega), w64 (by omega) (by omega), show ((x : Int) * 2) = ((2 * x : Nat) : Int) by omega, u64w (by omega), show ((j + 1 : Nat) : Int) - 1 - 1 = (j : Int) - 1 by omega]
      exact ih k L H (2 * x) hb hl (by omega) hx
theorem pnum_l0 (j : Nat) : ∀ (k : Nat) (L : List Int) (x : Nat), (∀ b ∈ L, b = 0 ∨ b = 1) → L.length ≤ 1000 → j ≤ 64 → x * 2 ^ j + valL ((L.drop 64).take j) < 18446744073709551616 → platbookref01_Num.l0 (k + j + 66) L (64 + (j : Int) - 1) x 0 = some (((x * 2 ^ j + valL ((L.drop 64).take j) : Nat) : Int), ((valL (L.take 64) : Nat) : Int)) := by
  induction j with
  | zero =>
    intro k L x hb hl _ _
    rw [show k + 0 + 66 = (k + 64 + 1) + 1 by omega, platbookref01_Num.l0, if_neg (by omega)]
    have hv : valL (L.take 64) < 2 ^ 64 := Nat.lt_of_lt_of_le (valL_lt _ (fun b h => hb b (List.mem_of_mem_take h))) (Nat.pow_le_pow_right (by omega) (by rw [List.length_take]; omega))
    have := pnum_l1 64 k L x 0 hb hl (by omega) (by rw [Nat.zero_mul, Nat.zero_add]; exact hv)
    rw [show ((64 : Nat) : Int) - 1 = 63 by omega, show k + 64 + 1 = k + 65 from rfl, show ((0 : Nat) : Int) = 0 from rfl] at this
    rw [this]; simp [valL]
  | succ j ih =>
    intro k L x hb hl hj hx
    have hp : 2 ^ (j + 1) = 2 * 2 ^ j := by rw [Nat.pow_succ]; omega
    have hp0 := Nat.two_pow_pos j
    rw [show k + (j + 1) + 66 = (k + j + 66) + 1 by omega, platbookref01_Num.l0, if_pos (by omega)]
    by_cases h : 64 + j < L.length
    · have hd : j < (L.drop 64).length := by rw [List.length_drop]; omega
      have e : (L.drop 64).take (j + 1) = (L.drop 64).take j ++ [L[64 + j]] := by rw [List.take_succ_eq_append_getElem hd, List.getElem_drop]
      have hbj : L[64 + j] = 0 ∨ L[64 + j] = 1 := hb _ (List.getElem_mem h)
      obtain ⟨c, hc, hc2⟩ : ∃ c : Nat, L[64 + j] = (c : Int) ∧ c ≤ 1 := by exact bit_nat hbj
      have er : rd L (64 + ((j + 1 : Nat) : Int) - 1) = (c : Int) := by
        unfold rd; rw [show (64 + ((j + 1 : Nat) : Int) - 1).toNat = 64 + j by omega]; simp [List.getD, List.getElem?_eq_getElem h, hc]
      have ev : valL ((L.drop 64).take (j + 1)) = valL ((L.drop 64).take j) + 2 ^ j * c := by
        rw [e, valL_append, List.length_take, Nat.min_eq_left (by omega), hc]; simp [valL]
      have e2 : x * 2 ^ (j + 1) + valL ((L.drop 64).take (j + 1)) = (2 * x + c) * 2 ^ j + valL ((L.drop 64).take j) := by
        rw [ev, hp, Nat.add_mul, Nat.mul_comm (2 ^ j) c, ← Nat.mul_assoc, Nat.mul_comm x 2]; omega
      rw [e2] at hx ⊢
      have hx2 : (2 * x + c) * 1 ≤ (2 * x + c) * 2 ^ j := Nat.mul_le_mul_left _ hp0
      rw [if_pos (by omega), if_pos (by omega), er, w64 (by omega) (by omega), show ((x : Int) * 2) = ((2 * x : Nat) : Int) by omega, u64w (x := 2 * x) (by omega), u64w (x := c) (by omega), show ((2 * x : Nat) : Int) + (c : Int) = ((2 * x + c : Nat) : Int) by omega, u64w (by omega), show 64 + ((j + 1 : Nat) : Int) - 1 - 1 = 64 + (j : Int) - 1 by omega]
      exact ih k L (2 * x + c) hb hl (by omega) hx
    · have hd : (L.drop 64).length ≤ j := by rw [List.length_drop]; omega
      have e : (L.drop 64).take (j + 1) = (L.drop 64).take j := by rw [List.take_of_length_le (by omega), List.take_of_length_le (by omega)]
      have e2 : x * 2 ^ (j + 1) + valL ((L.drop 64).take (j + 1)) = (2 * x) * 2 ^ j + valL ((L.drop 64).take j) := by
        rw [e, hp, ← Nat.mul_assoc, Nat.mul_comm x 2]
      rw [e2] at hx ⊢
      have hx2 : (2 * x) * 1 ≤ (2 * x) * 2 ^ j := Nat.mul_le_mul_left _ hp0
      rw [if_neg (by omega), w64 (by omega) (by omega), show ((x : Int) * 2) = ((2 * x : Nat) : Int) by omega, u64w (by omega), show 64 + ((j + 1 : Nat) : Int) - 1 - 1 = 64 + (j : Int) - 1 by omega]
      exact ih k L (2 * x) hb hl (by omega) hx
theorem pnum_f (k : Nat) (L : List Int) (hb : ∀ b ∈ L, b = 0 ∨ b = 1) (hl : L.length ≤ 128) : platbookref01_Num.f (k + 130) L = some (hi (valL L), lo (valL L)) := by
  unfold platbookref01_Num.f
  have hbd : ∀ b ∈ L.drop 64, b = 0 ∨ b = 1 := fun b h => hb b (List.mem_of_mem_drop h)
  have hv : valL (L.drop 64) < 2 ^ 64 := Nat.lt_of_lt_of_le (valL_lt _ hbd) (Nat.pow_le_pow_right (by omega) (by rw [List.length_drop]; omega))
  have ht : (L.drop 64).take 64 = L.drop 64 := List.take_of_length_le (by rw [List.length_drop]; omega)
  have := pnum_l0 64 k L 0 hb (by omega) (by omega) (by rw [Nat.zero_mul, Nat.zero_add, ht]; exact hv)
  rw [show (64 : Int) + ((64 : Nat) : Int) - 1 = 127 by omega, Nat.zero_mul, Nat.zero_add, ht] at this
  rw [show k + 130 = k + 64 + 66 by omega]
  rw [show ((0 : Nat) : Int) = 0 from rfl] at this
  rw [this]
  have hlo : valL (L.take 64) < 2 ^ 64 := Nat.lt_of_lt_of_le (valL_lt _ (fun b h => hb b (List.mem_of_mem_take h))) (Nat.pow_le_pow_right (by omega) (by rw [List.length_take]; omega))
  have e : valL L = valL (L.take 64) + 2 ^ (L.take 64).length * valL (L.drop 64) := by rw [← valL_append, List.take_append_drop]
  have e2 : valL L = valL (L.take 64) + 18446744073709551616 * valL (L.drop 64) := by
    by_cases h : 64 ≤ L.length
    · rw [e, List.length_take, Nat.min_eq_left h]
    · have : L.drop 64 = [] := List.drop_eq_nil_of_le (by omega)
      rw [e, this]; simp [valL]
  rw [show (2 : Nat) ^ 64 = 18446744073709551616 by decide] at hv hlo
  unfold hi lo
  rw [show valL L / 18446744073709551616 % 18446744073709551616 = valL (L.drop 64) by omega, show valL L % 18446744073709551616 = valL (L.take 64) by omega]
theorem paddr_l0 (j : Nat) : ∀ (k : Nat) (v : Bool) (xs acc : List Int), j ≤ xs.length → xs.length ≤ 128 → acc.length + j ≤ 128 → (∀ b ∈ xs, b = 0 ∨ b = 1) → (∀ b ∈ acc, b = 0 ∨ b = 1) → platbookref03_Addr.l0 (k + j + 131) v xs acc ((j : Int) - 1) = some (v, hi (valL (acc ++ (xs.take j).reverse)), lo (valL (acc ++ (xs.take j).reverse))) := by
  induction j with
  | zero =>
    intro k v xs acc _ _ ha hb1 hb2
    rw [show k + 0 + 131 = (k + 130) + 1 by omega, platbookref03_Addr.l0, if_neg (by omega), pnum_f k acc hb2 (by omega)]
    simp
  | succ j ih =>
    intro k v xs acc hj hx ha hb1 hb2
    have e : rd xs (((j + 1 : Nat) : Int) - 1) = xs[j] := by
      unfold rd; rw [show ((((j + 1 : Nat) : Int) - 1)).toNat = j by omega]; simp [List.getD, List.getElem?_eq_getElem (show j < xs.length by omega)]
    rw [show k + (j + 1) + 131 = (k + j + 131) + 1 by omega, platbookref03_Addr.l0, if_pos (by omega), if_pos (by omega), if_pos (by omega), if_pos (by omega), w64 (by omega) (by omega), e, show ((j + 1 : Nat) : Int) - 1 - 1 = (j : Int) - 1 by omega, ih k v xs _ (by omega) hx (by simp; omega) hb1 (by
      intro b h
      rcases List.mem_append.1 h with h | h
      · exact hb2 b h
      · rw [List.mem_singleton] at h; subst h; exact hb1 _ (List.getElem_mem _)), List.take_succ_eq_append_getElem (show j < xs.length by omega), List.reverse_append]
    simp
theorem paddr_f (k : Nat) (v : Bool) (xs : List Int) (hx : xs.length ≤ 128) (hb : ∀ b ∈ xs, b = 0 ∨ b = 1) : platbookref03_Addr.f (k + 300) v xs = some (v, hi (valL xs.reverse), lo (valL xs.reverse)) := by
  unfold platbookref03_Addr.f
  rw [w64 (by omega) (by omega), show k + 300 = (k + 169 - xs.length) + xs.length + 131 by omega, paddr_l0 _ _ _ _ _ (Nat.le_refl _) hx (by simpa using hx) hb (by simp)]
  simp
theorem pfilled_l0 (d : Nat) : ∀ (k i : Nat) (bit : Int) (xs : List Int) (v : Bool) (h l : Int), i + d = xs.length → xs.length ≤ 128 → (∀ b ∈ xs, b = 0 ∨ b = 1) → (bit = 0 ∨ bit = 1) → platbookref03_Filled.l0 (k + d + 301) bit xs i v h l = some (v, hi (valL (xs.take i ++ List.replicate d bit).reverse), lo (valL (xs.take i ++ List.replicate d bit).reverse)) := by
  induction d with
  | zero =>
    intro k i bit xs v h l hi hx hb _
    rw [show k + 0 + 301 = (k + 300) + 1 by omega, platbookref03_Filled.l0, if_neg (by omega), paddr_f k v xs hx hb, List.take_of_length_le (by omega)]
    simp
  | succ d ih =>
    intro k i bit xs v h l hi hx hb hbit
    rw [show k + (d + 1) + 301 = (k + d + 301) + 1 by omega, platbookref03_Filled.l0, if_pos (by omega), if_pos (by omega), w64 (by omega) (by omega), show ((i : Int)).toNat = i by omega, show (i : Int) + 1 = ((i + 1 : Nat) : Int) by omega, ih k (i + 1) bit (xs.set i bit) v h l (by rw [List.length_set]; omega) (by rw [List.length_set]; omega) (by
      intro b h
      rcases List.mem_or_eq_of_mem_set h with h | rfl
      · exact hb b h
      · exact hbit) hbit]
    have e : (xs.set i bit).take (i + 1) = xs.take i ++ [bit] := by
      rw [List.take_succ_eq_append_getElem (by rw [List.length_set]; omega), List.getElem_set_self, List.take_set_of_le (Nat.le_refl _)]
    rw [e, List.append_assoc, List.replicate_succ]; rfl
theorem rowT_len (n w : Nat) : (rowT n w).length = w := by unfold rowT; rw [List.length_reverse, rowL_len]
theorem pfilled_f (k : Nat) (v : Bool) (n : Nat) (i : Nat) (bit : Int) (hn : n < 340282366920938463463374607431768211456) (hi' : i ≤ widthN v) (hbit : bit = 0 ∨ bit = 1) : platbookref03_Filled.f (k + 500) v (hi n) (lo n) i bit = some (v, hi (n / 2 ^ (widthN v - i) % 2 ^ i * 2 ^ (widthN v - i) + bit.toNat * (2 ^ (widthN v - i) - 1)), lo (n / 2 ^ (widthN v - i) % 2 ^ i * 2 ^ (widthN v - i) + bit.toNat * (2 ^ (widthN v - i) - 1))) := by
  unfold platbookref03_Filled.f
  have hw := widthN_le v
  rw [show k + 500 = (k + 200) + 300 by omega, prow_f _ v n hn]
  simp only [Option.bind_some]
  rw [show k + 200 + 300 = (k + 199 - (widthN v - i)) + (widthN v - i) + 301 by omega, pfilled_l0 (widthN v - i) _ i bit _ v _ _ (by rw [rowT_len]; omega) (by rw [rowT_len]; omega) (by intro b h; unfold rowT at h; rw [List.mem_reverse] at h; exact rowL_bit _ _ b h) hbit]
  have e : valL ((rowT n (widthN v)).take i ++ List.replicate (widthN v - i) bit).reverse = n / 2 ^ (widthN v - i) % 2 ^ i * 2 ^ (widthN v - i) + bit.toNat * (2 ^ (widthN v - i) - 1) := by
    rw [List.reverse_append, List.reverse_replicate, valL_append, List.length_replicate]
    have e1 : ((rowT n (widthN v)).take i).reverse = rowL (n / 2 ^ (widthN v - i)) i := by
      unfold rowT
      rw [show widthN v = (widthN v - i) + i by omega, rowL_add, List.reverse_append, List.take_left' (by rw [List.length_reverse, rowL_len]), List.reverse_reverse]
      rw [show widthN v - i + i - i = widthN v - i by omega]
    have e2 : valL (List.replicate (widthN v - i) bit) = bit.toNat * (2 ^ (widthN v - i) - 1) := by
      rcases hbit with rfl | rfl
      · rw [valL_rep]; simp
      · rw [valL_ones]; simp
    rw [e1, valL_row, e2, Nat.mul_comm (2 ^ (widthN v - i))]
    omega
  rw [e]
end Go.Proofs.YtpfilldnfpcpkaaGreatDoor

namespace Go.Proofs.YtpfilldnfpcpkaaGreatDoor
open Go.RowKit Go.Proofs.YtpfilldnfpcpkaaGreatDoorW.PrintWords Go.Proofs.YtpfilldnfpcpkaaGreatDoor.PPo

theorem rright02_hl (v : Bool) {n : Nat} (hn : n < 340282366920938463463374607431768211456) : platbookref02_Right.f v (hi n) (lo n) = some (rightB v n) := by
  unfold platbookref02_Right.f; rw [if_pos (okW_hl n), num_hi_lo hn]
/-- without the bits behind: the reference's way -/
theorem top_ref {v : Bool} {n i : Nat} (hn : n < 2 ^ widthN v) (hi : i ≤ widthN v) : n / 2 ^ (widthN v - i) % 2 ^ i * 2 ^ (widthN v - i) = topN (widthN v - i) n := by
  unfold topN
  rw [Nat.mod_eq_of_lt]
  rw [Nat.div_lt_iff_lt_mul (Nat.two_pow_pos _), ← Nat.pow_add, show i + (widthN v - i) = widthN v by omega]; exact hn
theorem rrightP_f (K : Nat) (hK : 600 ≤ K) (v : Bool) (n : Nat) (b : Int) (hn : n < 340282366920938463463374607431768211456) : platbookref03_Right.f K v (hi n) (lo n) b = some (rightP v n b) := by
  obtain ⟨k, rfl⟩ : ∃ k, K = k + 500 := ⟨K - 500, by omega⟩
  unfold platbookref03_Right.f
  rw [rright02_hl v hn]
  simp only [bsome]
  unfold rightP
  cases hr : rightB v n
  · rw [if_neg (by simp)]; rfl
  · rw [if_pos rfl]
    by_cases h0 : b < 0
    · rw [if_pos h0, decide_eq_false (by omega)]; rfl
    · rw [if_neg h0, width_hl, decide_eq_true (show 0 ≤ b by omega)]
      simp only [bsome]
      by_cases h1 : b ≤ (widthN v : Int)
      · rw [if_neg (by omega), decide_eq_true h1]
        obtain ⟨i, rfl⟩ := Int.eq_ofNat_of_zero_le (show 0 ≤ b by omega)
        rw [pfilled_f k v n i 0 hn (by omega) (.inl rfl), top_ref (rightB_iff.1 hr) (by omega)]
        have e : fr v (i : Int) = widthN v - i := by unfold fr; omega
        simp only [bsome, Int.toNat_zero, Nat.zero_mul, Nat.add_zero]
        rw [hl_eq (top_lt hn) hn, e]
        simp only [beq_self_eq_true, Bool.true_and, Option.some.injEq]
        rw [Bool.eq_iff_iff]; simp [topN_eq]
      · rw [if_pos (by omega), decide_eq_false h1]; rfl
def firstS (v : Bool) (n : Nat) (b : Int) : Bool × Nat := if rightP v n b = true then (v, n) else (false, 0)
theorem first_f (v : Bool) (n : Nat) (b : Int) (hn : n < 340282366920938463463374607431768211456) : prefix_First.f v (hi n) (lo n) b = some (tup3 (firstS v n b)) := by
  unfold prefix_First.f firstS
  rw [pright_hl v b hn]
  simp only [bsome]
  cases rightP v n b <;> simp [tup3, hi00, lo00]
end Go.Proofs.YtpfilldnfpcpkaaGreatDoor

namespace Go.Proofs.YtpfilldnfpcpkaaGreatDoor
open Go.RowKit Go.Proofs.YtpfilldnfpcpkaaGreatDoorW.PrintWords Go.Proofs.YtpfilldnfpcpkaaGreatDoor.PPo

theorem numberS_lt (v : Bool) (n : Nat) (b : Int) (u : Bool) (x : Nat) (hx : x < 340282366920938463463374607431768211456) : (numberS v n b u x).1 < 340282366920938463463374607431768211456 := by
  unfold numberS
  split
  · split
    · exact Nat.lt_of_le_of_lt (Nat.mod_le _ _) hx
    · decide
  · decide
end Go.Proofs.YtpfilldnfpcpkaaGreatDoor

namespace Go.Proofs.YtpfilldnfpcpkaaGreatDoor
open Go.RowKit Go.Proofs.YtpfilldnfpcpkaaGreatDoorW.PrintWords Go.Proofs.YtpfilldnfpcpkaaGreatDoor.PPo

theorem small_k (k : Nat) (w : World) (h : k < 340282366920938463463374607431768211456) :
    Calls Tryz.prog 96 #[.agg #[.int .u64 (hi k), .int .u64 (lo k)]] w fun e w' => e = .returned (.tuple #[.int .u64 (smallS k).1, .bool (smallS k).2]) ∧ Below w.heap.size w w' :=
  num_Small.calls (hi k) (lo k) _ _ w (small_f h)
theorem cnumber_k (v : Bool) (n : Nat) (b : Int) (u : Bool) (x : Nat) (w : World) (hn : n < 340282366920938463463374607431768211456) (hx : x < 340282366920938463463374607431768211456) :
    Calls Tryz.prog 122 #[.agg #[.bool v, .int .u64 (hi n), .int .u64 (lo n), .int .i64 b], .agg #[.bool u, .int .u64 (hi x), .int .u64 (lo x)]] w fun e w' =>
      e = .returned (.tuple #[.agg #[.int .u64 (hi (numberS v n b u x).1), .int .u64 (lo (numberS v n b u x).1)], .int .i64 (numberS v n b u x).2]) ∧ Below w.heap.size w w' :=
  carve_Number.calls 1 v (hi n) (lo n) b u (hi x) (lo x) _ _ _ w (number_f 1 (Nat.le_refl _) v n b u x hn hx)
/-- the reference's number of addresses -/
def countS (v : Bool) (n : Nat) (b : Int) : Nat := if rightP v n b = true ∧ 2 ≤ fr v b then cntP (fr v b) else 0
theorem rcount_l0 (d : Nat) : ∀ (k i P Q : Nat), P = 2 ^ i → Q = 2 ^ (i + d) → i + d ≤ 16 → platbookref06_Count.l0 (k + d + 1) ((i + d : Nat) : Int) (P : Int) (i : Int) = some (if Q < 4 then 0 else (Q : Int)) := by
  induction d with
  | zero =>
    intro k i P Q hP hQ h
    obtain rfl : P = Q := by rw [hP, hQ, Nat.add_zero]
    rw [platbookref06_Count.l0, if_neg (by omega)]
    by_cases hq : P < 4
    · rw [if_pos (by omega), if_pos hq]
    · rw [if_neg (by omega), if_neg hq]
  | succ d ih =>
    intro k i P Q hP hQ h
    have hle : P ≤ 2 ^ 16 := by rw [hP]; exact Nat.pow_le_pow_right (by decide) (by omega)
    rw [platbookref06_Count.l0, if_pos (by omega), w64 (by omega) (by omega), w64 (by omega) (by omega), show (P : Int) * 2 = ((P * 2 : Nat) : Int) from by omega, show (i : Int) + 1 = ((i + 1 : Nat) : Int) from by omega]
    have := ih k (i + 1) (P * 2) Q (by rw [hP, Nat.pow_succ]) (by rw [hQ]; congr 1; omega) (by omega)
    rw [show i + 1 + d = i + (d + 1) from by omega] at this
    rw [show k + (d + 1) = k + d + 1 from by omega]
    exact this
theorem rcount_f (v : Bool) (n : Nat) (b : Int) (hn : n < 340282366920938463463374607431768211456) : platbookref06_Count.f 1000 v (hi n) (lo n) b = some (countS v n b : Nat) := by
  unfold platbookref06_Count.f countS
  rw [rrightP_f 1000 (by omega) v n b hn]
  simp only [bsome]
  cases hr : rightP v n b
  · simp
  · obtain ⟨h1, h2, h3, h4⟩ := rightP_iff.1 hr
    have hw := widthN_le v
    rw [if_pos rfl, width_hl]
    simp only [bsome]
    have hfr : (widthN v : Int) - b = (fr v b : Nat) := by unfold fr; omega
    rw [w64 (by omega) (by omega), hfr]
    by_cases h16 : 16 < fr v b
    · rw [if_pos (by omega), if_pos ⟨trivial, by omega⟩]
      unfold cntP; rw [if_pos h16]; rfl
    · rw [if_neg (by omega)]
      have := rcount_l0 (fr v b) (1000 - fr v b - 1) 0 1 (2 ^ fr v b) rfl (by rw [Nat.zero_add]) (by omega)
      rw [show 1000 - fr v b - 1 + fr v b + 1 = 1000 from by omega, Nat.zero_add] at this
      refine this.trans ?_
      congr 1
      have e : cntP (fr v b) = 2 ^ fr v b := by unfold cntP; rw [if_neg h16]
      by_cases h2 : 2 ≤ fr v b
      · have := cntP_ge h2
        rw [if_neg (by omega), if_pos ⟨trivial, h2⟩, e]
      · have := cntP_small (F := fr v b) (by omega)
        rw [if_pos (by omega), if_neg (by rintro ⟨_, q⟩; exact h2 q)]; rfl
theorem rcount_k (v : Bool) (n : Nat) (b : Int) (w : World) (hn : n < 340282366920938463463374607431768211456) :
    Calls Tryz.prog 14 #[.agg #[.bool v, .int .u64 (hi n), .int .u64 (lo n), .int .i64 b]] w fun e w' => e = .returned (.int .i64 (countS v n b : Nat)) ∧ Below w.heap.size w w' :=
  platbookref06_Count.calls 1000 v (hi n) (lo n) b _ w (rcount_f v n b hn)
end Go.Proofs.YtpfilldnfpcpkaaGreatDoor

namespace Go.Proofs.YtpfilldnfpcpkaaGreatDoor
open Go.RowKit

/-- in w the pool of a prefix lies at block q, its map at g, its words at c; f: which numbers are used, or kept -/
structure PoolAt (w : World) (q g c : Nat) (v : Bool) (n : Nat) (b : Int) (f : Nat → Bool) : Prop where
  head : Blk w q 105 #[.bool v, .int .u64 (hi n), .int .u64 (lo n), .int .i64 b, .pointer (some ⟨g, 0, none⟩)]
  map : MapAt w g c (cntP (fr v b)) f
  right : rightP v n b = true
  big : 2 ≤ fr v b
theorem PoolAt.drew {w : World} {q g c : Nat} {v : Bool} {n : Nat} {b : Int} {f : Nat → Bool} (h : PoolAt w q g c v n b f) : PoolAt w.drew q g c v n b f := ⟨h.head.drew, h.map.drew, h.right, h.big⟩
theorem PoolAt.alloc {w : World} {q g c : Nat} {v : Bool} {n : Nat} {b : Int} {f : Nat → Bool} (h : PoolAt w q g c v n b f) (o : Obj) : PoolAt (w.alloc o) q g c v n b f := ⟨h.head.alloc o, h.map.alloc o, h.right, h.big⟩
theorem PoolAt.after {w w' : World} {q g c : Nat} {v : Bool} {n : Nat} {b : Int} {f : Nat → Bool} (h : PoolAt w q g c v n b f) (hb : Below w.heap.size w w') : PoolAt w' q g c v n b f := ⟨h.head.after hb, h.map.after hb, h.right, h.big⟩
theorem PoolAt.cells {w : World} {q g c : Nat} {v : Bool} {n : Nat} {b : Int} {f : Nat → Bool} (h : PoolAt w q g c v n b f) :
    w.cell? ⟨q, 0, none⟩ = some (.bool v) ∧ w.cell? ⟨q, 1, none⟩ = some (.int .u64 (hi n)) ∧ w.cell? ⟨q, 2, none⟩ = some (.int .u64 (lo n)) ∧ w.cell? ⟨q, 3, none⟩ = some (.int .i64 b) ∧ w.cell? ⟨q, 4, none⟩ = some (.pointer (some ⟨g, 0, none⟩)) :=
  ⟨(h.head.cell 0).trans rfl, (h.head.cell 1).trans rfl, (h.head.cell 2).trans rfl, (h.head.cell 3).trans rfl, (h.head.cell 4).trans rfl⟩
theorem pool_cells {w : World} {q g c : Nat} {v : Bool} {n : Nat} {b : Int} {f : Nat → Bool} (h : PoolAt w q g c v n b f) :
    w.cell? ⟨q, 0, none⟩ = some (.bool v) ∧ w.cell? ⟨q, 1, none⟩ = some (.int .u64 (hi n)) ∧ w.cell? ⟨q, 2, none⟩ = some (.int .u64 (lo n)) ∧ w.cell? ⟨q, 3, none⟩ = some (.int .i64 b) ∧ w.cell? ⟨q, 4, none⟩ = some (.pointer (some ⟨g, 0, none⟩)) :=
  h.cells
theorem PoolAt.ne {w : World} {q g c : Nat} {v : Bool} {n : Nat} {b : Int} {f : Nat → Bool} (h : PoolAt w q g c v n b f) : q ≠ c := h.head.ne h.map.row (by decide)
theorem PoolAt.put {w w' : World} {q g c : Nat} {v : Bool} {n : Nat} {b : Int} {f f' : Nat → Bool} (h : PoolAt w q g c v n b f) (hm : MapAt w' g c (cntP (fr v b)) f') (hg : w.grownBy w' (some c)) : PoolAt w' q g c v n b f' :=
  ⟨h.head.grown hg (some_ne h.ne), hm, h.right, h.big⟩
theorem PoolAt.lt {w : World} {q g c : Nat} {v : Bool} {n : Nat} {b : Int} {f : Nat → Bool} (h : PoolAt w q g c v n b f) : n < 340282366920938463463374607431768211456 := Nat.lt_of_lt_of_le (rightP_iff.1 h.right).1 (pow_w v)

theorem count_k (g c n : Nat) (f : Nat → Bool) (w : World) (h : MapAt w g c n f) :
    Calls Tryz.prog 73 #[.pointer (some ⟨g, 0, none⟩)] w fun e w' => e = .returned (.int .i64 (cnt f 0 n : Nat)) ∧ Below w.heap.size w w' := by
  have hce := cnt_top h.top (show n ≤ 64 * ((n + 63) / 64) by omega)
  have := count_words g c n f w h
  rw [hce] at this
  exact this.mono fun e w' ⟨a, b⟩ => ⟨a, by subst b; exact Below.refl _ _⟩
theorem pleft_c (q g c : Nat) (v : Bool) (n : Nat) (b : Int) (f : Nat → Bool) (w : World) (h : PoolAt w q g c v n b f) :
    Calls Tryz.prog 18 #[.pointer (some ⟨q, 0, none⟩)] w fun e w' => e = .returned (.int .i64 ((cntP (fr v b) : Nat) - (cnt f 0 (cntP (fr v b)) : Nat))) ∧ Below w.heap.size w w' := by
  obtain ⟨c0, c1, c2, c3, c4⟩ := h.cells
  have hs := h.map.small
  have hce := cnt_top h.map.top (show cntP (fr v b) ≤ 64 * ((cntP (fr v b) + 63) / 64) by omega)
  have hle := cnt_le f 0 (cntP (fr v b))
  go_enter Tryz.func18, Tryz.ntmps18
  go_wp2_with fail
  go_region_held3 (fun w' => (w'.cell? ⟨q, 0, none⟩ = some (.bool v) ∧ w'.cell? ⟨q, 1, none⟩ = some (.int .u64 (hi n)) ∧ w'.cell? ⟨q, 2, none⟩ = some (.int .u64 (lo n)) ∧ w'.cell? ⟨q, 3, none⟩ = some (.int .i64 b) ∧ w'.cell? ⟨q, 4, none⟩ = some (.pointer (some ⟨g, 0, none⟩))) ∧ Below w.heap.size w w')
    (exact ⟨pool_cells (h.after bl_), bl_⟩)
    (first
    | (go_at_call 72; refine (size_c g c _ f _ ((h.after bl_).map)).mono ?_; rintro e w5 ⟨rfl, rfl⟩)
    | (go_at_call 73; refine (count_k g c _ f _ ((h.after bl_).map)).mono ?_; rintro e w6 ⟨rfl, hb6⟩; obtain ⟨hc6, hf6⟩ := bcell hb6; have hz6 := hb6.size; (try simp only [size_alloc', size_setCell', size_drew'] at hz6)))
  all_goals
    go_wp2_with fail
    go_ret
    exact ⟨ret_int (by rw [IntKind.wrap_i64]; omega), bl_⟩
/-- the number of an address that may be given -/
def numB (v : Bool) (n : Nat) (b : Int) (u : Bool) (x : Nat) : Bool := hasS v n b u x && (decide (x % 2 ^ fr v b < cntP (fr v b)) && !kept v (fr v b) (x % 2 ^ fr v b))
def numI (v : Bool) (n : Nat) (b : Int) (u : Bool) (x : Nat) : Nat := if numB v n b u x = true then x % 2 ^ fr v b else 0
set_option maxRecDepth 20000 in
set_option maxHeartbeats 3200000 in
theorem pnumber_c (q g c : Nat) (v : Bool) (n : Nat) (b : Int) (f : Nat → Bool) (u : Bool) (x : Nat) (w : World) (h : PoolAt w q g c v n b f) (hx : x < 340282366920938463463374607431768211456) :
    Calls Tryz.prog 79 #[.pointer (some ⟨q, 0, none⟩), .agg #[.bool u, .int .u64 (hi x), .int .u64 (lo x)]] w fun e w' => e = .returned (.tuple #[.int .i64 (numI v n b u x : Nat), .bool (numB v n b u x)]) ∧ Below w.heap.size w w' := by
  have hn := h.lt
  have hN := cntP_ge h.big
  have hN2 := cntP_le (fr v b)
  have H1 := Lib.hid (fun w => cnumber_k v n b u x w hn hx)
  obtain ⟨r, hr⟩ : ∃ r, r = numberS v n b u x := ⟨_, rfl⟩
  rw [← hr] at H1
  have HR := Lib.hid hr
  clear hr
  go_enter Tryz.func79, Tryz.ntmps79
  go_wp2_with fail
  have hA : Blk (w.alloc (Obj.cells #[Value.bool u, Value.int IntKind.u64 (hi x), Value.int IntKind.u64 (lo x)] 26)) w.heap.size 26 (AddrC u x) := Blk.new _ _ _
  have hbel : Below w.heap.size w (w.alloc (Obj.cells #[Value.bool u, Value.int IntKind.u64 (hi x), Value.int IntKind.u64 (lo x)] 26)) := bl_
  generalize w.alloc (Obj.cells #[Value.bool u, Value.int IntKind.u64 (hi x), Value.int IntKind.u64 (lo x)] 26) = wz at *
  have hlt := hA.lt
  go_cut [6, 7] from 12 (fun s6 s7 wc => ∃ g6, s6 = .pointer (some ⟨g6, 0, none⟩) ∧ s7 = .int .i64 r.2 ∧ Blk wc g6 24 #[.int .u64 (hi r.1), .int .u64 (lo r.1)] ∧ Below w.heap.size w wc)
  case first =>
    go_region_held3 (fun w' => (w'.cell? ⟨w.heap.size, 0, none⟩ = some (.bool u) ∧ w'.cell? ⟨w.heap.size, 1, none⟩ = some (.int .u64 (hi x)) ∧ w'.cell? ⟨w.heap.size, 2, none⟩ = some (.int .u64 (lo x)) ∧ Blk w' w.heap.size 26 (AddrC u x)) ∧ (w'.cell? ⟨q, 0, none⟩ = some (.bool v) ∧ w'.cell? ⟨q, 1, none⟩ = some (.int .u64 (hi n)) ∧ w'.cell? ⟨q, 2, none⟩ = some (.int .u64 (lo n)) ∧ w'.cell? ⟨q, 3, none⟩ = some (.int .i64 b) ∧ w'.cell? ⟨q, 4, none⟩ = some (.pointer (some ⟨g, 0, none⟩))) ∧ Below w.heap.size w w')
      (exact ⟨blk_adr bk_, pool_cells (h.after bl_), bl_⟩)
      (first
      | (go_at_call 122; refine (H1.out _).mono ?_; rintro e w3 ⟨rfl, hb3⟩; obtain ⟨hc3, hf3⟩ := bcell hb3; have hz3 := hb3.size; (try simp only [size_alloc', size_setCell', size_drew'] at hz3)))
    all_goals
      go_wp2_with fail
      go_meet
      case rel => exact ⟨_, rfl, rfl, bk_, bl_⟩
  case rest =>
    obtain ⟨g6, rfl, rfl, hR, hbel⟩ := hcut
    obtain ⟨n0, n1, _⟩ := blk_two hR
    go_wp2_with fail
    have hr1 : r.1 < 340282366920938463463374607431768211456 := by rw [HR.out]; exact numberS_lt v n b u x hx
    refine (small_k r.1 _ hr1).mono ?_
    rintro e w4 ⟨rfl, hb4⟩
    replace hbel := bl_trans hbel hb4
    clear hb4 n0 n1 hR hr1
    cases hs : hasS v n b u x
    · have er : r = (0, 12) := by rw [HR.out]; unfold numberS; rw [if_pos h.right, if_neg (by rw [hs]; decide)]
      have e1 : numB v n b u x = false := by unfold numB; rw [hs]; rfl
      have e2 : numI v n b u x = 0 := by unfold numI; rw [if_neg (by rw [e1]; decide)]
      have HE := Lib.hid (And.intro e1 e2)
      subst er
      clear HR H1 e1 e2 hs
      simp only
      go_wp2_with fail
      go_ret2
      exact ⟨by rw [HE.out.1, HE.out.2]; rfl, hbel⟩
    · have er : r = (x % 2 ^ fr v b, 0) := by rw [HR.out]; unfold numberS; rw [if_pos h.right, if_pos hs]
      obtain ⟨k, hk⟩ : ∃ k, k = x % 2 ^ fr v b := ⟨_, rfl⟩
      have e1 : numB v n b u x = (decide (k < cntP (fr v b)) && !kept v (fr v b) k) := by unfold numB; rw [hs, ← hk]; rfl
      have e2 : numI v n b u x = if numB v n b u x = true then k else 0 := by unfold numI; rw [← hk]
      rw [← hk] at er
      subst er
      clear HR H1 hs hk
      have HE := Lib.hid (And.intro e1 e2)
      clear e1 e2
      simp only
      by_cases hk64 : k < 18446744073709551616
      · rw [smallS_lt hk64]
        by_cases hk0 : k = 0
        · subst hk0
          go_wp2_with fail
          go_ret2
          exact ⟨by rw [HE.out.2, HE.out.1, kept_zero]; simp, hbel⟩
        · have d0 : ((k : Int) == 0) = false := by simp; omega
          obtain ⟨c0, c1, c2, c3, c4⟩ := pool_cells (h.after hbel)
          have hwN : IntKind.u64.wrap ((cntP (fr v b) : Nat) : Int) = ((cntP (fr v b) : Nat) : Int) := by show _ % 18446744073709551616 = _; omega
          by_cases hkN : k < cntP (fr v b)
          · have d1 : decide (cntP (fr v b) ≤ k) = false := decide_eq_false (by omega)
            go_wp2_with fail
            refine (size_c g c _ f _ (h.after hbel).map).mono ?_
            rintro e w5 ⟨rfl, rfl⟩
            go_wp2_with fail
            have HK := Lib.hid hk0
            clear d0 d1 hwN hk0 hk64 c0 c1 c2 c3 c4
            go_cut [10, 11] from 46 (fun s10 s11 wc => s10 = .int .i64 ((cntP (fr v b) : Int) - 1) ∧ s11 = .bool (endK v (fr v b)) ∧ Below w.heap.size w wc)
            case first =>
              go_region_held3 (fun w' => (w'.cell? ⟨q, 0, none⟩ = some (.bool v) ∧ w'.cell? ⟨q, 1, none⟩ = some (.int .u64 (hi n)) ∧ w'.cell? ⟨q, 2, none⟩ = some (.int .u64 (lo n)) ∧ w'.cell? ⟨q, 3, none⟩ = some (.int .i64 b) ∧ w'.cell? ⟨q, 4, none⟩ = some (.pointer (some ⟨g, 0, none⟩))) ∧ Below w.heap.size w w')
                (exact ⟨pool_cells (h.after bl_), bl_⟩)
                (first
                | (go_at_call 72; refine (size_c g c _ f _ ((h.after bl_).map)).mono ?_; rintro e w5 ⟨rfl, rfl⟩)
                | (go_at_call 71; refine (pbroad_k v n b _ h.right h.big).mono ?_; rintro e w6 ⟨rfl, hb6⟩; obtain ⟨hc6, hf6⟩ := bcell hb6; have hz6 := hb6.size; (try simp only [size_alloc', size_setCell', size_drew'] at hz6)))
              all_goals
                go_wp2_with fail
                go_meet
                case rel => exact ⟨rfl, rfl, bl_⟩
            case rest =>
              obtain ⟨rfl, rfl, hbel⟩ := hcut
              by_cases hE : endK v (fr v b) = true
              · rw [hE]
                by_cases hkE : k + 1 = cntP (fr v b)
                · have d2 : ((k : Int) == (cntP (fr v b) : Int) - 1) = true := by simp; omega
                  have hK : kept v (fr v b) k = true := by unfold kept; rw [hE, beq_iff_eq.2 hkE]; simp
                  go_wp2_with fail
                  go_ret2
                  exact ⟨by rw [HE.out.2, HE.out.1, hK]; simp, hbel⟩
                · have d2 : ((k : Int) == (cntP (fr v b) : Int) - 1) = false := by simp; omega
                  have hK : kept v (fr v b) k = false := kept_false.2 ⟨HK.out, fun _ => hkE⟩
                  go_wp2_with fail
                  go_ret2
                  exact ⟨by rw [HE.out.2, HE.out.1, hK, decide_eq_true hkN]; simp, hbel⟩
              · have hK : kept v (fr v b) k = false := kept_false.2 ⟨HK.out, fun q => absurd q hE⟩
                rw [Bool.not_eq_true] at hE
                rw [hE]
                go_wp2_with fail
                go_ret2
                exact ⟨by rw [HE.out.2, HE.out.1, hK, decide_eq_true hkN]; simp, hbel⟩
          · have d1 : decide (cntP (fr v b) ≤ k) = true := decide_eq_true (by omega)
            go_wp2_with fail
            refine (size_c g c _ f _ (h.after hbel).map).mono ?_
            rintro e w5 ⟨rfl, rfl⟩
            go_wp2_with fail
            go_ret2
            exact ⟨by rw [HE.out.2, HE.out.1, decide_eq_false hkN]; rfl, hbel⟩
      · rw [smallS_ge hk64]
        go_wp2_with fail
        go_ret2
        exact ⟨by rw [HE.out.2, HE.out.1, decide_eq_false (show ¬ k < cntP (fr v b) by omega)]; rfl, hbel⟩
end Go.Proofs.YtpfilldnfpcpkaaGreatDoor

namespace Go.Proofs.YtpfilldnfpcpkaaGreatDoor
open Go.RowKit

theorem blk_fill3 {w : World} {g : Nat} {t : TypeId} {u v z x y k : Value} (h : Blk w g t #[u, v, z]) : Blk (((w.setCell ⟨g, 0, none⟩ x).setCell ⟨g, 1, none⟩ y).setCell ⟨g, 2, none⟩ k) g t #[x, y, k] := ((h.put 0 x).put 1 y).put 2 k
set_option maxRecDepth 20000 in
set_option maxHeartbeats 3200000 in
theorem phost_c (q g c : Nat) (v : Bool) (n : Nat) (b : Int) (f : Nat → Bool) (i : Nat) (w : World) (h : PoolAt w q g c v n b f) (hi' : i < cntP (fr v b)) :
    Calls Tryz.prog 81 #[.pointer (some ⟨q, 0, none⟩), .int .i64 i] w fun e w' => e = .returned (.agg #[.bool v, .int .u64 (hi (n + i)), .int .u64 (lo (n + i))]) ∧ Below w.heap.size w w' := by
  have hN2 := cntP_le (fr v b)
  have hpw := cntP_pow (fr v b)
  have H1 := Lib.hid (fun w => chost_k v n b i w h.right (Nat.lt_of_lt_of_le hi' hpw))
  have H2 := Lib.hid (fun w => numof_k i w (by omega))
  have hw64 : IntKind.u64.wrap (i : Int) = (i : Int) := by show _ % 18446744073709551616 = _; omega
  clear hpw
  go_enter Tryz.func81, Tryz.ntmps81
  go_wp2_with fail
  have hR : Blk (w.alloc (Obj.cells #[Value.bool false, Value.int IntKind.u64 0, Value.int IntKind.u64 0] 26)) w.heap.size 26 (AddrC false 0) := Blk.new _ _ _
  have hbel : Below w.heap.size w (w.alloc (Obj.cells #[Value.bool false, Value.int IntKind.u64 0, Value.int IntKind.u64 0] 26)) := bl_
  generalize w.alloc (Obj.cells #[Value.bool false, Value.int IntKind.u64 0, Value.int IntKind.u64 0] 26) = wz at *
  have hlt := hR.lt
  go_cut [5] from 7 (fun s5 wc => ∃ g5, s5 = .pointer (some ⟨g5, 0, none⟩) ∧ Blk wc g5 26 (AddrC v (n + i)) ∧ Blk wc w.heap.size 26 (AddrC false 0) ∧ w.heap.size < g5 ∧ Below w.heap.size w wc)
  case first =>
    go_region_held3 (fun w' => (w'.cell? ⟨q, 0, none⟩ = some (.bool v) ∧ w'.cell? ⟨q, 1, none⟩ = some (.int .u64 (hi n)) ∧ w'.cell? ⟨q, 2, none⟩ = some (.int .u64 (lo n)) ∧ w'.cell? ⟨q, 3, none⟩ = some (.int .i64 b) ∧ w'.cell? ⟨q, 4, none⟩ = some (.pointer (some ⟨g, 0, none⟩))) ∧ Blk w' w.heap.size 26 (AddrC false 0) ∧ Below w.heap.size w w')
      (exact ⟨pool_cells (h.after bl_), bk_, bl_⟩)
      (first
      | (go_at_call 126; refine (H2.out _).mono ?_; rintro e w3 ⟨rfl, hb3⟩; obtain ⟨hc3, hf3⟩ := bcell hb3; have hz3 := hb3.size; (try simp only [size_alloc', size_setCell', size_drew'] at hz3); (try have hy3 : wz.heap.size < w3.heap.size := by omega))
      | (go_at_call 125; refine (H1.out _).mono ?_; rintro e w4 ⟨rfl, hb4⟩; obtain ⟨hc4, hf4⟩ := bcell hb4; have hz4 := hb4.size; (try simp only [size_alloc', size_setCell', size_drew'] at hz4); (try have hy4 : wz.heap.size < w4.heap.size := by omega)))
    all_goals
      go_wp2_with fail
      go_meet
      case rel => exact ⟨_, rfl, (by first | exact Blk.new _ _ _ | exact blk_fill3 (u := .bool false) (v := .int .u64 0) (z := .int .u64 0) bk_), bk_, by omega, bl_⟩
  case rest =>
    obtain ⟨g5, rfl, hA, hR, h5, hbel⟩ := hcut
    obtain ⟨a0, a1, a2, _⟩ := blk_adr hA
    obtain ⟨r0, r1, r2, _⟩ := blk_adr hR
    have z0 := hR.frozen 0
    have z1 := hR.frozen 1
    have z2 := hR.frozen 2
    go_wp2_with fail
    refine bodyPost_ret (v := .agg #[.bool v, .int .u64 (hi (n + i)), .int .u64 (lo (n + i))]) (results_cell_row (t := 26) Tryz.results81 _ _ w.heap.size _ (0, 0) _ rfl (((hR.put 0 _).put 1 _).put 2 _) Tryz.underlying26 rfl (by kernel_rfl)) rfl ⟨rfl, bl_⟩
/-- the number of an address, and whether it may be given -/
theorem numB_lt {v : Bool} {n : Nat} {b : Int} {u : Bool} {x : Nat} (h : numB v n b u x = true) : numI v n b u x < cntP (fr v b) ∧ kept v (fr v b) (numI v n b u x) = false := by
  unfold numI
  rw [if_pos h]
  unfold numB at h
  simp only [Bool.and_eq_true, decide_eq_true_iff, Bool.not_eq_true'] at h
  exact h.2
/-- a pool's number of an address, in letters -/
def NumAt (q : Nat) (u : Bool) (x : Nat) (B : Bool) (k : Nat) (w0 : World) : Prop := ∀ w, Below w0.heap.size w0 w →
    Calls Tryz.prog 79 #[.pointer (some ⟨q, 0, none⟩), .agg #[.bool u, .int .u64 (hi x), .int .u64 (lo x)]] w fun e w' => e = .returned (.tuple #[.int .i64 (k : Nat), .bool B]) ∧ Below w.heap.size w w'
theorem pnumber_at (q g c : Nat) (v : Bool) (n : Nat) (b : Int) (f : Nat → Bool) (u : Bool) (x : Nat) (w : World) (h : PoolAt w q g c v n b f) (hx : x < 340282366920938463463374607431768211456) : NumAt q u x (numB v n b u x) (numI v n b u x) w :=
  fun w' hb => pnumber_c q g c v n b f u x w' (h.after hb) hx
set_option maxRecDepth 20000 in
theorem phas_c (q g c : Nat) (v : Bool) (n : Nat) (b : Int) (f : Nat → Bool) (u : Bool) (x : Nat) (w : World) (h : PoolAt w q g c v n b f) (hx : x < 340282366920938463463374607431768211456) :
    Calls Tryz.prog 24 #[.pointer (some ⟨q, 0, none⟩), .agg #[.bool u, .int .u64 (hi x), .int .u64 (lo x)]] w fun e w' => e = .returned (.bool (numB v n b u x && f (numI v n b u x))) ∧ Below w.heap.size w w' := by
  have HL := Lib.hid (numB_lt (v := v) (n := n) (b := b) (u := u) (x := x))
  have HH := Lib.hid (pnumber_at q g c v n b f u x w h hx)
  generalize numB v n b u x = B at *
  generalize numI v n b u x = k at *
  cases B
  · go_enter Tryz.func24, Tryz.ntmps24
    go_wp2_with fail
    refine (HH.out _ bl_).mono ?_
    rintro e w1 ⟨rfl, hb1⟩
    have hbel : Below w.heap.size w w1 := bl_trans bl_ hb1
    clear hb1
    go_wp2_with fail
    go_ret
    exact ⟨rfl, hbel⟩
  · have hk := (HL.out rfl).1
    go_enter Tryz.func24, Tryz.ntmps24
    go_wp2_with fail
    refine (HH.out _ bl_).mono ?_
    rintro e w1 ⟨rfl, hb1⟩
    have hbel : Below w.heap.size w w1 := bl_trans bl_ hb1
    clear hb1
    obtain ⟨c0, c1, c2, c3, c4⟩ := pool_cells (h.after hbel)
    go_wp2_with fail
    refine (has_yes g c _ f k _ (h.after hbel).map hk).mono ?_
    rintro e w2 ⟨rfl, rfl⟩
    go_wp2_with fail
    go_ret
    exact ⟨rfl, bl_⟩
end Go.Proofs.YtpfilldnfpcpkaaGreatDoor

namespace Go.Proofs.YtpfilldnfpcpkaaGreatDoor
open Go.RowKit

theorem MapAt.far {w : World} {g c n : Nat} {f : Nat → Bool} (h : MapAt w g c n f) {p : Addr} (h2 : g ≠ p.block) (h3 : c ≠ p.block) (u : Value) : MapAt (w.setCell p u) g c n f :=
  ⟨h.head.far h2 u, h.row.far h3 u, h.ne, h.small, h.top⟩
theorem PoolAt.far {w : World} {q g c : Nat} {v : Bool} {n : Nat} {b : Int} {f : Nat → Bool} (h : PoolAt w q g c v n b f) {p : Addr} (h1 : q ≠ p.block) (h2 : g ≠ p.block) (h3 : c ≠ p.block) (u : Value) : PoolAt (w.setCell p u) q g c v n b f :=
  ⟨h.head.far h1 u, h.map.far h2 h3 u, h.right, h.big⟩
theorem gb_new {a b : World} {row : Option Nat} (h : a.grownBy b row) {p : Addr} (hp : a.heap.size ≤ p.block) (u : Value) : a.grownBy (b.setCell p u) row :=
  ⟨h.os, h.tape, h.output, by simp only [World.setCell]; simpa using h.size, fun i hi hr => (Below.heap_setCell _ _ _ _ (fun e => by rw [e] at hi; omega)).trans (h.block i hi hr)⟩
/-- what Next answers: the first number from a place on, round once, that is not used -/
def PNexted (q g c : Nat) (v : Bool) (n : Nat) (b : Int) (f : Nat → Bool) (a : Nat) (w0 : World) (x : Ending) (w : World) : Prop :=
  (∃ j, IsNext f (cntP (fr v b)) a j ∧ x = .returned (.tuple #[.agg #[.bool v, .int .u64 (hi (n + j)), .int .u64 (lo (n + j))], .int .i64 0]) ∧ PoolAt w q g c v n b (upd f j true) ∧ w0.grownBy w (some c)) ∨
  ((∀ y, y < cntP (fr v b) → f y = true) ∧ x = .returned (.tuple #[.agg #[.bool false, .int .u64 0, .int .u64 0], .int .i64 9]) ∧ Below w0.heap.size w0 w)
set_option maxRecDepth 20000 in
set_option maxHeartbeats 3200000 in
theorem pnext_c (q g c : Nat) (v : Bool) (n : Nat) (b : Int) (f : Nat → Bool) (o : Int) (w : World) (h : PoolAt w q g c v n b f) (hT : Tab w) :
    Calls Tryz.prog 31 #[.pointer (some ⟨q, 0, none⟩), .int .i64 o] w (PNexted q g c v n b f (startAt o (cntP (fr v b))) w) := by
  have hql := h.head.lt
  have hTl := hT.lt
  go_enter Tryz.func31, Tryz.ntmps31
  have hR : Blk (w.alloc (Obj.cells #[Value.bool false, Value.int IntKind.u64 0, Value.int IntKind.u64 0] 26)) w.heap.size 26 (AddrC false 0) := Blk.new _ _ _
  have hbel : Below w.heap.size w (w.alloc (Obj.cells #[Value.bool false, Value.int IntKind.u64 0, Value.int IntKind.u64 0] 26)) := bl_
  obtain ⟨c0, c1, c2, c3, c4⟩ := pool_cells h
  go_wp2_with fail
  generalize w.alloc (Obj.cells #[Value.bool false, Value.int IntKind.u64 0, Value.int IntKind.u64 0] 26) = wz at *
  refine (next_c g c _ f o _ (h.after hbel).map (hT.after hTl hbel)).mono ?_
  rintro e w1 ⟨j, B, rfl, hx1, hx2, hb1⟩
  replace hR := hR.after hb1
  replace hbel := bl_trans hbel hb1
  clear hb1 c0 c1 c2 c3 c4
  have z0 := hR.frozen 0
  have z1 := hR.frozen 1
  have z2 := hR.frozen 2
  obtain ⟨r0, r1, r2, _⟩ := blk_adr hR
  cases B
  · have hall := Lib.hid (hx2 rfl)
    clear hx1 hx2
    go_wp2_with fail
    refine bodyPost_ret (v := .tuple #[.agg #[.bool false, .int .u64 0, .int .u64 0], .int .i64 9]) (by simp [results, Tryz.results31, go_sem, r0, r1, r2, hi_zero, lo_zero]) rfl (Or.inr ⟨hall.out.2, rfl, bl_⟩)
  · have hn := Lib.hid (hx1 rfl)
    have hjN := hn.out.1
    have hwc : w.heap.size ≠ c := by have := h.map.row.lt; omega
    have hqw : q ≠ w.heap.size := by omega
    have hgw : g ≠ w.heap.size := by have := h.map.head.lt; omega
    have hcw : c ≠ w.heap.size := by omega
    have hjf := hn.out.2.1
    clear hx1 hx2
    obtain ⟨c0, c1, c2, c3, c4⟩ := pool_cells (h.after hbel)
    go_wp2_with fail
    clear r0 r1 r2 z0 z1 z2
    go_region_held3 (fun w' => w'.cell? ⟨q, 4, none⟩ = some (.pointer (some ⟨g, 0, none⟩)))
      (first | with_reducible assumption | exact c4 | exact d4 | exact k4 | exact ((((hp6.head.far hqw _).far hqw _).far hqw _).cell 4).trans rfl)
      (first
      | (go_at_call 81; refine (phost_c q g c v n b f j _ (h.after bl_) hjN).mono ?_; rintro e w5 ⟨rfl, hb5⟩; obtain ⟨hc5, hf5⟩ := bcell hb5; have hz5 := hb5.size; (try simp only [size_alloc', size_setCell', size_drew'] at hz5); obtain ⟨d0, d1, d2, d3, d4⟩ := pool_cells (h.after (show Below w.heap.size w w5 from bl_)); have hR5 : Blk w5 w.heap.size 26 (AddrC false 0) := bk_)
      | (go_at_call 70; refine (bput_c g c _ f j w5 (h.after bl_).map hjN hjf).mono ?_; rintro e w6 ⟨rfl, hm, hg⟩; have hp6 := (h.after (show Below w.heap.size w w5 from bl_)).put hm hg; have hg6 : w.grownBy w6 (some c) := gb_trans (gb_below bl_) hg; have hR6 := hR5.grown hg (some_ne hwc); obtain ⟨r0, r1, r2, _⟩ := blk_adr hR6; have z0 := hR6.frozen 0; have z1 := hR6.frozen 1; have z2 := hR6.frozen 2; have k4 := hp6.cells.2.2.2.2))
    all_goals
      go_wp2_with fail
      have hRf := blk_fill3 (x := .bool v) (y := .int .u64 (hi (n + j))) (k := .int .u64 (lo (n + j))) hR6
      have hPf := ((hp6.far (p := ⟨w.heap.size, 0, none⟩) hqw hgw hcw (.bool v)).far (p := ⟨w.heap.size, 1, none⟩) hqw hgw hcw (.int .u64 (hi (n + j)))).far (p := ⟨w.heap.size, 2, none⟩) hqw hgw hcw (.int .u64 (lo (n + j)))
      have hGf := gb_new (gb_new (gb_new hg6 (p := ⟨w.heap.size, 0, none⟩) (Nat.le_refl _) (.bool v)) (p := ⟨w.heap.size, 1, none⟩) (Nat.le_refl _) (.int .u64 (hi (n + j)))) (p := ⟨w.heap.size, 2, none⟩) (Nat.le_refl _) (.int .u64 (lo (n + j)))
      generalize ((w6.setCell ⟨w.heap.size, 0, none⟩ (.bool v)).setCell ⟨w.heap.size, 1, none⟩ (.int .u64 (hi (n + j)))).setCell ⟨w.heap.size, 2, none⟩ (.int .u64 (lo (n + j))) = wf at *
      obtain ⟨s0, s1, s2, _⟩ := blk_adr (show Blk wf w.heap.size 26 (AddrC v (n + j)) from hRf)
      refine bodyPost_ret (v := .tuple #[.agg #[.bool v, .int .u64 (hi (n + j)), .int .u64 (lo (n + j))], .int .i64 0]) (by simp [results, Tryz.results31, go_sem, s0, s1, s2]) rfl (Or.inl ⟨j, hn.out, rfl, hPf, hGf⟩)

/-- which numbers are used in a pool that is new -/
def freshF (v : Bool) (F : Nat) : Nat → Bool := fun i => decide (i < cntP F) && kept v F i
theorem fresh_end {v : Bool} {F : Nat} (h : endK v F = true) (hF : 2 ≤ F) : upd (upd (fun _ => false) 0 true) (cntP F - 1) true = freshF v F := by
  have hN := cntP_ge hF
  funext i
  unfold upd freshF kept
  rw [h]
  by_cases h1 : i + 1 = cntP F
  · rw [if_pos (by omega), decide_eq_true (by omega), beq_iff_eq.2 h1]; simp
  · rw [if_neg (by omega), show (i + 1 == cntP F) = false from by simpa using h1]
    by_cases h2 : i = 0
    · subst h2; simp; omega
    · rw [if_neg h2]; simp [h2]
theorem fresh_open {v : Bool} {F : Nat} (h : endK v F = false) (hF : 2 ≤ F) : upd (fun _ => false) 0 true = freshF v F := by
  have hN := cntP_ge hF
  funext i
  unfold upd freshF kept
  rw [h]
  by_cases h2 : i = 0
  · subst h2; simp; omega
  · rw [if_neg h2]; simp [h2]
set_option maxRecDepth 20000 in
set_option maxHeartbeats 3200000 in
theorem pnew_c (v : Bool) (n : Nat) (b : Int) (w : World) (hr : rightP v n b = true) (hF : 2 ≤ fr v b) :
    Calls Tryz.prog 15 #[.agg #[.bool v, .int .u64 (hi n), .int .u64 (lo n), .int .i64 b]] w fun e w' => ∃ q g c, e = .returned (.tuple #[.pointer (some ⟨q, 0, none⟩), .int .i64 0]) ∧
      PoolAt w' q g c v n b (freshF v (fr v b)) ∧ Below w.heap.size w w' ∧ w.heap.size ≤ q ∧ w.heap.size ≤ g ∧ w.heap.size ≤ c := by
  have hn : n < 340282366920938463463374607431768211456 := Nat.lt_of_lt_of_le (rightP_iff.1 hr).1 (pow_w v)
  have hN := cntP_ge hF
  have hN2 := cntP_le (fr v b)
  have H := Lib.hid (fun w => psizeof_k v n b w hn)
  rw [show sizeS v n b = (((cntP (fr v b) : Nat) : Int), true) from by unfold sizeS; rw [if_pos hr, decide_eq_true hF]] at H
  have HB := Lib.hid (fun w => pbroad_k v n b w hr hF)
  have hE1 := Lib.hid (fun h => fresh_end (v := v) (F := fr v b) h hF)
  have hE0 := Lib.hid (fun h => fresh_open (v := v) (F := fr v b) h hF)
  simp only at H
  go_enter Tryz.func15, Tryz.ntmps15
  go_wp2_with fail
  have hA : Blk (w.alloc (Obj.cells #[Value.bool v, Value.int IntKind.u64 (hi n), Value.int IntKind.u64 (lo n), Value.int IntKind.i64 b] 28)) w.heap.size 28 (PfxC v n b) := Blk.new _ _ _
  have hbel : Below w.heap.size w (w.alloc (Obj.cells #[Value.bool v, Value.int IntKind.u64 (hi n), Value.int IntKind.u64 (lo n), Value.int IntKind.i64 b] 28)) := bl_
  generalize w.alloc (Obj.cells #[Value.bool v, Value.int IntKind.u64 (hi n), Value.int IntKind.u64 (lo n), Value.int IntKind.i64 b] 28) = wz at *
  refine (H.out _).mono ?_
  rintro e w1 ⟨rfl, hb1⟩
  replace hA := hA.after hb1
  replace hbel := bl_trans hbel hb1
  clear hb1
  go_wp2_with fail
  refine (new_c _ _ hN2).mono ?_
  rintro e w2 ⟨rfl, hm, hb2⟩
  replace hA := hA.after hb2
  have hws := hbel.size
  replace hbel := bl_trans hbel hb2
  clear hb2
  generalize hgE : w1.heap.size + 1 = g at *
  generalize hcE : w1.heap.size = c at *
  obtain ⟨a0, a1, a2, a3, _⟩ := blk_pfx hA
  go_wp2_with fail
  have hQ := Blk.new w2 105 #[.bool v, .int .u64 (hi n), .int .u64 (lo n), .int .i64 b, .pointer (some ⟨g, 0, none⟩)]
  replace hA := hA.alloc (.cells #[.bool v, .int .u64 (hi n), .int .u64 (lo n), .int .i64 b, .pointer (some ⟨g, 0, none⟩)] 105)
  replace hm := hm.alloc (.cells #[.bool v, .int .u64 (hi n), .int .u64 (lo n), .int .i64 b, .pointer (some ⟨g, 0, none⟩)] 105)
  have hql := hbel.size
  replace hbel := bl_alloc hbel (.cells #[.bool v, .int .u64 (hi n), .int .u64 (lo n), .int .i64 b, .pointer (some ⟨g, 0, none⟩)] 105)
  clear a0 a1 a2 a3
  generalize w2.alloc (.cells #[.bool v, .int .u64 (hi n), .int .u64 (lo n), .int .i64 b, .pointer (some ⟨g, 0, none⟩)] 105) = w3 at *
  generalize w2.heap.size = q at *
  have HP := bput_c g c _ (fun _ => false) 0 w3 hm (by omega) rfl
  rw [show ((0 : Nat) : Int) = 0 from rfl] at HP
  refine HP.mono ?_
  clear HP
  rintro e w4 ⟨rfl, hm4, hg4⟩
  have hqc : q ≠ c := hQ.ne hm.row (by decide)
  have hAc : w.heap.size ≠ c := hA.ne hm.row (by decide)
  replace hQ := hQ.grown hg4 (some_ne hqc)
  replace hA := hA.grown hg4 (some_ne hAc)
  replace hbel := bl_grown hbel hg4 hws
  clear hm hg4
  obtain ⟨a0, a1, a2, a3, _⟩ := blk_pfx hA
  go_wp2_with fail
  refine (HB.out _).mono ?_
  rintro e w5 ⟨rfl, hb5⟩
  replace hQ := hQ.after hb5
  replace hm4 := hm4.after hb5
  replace hbel := bl_trans hbel hb5
  clear hb5 a0 a1 a2 a3 hA
  rw [show (cntP (fr v b) : Int) - 1 = ((cntP (fr v b) - 1 : Nat) : Int) from by omega]
  cases hE : endK v (fr v b)
  · go_wp2_with fail
    go_ret2
    refine ⟨q, g, c, rfl, ⟨hQ, ?_, hr, hF⟩, hbel, hql, by omega, hws⟩
    rw [← hE0.out hE]; exact hm4
  · go_wp2_with fail
    refine (bput_c g c _ _ (cntP (fr v b) - 1) w5 hm4 (by omega) (by unfold upd; rw [if_neg (by omega)])).mono ?_
    rintro e w6 ⟨rfl, hm6, hg6⟩
    replace hQ := hQ.grown hg6 (some_ne hqc)
    replace hbel := bl_grown hbel hg6 hws
    go_wp2_with fail
    go_ret2
    refine ⟨q, g, c, rfl, ⟨hQ, ?_, hr, hF⟩, hbel, hql, by omega, hws⟩
    rw [← hE1.out hE]; exact hm6
end Go.Proofs.YtpfilldnfpcpkaaGreatDoor

namespace Go.Proofs.YtpfilldnfpcpkaaGreatDoor
open Go.RowKit Go.Proofs.YtpfilldnfpcpkaaGreatDoorW.PrintWords Go.Proofs.YtpfilldnfpcpkaaGreatDoor.PPo

def intsV (l : List Nat) : List Value := l.map fun k : Nat => Value.int .i64 (k : Int)
/-- in w the reference's pool of a prefix lies at block q; us: the numbers that are used, a row of the law's own -/
structure RPoolAt (w : World) (base q : Nat) (p : Option Addr) (cap : Nat) (v : Bool) (n : Nat) (b : Int) (us : List Nat) : Prop where
  head : Blk w q 54 #[.bool v, .int .u64 (hi n), .int .u64 (lo n), .int .i64 b, .int .i64 (cntP (fr v b) : Nat), .slice p us.length cap]
  row : w.ownsRow base 3 1 (.slice p us.length cap) us.length (intsV us)
  right : rightP v n b = true
  big : 2 ≤ fr v b
theorem RPoolAt.after {w w' : World} {base q cap : Nat} {p : Option Addr} {v : Bool} {n : Nat} {b : Int} {us : List Nat} (h : RPoolAt w base q p cap v n b us) (hb : Below w.heap.size w w') : RPoolAt w' base q p cap v n b us := ⟨h.head.after hb, own_after h.row hb, h.right, h.big⟩
theorem RPoolAt.grown {w w' : World} {base q cap : Nat} {p : Option Addr} {v : Bool} {n : Nat} {b : Int} {us : List Nat} {c : Nat} {cs : Array Value} (h : RPoolAt w base q p cap v n b us) (hc : Blk w c 22 cs) (hb : w.grownBy w' (some c)) : RPoolAt w' base q p cap v n b us :=
  ⟨h.head.grown hb (some_ne (h.head.ne hc (by decide))), h.row.kept hb (.inr (fun e => (hc.ne_own h.row (by decide)) e.symm)), h.right, h.big⟩
theorem RPoolAt.lt {w : World} {base q cap : Nat} {p : Option Addr} {v : Bool} {n : Nat} {b : Int} {us : List Nat} (h : RPoolAt w base q p cap v n b us) : n < 340282366920938463463374607431768211456 := Nat.lt_of_lt_of_le (rightP_iff.1 h.right).1 (pow_w v)
end Go.Proofs.YtpfilldnfpcpkaaGreatDoor

namespace Go.Proofs.YtpfilldnfpcpkaaGreatDoor
open Go.RowKit

/-- what a change of a reference's pool leaves: all but its own block and its own row -/
structure RFr (base q : Nat) (w w' : World) : Prop where
  os : w'.os = w.os
  tape : w'.tape = w.tape
  output : w'.output = w.output
  size : w.heap.size ≤ w'.heap.size
  low : ∀ k, k < w.heap.size → k < base → k ≠ q → w'.heap[k]? = w.heap[k]?
  kind : ∀ g t cs, Blk w g t cs → t ≠ 3 → g ≠ q → Blk w' g t cs
theorem RFr.below {base q : Nat} {w w' : World} (h : Below w.heap.size w w') : RFr base q w w' :=
  ⟨h.os, h.tape, h.output, h.size, fun k hk _ _ => h.block k hk, fun _ _ _ hB _ _ => hB.after h⟩
theorem RFr.trans {base q : Nat} {a b c : World} (h : RFr base q a b) (k : RFr base q b c) : RFr base q a c :=
  ⟨k.os.trans h.os, k.tape.trans h.tape, k.output.trans h.output, Nat.le_trans h.size k.size, fun i hi h1 h2 => (k.low i (Nat.lt_of_lt_of_le hi h.size) h1 h2).trans (h.low i hi h1 h2), fun g t cs hB h1 h2 => k.kind g t cs (h.kind g t cs hB h1 h2) h1 h2⟩
theorem RFr.set {base q i : Nat} {w : World} (u : Value) : RFr base q w (w.setCell ⟨q, i, none⟩ u) :=
  ⟨rfl, rfl, rfl, by simp only [World.setCell]; simp, fun k _ _ hk => Below.heap_setCell _ _ _ _ hk, fun _ _ _ hB _ hg => hB.far hg _⟩
theorem RFr.own {base q n : Nat} {w w' : World} {v : Value} {xs : List Value} (h : w.ownsRow base 3 1 v n xs) (hg : w.grownBy w' v.ownBlock) : RFr base q w w' :=
  ⟨hg.os, hg.tape, hg.output, hg.size, fun k hk h1 _ => hg.block k hk (fun e => by have := (h.lt k e.symm).1; omega), fun g t cs hB ht _ => hB.same (hg.block g hB.lt (hB.ne_own h ht))⟩
theorem RFr.bl {base q : Nat} {a w w' : World} (h : Below a.heap.size a w) (k : RFr base q w w') (h1 : a.heap.size ≤ base) (h2 : a.heap.size ≤ q) : Below a.heap.size a w' :=
  ⟨k.os.trans h.os, k.tape.trans h.tape, k.output.trans h.output, Nat.le_trans h.size k.size, fun i hi => (k.low i (Nat.lt_of_lt_of_le hi h.size) (by omega) (by omega)).trans (h.block i hi)⟩
theorem intsV_snoc (l : List Nat) (x : Nat) : intsV (l ++ [x]) = intsV l ++ [.int .i64 (x : Int)] := by simp [intsV]
theorem rown_far {w : World} {base n size : Nat} {e : TypeId} {v : Value} {xs : List Value} (h : w.ownsRow base e size v n xs) {p : Addr} (hp : some p.block ≠ v.ownBlock) (u : Value) : (w.setCell p u).ownsRow base e size v n xs := by
  obtain ⟨h1, h2⟩ := h
  refine ⟨h1, h2.imp id ?_⟩
  rintro ⟨g, cap, cur, rfl, hb, hh, h3⟩
  refine ⟨g, cap, cur, rfl, hb, ?_, h3⟩
  rw [Below.heap_setCell w p u g (fun e => hp (by simp [Value.ownBlock, e]))]
  exact hh
theorem rown_slice {w : World} {base n size : Nat} {e : TypeId} {v : Value} {xs : List Value} (h : w.ownsRow base e size v n xs) : ∃ a c, v = .slice a n c := by
  rcases h.2 with ⟨rfl, h0⟩ | ⟨g, cap, cur, hv, _⟩
  · subst h0; exact ⟨_, _, rfl⟩
  · exact ⟨_, _, hv⟩
theorem RFr.new {base q : Nat} {w w' : World} (h : RFr base q w w') {p : Addr} (hp : w.heap.size ≤ p.block) (u : Value) : RFr base q w (w'.setCell p u) :=
  ⟨h.os, h.tape, h.output, by simp only [World.setCell]; simpa using h.size, fun k hk h1 h2 => (Below.heap_setCell _ _ _ _ (fun e => by rw [e] at hk; omega)).trans (h.low k hk h1 h2), fun g t cs hB ht hg => (h.kind g t cs hB ht hg).far (fun e => by have := hB.lt; omega) _⟩
theorem RPoolAt.far {w : World} {base q cap : Nat} {p : Option Addr} {v : Bool} {n : Nat} {b : Int} {us : List Nat} (h : RPoolAt w base q p cap v n b us) {a : Addr} (h1 : q ≠ a.block) (h2 : some a.block ≠ (Value.slice p us.length cap).ownBlock) (u : Value) : RPoolAt (w.setCell a u) base q p cap v n b us :=
  ⟨h.head.far h1 u, rown_far h.row h2 u, h.right, h.big⟩
theorem RPoolAt.snoc {w : World} {base q cap' : Nat} {p' : Option Addr} {v : Bool} {n : Nat} {b : Int} {us : List Nat} {z : Nat} {o : Value} (hB : Blk w q 54 #[.bool v, .int .u64 (hi n), .int .u64 (lo n), .int .i64 b, .int .i64 (cntP (fr v b) : Nat), o])
    (hown : w.ownsRow base 3 1 (.slice p' (us.length + 1) cap') (us.length + 1) (intsV us ++ [.int .i64 (z : Int)])) (hr : rightP v n b = true) (hF : 2 ≤ fr v b) : RPoolAt (w.setCell ⟨q, 5, none⟩ (.slice p' (us.length + 1) cap')) base q p' cap' v n b (us ++ [z]) := by
  have e : (us ++ [z]).length = us.length + 1 := by simp
  refine ⟨?_, ?_, hr, hF⟩
  · rw [e]; exact hB.put 5 _
  · rw [e, intsV_snoc]; exact rown_far hown (hB.ne_own hown (by decide)) _
end Go.Proofs.YtpfilldnfpcpkaaGreatDoor

namespace Go.Proofs.YtpfilldnfpcpkaaGreatDoor
open Go.RowKit

theorem IsNext.one {f : Nat → Bool} {n a j k : Nat} (h : IsNext f n a j) (h' : IsNext f n a k) : j = k := by
  obtain ⟨q1, q2, q3⟩ := h
  obtain ⟨p1, p2, p3⟩ := h'
  rcases q3 with ⟨q3, q4⟩ | ⟨q3, q4, q5⟩ <;> rcases p3 with ⟨p3, p4⟩ | ⟨p3, p4, p5⟩
  · rcases Nat.lt_trichotomy j k with e | e | e
    · rw [p4 j q3 e] at q2; cases q2
    · exact e
    · rw [q4 k p3 e] at p2; cases p2
  · rw [p4 j q3 q1] at q2; cases q2
  · rw [q4 k p3 p1] at p2; cases p2
  · rcases Nat.lt_trichotomy j k with e | e | e
    · rw [p5 j e] at q2; cases q2
    · exact e
    · rw [q5 k e] at p2; cases p2
theorem glob_tab {w : World} (h : Glob w) : Tab w := h.bru
/-- the example's bits: none used; two; two and one -/
def exF : Nat → Bool := freshF false 2
theorem ex_one {j : Nat} (h : IsNext exF 4 2 j) : j = 2 := h.one ⟨by decide, by decide, .inl ⟨Nat.le_refl _, fun y h1 h2 => by omega⟩⟩
theorem ex_two {j : Nat} (h : IsNext (upd exF 2 true) 4 2 j) : j = 1 := h.one ⟨by decide, by decide, .inr ⟨by decide, fun y h1 h2 => by
    have : y = 2 ∨ y = 3 := by omega
    rcases this with rfl | rfl <;> decide, fun y h2 => by
    obtain rfl : y = 0 := by omega
    decide⟩⟩
theorem ex_three {j : Nat} (h : IsNext (upd (upd exF 2 true) 1 true) 4 2 j) : False := by
  obtain ⟨h1, h2, _⟩ := h
  have : j = 0 ∨ j = 1 ∨ j = 2 ∨ j = 3 := by omega
  rcases this with rfl | rfl | rfl | rfl <;> revert h2 <;> decide
theorem ex_new (w : World) :
    Calls Tryz.prog 15 #[.agg #[.bool false, .int .u64 0, .int .u64 167772160, .int .i64 30]] w fun e w' => ∃ q g c, e = .returned (.tuple #[.pointer (some ⟨q, 0, none⟩), .int .i64 0]) ∧
      PoolAt w' q g c false 167772160 30 exF ∧ Below w.heap.size w w' ∧ w.heap.size ≤ q ∧ w.heap.size ≤ g ∧ w.heap.size ≤ c :=
  pnew_c false 167772160 30 w (by decide) (by decide)
theorem ex_next (q g c : Nat) (f : Nat → Bool) (w : World) (h : PoolAt w q g c false 167772160 30 f) (hT : Tab w) :
    Calls Tryz.prog 31 #[.pointer (some ⟨q, 0, none⟩), .int .i64 2] w fun x w' =>
      (∃ j, IsNext f 4 2 j ∧ x = .returned (.tuple #[.agg #[.bool false, .int .u64 (hi (167772160 + j)), .int .u64 (lo (167772160 + j))], .int .i64 0]) ∧ PoolAt w' q g c false 167772160 30 (upd f j true) ∧ w.grownBy w' (some c)) ∨
      ((∀ y, y < 4 → f y = true) ∧ x = .returned (.tuple #[.agg #[.bool false, .int .u64 0, .int .u64 0], .int .i64 9]) ∧ Below w.heap.size w w') :=
  pnext_c q g c false 167772160 30 f 2 w h hT
set_option maxRecDepth 20000 in
set_option maxHeartbeats 1000000 in
theorem awake06_c (w : World) (hG : Glob w) :
    Calls Tryz.prog 13 #[] w fun e w' => e = .returned (.bool true) ∧ Below w.heap.size w w' := by
  have HP := Lib.hid (prefix_Parse.calls ⟨#[49, 48, 46, 48, 46, 48, 46, 48, 47, 51, 48]⟩ false 0 167772160 30 0 w hG (by decide +kernel))
  have HA := Lib.hid (fun w hG => addr_Print.calls false 0 167772162 ⟨#[49, 48, 46, 48, 46, 48, 46, 50]⟩ w hG (by decide +kernel))
  have HB := Lib.hid (fun w hG => addr_Print.calls false 0 167772161 ⟨#[49, 48, 46, 48, 46, 48, 46, 49]⟩ w hG (by decide +kernel))
  go_enter Tryz.func13, Tryz.ntmps13
  go_wp2_with fail
  with_reducible refine HP.out.mono ?_
  rintro e w1 ⟨rfl, hbel⟩
  clear HP
  have hGw := Lib.hid hG
  go_wp2_with fail
  refine (ex_new _).mono ?_
  rintro e w2 ⟨q, g, c, rfl, hp, hb2, -, -, hc⟩
  have hcw : w.heap.size ≤ c := Nat.le_trans (Nat.le_trans hbel.size (by simp)) hc
  replace hbel := bl_trans (bl_alloc hbel _) hb2
  clear hb2 hc
  go_wp2_with fail
  refine (ex_next q g c _ w2 hp (glob_tab (hGw.out.after hbel))).mono ?_
  rintro e w3 (⟨j, hj, rfl, hp3, hg3⟩ | ⟨hall, -, -⟩)
  rotate_left
  · exact absurd (hall 2 (by decide)) (by decide)
  obtain rfl := ex_one hj
  rw [show hi (167772160 + 2) = 0 from by decide, show lo (167772160 + 2) = 167772162 from by decide]
  replace hbel := bl_grown hbel hg3 hcw
  clear hj hg3 hp
  go_wp2_with fail
  have hA := Blk.new w3 26 #[.bool false, .int .u64 0, .int .u64 167772162]
  replace hp3 := hp3.alloc (.cells #[.bool false, .int .u64 0, .int .u64 167772162] 26)
  replace hbel := bl_alloc hbel (.cells #[.bool false, .int .u64 0, .int .u64 167772162] 26)
  generalize w3.alloc (.cells #[.bool false, .int .u64 0, .int .u64 167772162] 26) = w4 at *
  generalize w3.heap.size = ga at *
  refine (ex_next q g c _ w4 hp3 (glob_tab (hGw.out.after hbel))).mono ?_
  rintro e w5 (⟨j, hj, rfl, hp5, hg5⟩ | ⟨hall, -, -⟩)
  rotate_left
  · exact absurd (hall 1 (by decide)) (by decide)
  obtain rfl := ex_two hj
  rw [show hi (167772160 + 1) = 0 from by decide, show lo (167772160 + 1) = 167772161 from by decide]
  replace hbel := bl_grown hbel hg5 hcw
  replace hA := hA.grown hg5 (some_ne (hA.ne hp3.map.row (by decide)))
  clear hj hg5 hp3
  go_wp2_with fail
  have hB := Blk.new w5 26 #[.bool false, .int .u64 0, .int .u64 167772161]
  replace hA := hA.alloc (.cells #[.bool false, .int .u64 0, .int .u64 167772161] 26)
  replace hp5 := hp5.alloc (.cells #[.bool false, .int .u64 0, .int .u64 167772161] 26)
  replace hbel := bl_alloc hbel (.cells #[.bool false, .int .u64 0, .int .u64 167772161] 26)
  generalize w5.alloc (.cells #[.bool false, .int .u64 0, .int .u64 167772161] 26) = w6 at *
  generalize w5.heap.size = gb at *
  refine (ex_next q g c _ w6 hp5 (glob_tab (hGw.out.after hbel))).mono ?_
  rintro e w7 (⟨j, hj, -, -, -⟩ | ⟨-, rfl, hb7⟩)
  · exact (ex_three hj).elim
  replace hbel := bl_trans hbel hb7
  replace hA := hA.after hb7
  replace hB := hB.after hb7
  have hAl := hA.lt
  have hBl := hB.lt
  obtain ⟨a0, a1, a2, _⟩ := blk_adr (show Blk w7 ga 26 (AddrC false 167772162) from hA)
  rw [show hi 167772162 = 0 from by decide] at a1
  rw [show lo 167772162 = 167772162 from by decide] at a2
  clear hb7 hp5
  go_wp2_with fail
  refine (HA.out _ (hGw.out.after (bl_alloc hbel _))).mono ?_
  rintro e w8 ⟨rfl, hb8⟩
  replace hbel := bl_trans (bl_alloc hbel _) hb8
  replace hB := (hB.alloc _).after hb8
  clear hb8 a0 a1 a2 hA hAl hBl
  obtain ⟨a0, a1, a2, _⟩ := blk_adr (show Blk w8 gb 26 (AddrC false 167772161) from hB)
  rw [show hi 167772161 = 0 from by decide] at a1
  rw [show lo 167772161 = 167772161 from by decide] at a2
  go_wp2_with fail
  refine (HB.out _ (hGw.out.after hbel)).mono ?_
  rintro e w9 ⟨rfl, hb9⟩
  replace hbel := bl_trans hbel hb9
  clear hb9 a0 a1 a2 hB
  go_wp2_with fail
  go_ret
  exact ⟨rfl, hbel⟩
end Go.Proofs.YtpfilldnfpcpkaaGreatDoor

namespace Go.Proofs.YtpfilldnfpcpkaaGreatDoor
open Go.RowKit Go.Proofs.YtpfilldnfpcpkaaGreatDoorW.PrintWords Go.Proofs.YtpfilldnfpcpkaaGreatDoor.PPo

theorem mod_host {v : Bool} {n : Nat} {b : Int} (hr : rightP v n b = true) {i : Nat} (hi : i < 2 ^ fr v b) : (n + i) % 2 ^ fr v b = i := by
  obtain ⟨q, hq⟩ := Nat.dvd_of_mod_eq_zero (rightP_iff.1 hr).2.2.2
  rw [hq, Nat.mul_add_mod, Nat.mod_eq_of_lt hi]
theorem has_host {v : Bool} {n : Nat} {b : Int} (hr : rightP v n b = true) {i : Nat} (hi : i < cntP (fr v b)) : hasS v n b v (n + i) = true :=
  (has_iff hr).2 ⟨by omega, by have := cntP_pow (fr v b); omega⟩
theorem numB_host {v : Bool} {n : Nat} {b : Int} (hr : rightP v n b = true) {i : Nat} (hi : i < cntP (fr v b)) : numB v n b v (n + i) = !kept v (fr v b) i := by
  unfold numB
  rw [has_host hr hi, mod_host hr (Nat.lt_of_lt_of_le hi (cntP_pow _)), decide_eq_true hi]; simp
theorem numI_host {v : Bool} {n : Nat} {b : Int} (hr : rightP v n b = true) {i : Nat} (hi : i < cntP (fr v b)) (hk : kept v (fr v b) i = false) : numI v n b v (n + i) = i := by
  unfold numI
  rw [numB_host hr hi, hk, mod_host hr (Nat.lt_of_lt_of_le hi (cntP_pow _))]; rfl
theorem host_lt {v : Bool} {n : Nat} {b : Int} (hr : rightP v n b = true) {i : Nat} (hi : i < cntP (fr v b)) : n + i < 340282366920938463463374607431768211456 := by
  have h1 := cntP_pow (fr v b)
  have h2 := last_lt hr
  have h3 := pow_w v
  omega
theorem IsNext.congr {f g : Nat → Bool} {n a j : Nat} (h : IsNext f n a j) (e : ∀ y, y < n → f y = g y) : IsNext g n a j := by
  obtain ⟨h1, h2, h3⟩ := h
  refine ⟨h1, by rw [← e j h1]; exact h2, ?_⟩
  rcases h3 with ⟨h3, h4⟩ | ⟨h3, h4, h5⟩
  · exact .inl ⟨h3, fun y y1 y2 => by rw [← e y (by omega)]; exact h4 y y1 y2⟩
  · exact .inr ⟨h3, fun y y1 y2 => by rw [← e y y2]; exact h4 y y1 y2, fun y y1 => by rw [← e y (by omega)]; exact h5 y y1⟩
theorem fresh_kept (v : Bool) (F : Nat) : ∀ i, i < cntP F → freshF v F i = kept v F i := by
  intro i hi
  unfold freshF
  rw [decide_eq_true hi, Bool.true_and]
theorem phas_host (q g c : Nat) (v : Bool) (n : Nat) (b : Int) (f : Nat → Bool) (j : Nat) (w : World) (h : PoolAt w q g c v n b f) (hj : j < cntP (fr v b)) :
    Calls Tryz.prog 24 #[.pointer (some ⟨q, 0, none⟩), .agg #[.bool v, .int .u64 (hi (n + j)), .int .u64 (lo (n + j))]] w fun e w' => e = .returned (.bool (!kept v (fr v b) j && f j)) ∧ Below w.heap.size w w' := by
  have := phas_c q g c v n b f v (n + j) w h (host_lt h.right hj)
  rw [numB_host h.right hj] at this
  cases hk : kept v (fr v b) j
  · rw [hk, numI_host h.right hj hk] at this; exact this
  · rw [hk] at this; exact this
theorem pleft_k (q g c : Nat) (v : Bool) (n : Nat) (b : Int) (f : Nat → Bool) (K : Nat) (w : World) (h : PoolAt w q g c v n b f) (hK : cnt f 0 (cntP (fr v b)) = K) :
    Calls Tryz.prog 18 #[.pointer (some ⟨q, 0, none⟩)] w fun e w' => e = .returned (.int .i64 ((cntP (fr v b) : Nat) - (K : Nat))) ∧ Below w.heap.size w w' := by
  rw [← hK]; exact pleft_c q g c v n b f w h
theorem ffirst_k (v : Bool) (n : Nat) (b : Int) (h : rightP v n b = true) : prefix_First.f v (hi n) (lo n) b = some (v, hi n, lo n) := by
  rw [first_f v n b (Nat.lt_of_lt_of_le (rightP_iff.1 h).1 (pow_w v)), show firstS v n b = (v, n) from by unfold firstS; rw [if_pos h]]; rfl
theorem flast_k (v : Bool) (n : Nat) (b : Int) (h : rightP v n b = true) : prefix_Last.f v (hi n) (lo n) b = some (v, hi (n + (2 ^ fr v b - 1)), lo (n + (2 ^ fr v b - 1))) := by
  rw [last_f v n b (Nat.lt_of_lt_of_le (rightP_iff.1 h).1 (pow_w v)), show lastS v n b = (v, n + (2 ^ fr v b - 1)) from by unfold lastS; rw [if_pos h]]; rfl
end Go.Proofs.YtpfilldnfpcpkaaGreatDoor

namespace Go.Proofs.YtpfilldnfpcpkaaGreatDoor
open Go.RowKit

theorem adr_info : (Tryz.prog.info? 26).map (fun i => (i.zero, i.size, i.bytes)) = some (some (.agg #[.bool false, .int .u64 0, .int .u64 0]), 3, 24) := by kernel_rfl
/-- the cells of a row of hosts, by their numbers -/
def hostV (v : Bool) (n : Nat) (js : List Nat) : List Value := js.flatMap fun j => [.bool v, .int .u64 (hi (n + j)), .int .u64 (lo (n + j))]
theorem hostV_snoc (v : Bool) (n : Nat) (js : List Nat) (j : Nat) : hostV v n (js ++ [j]) = hostV v n js ++ [.bool v, .int .u64 (hi (n + j)), .int .u64 (lo (n + j))] := by simp [hostV]
theorem hostV_get (v : Bool) (n : Nat) : ∀ (js : List Nat) (i : Nat) (hi' : i < js.length),
    (hostV v n js)[i * 3]? = some (.bool v) ∧ (hostV v n js)[i * 3 + 1]? = some (.int .u64 (hi (n + js[i]))) ∧ (hostV v n js)[i * 3 + 2]? = some (.int .u64 (lo (n + js[i])))
  | [], i, h => absurd h (Nat.not_lt_zero _)
  | j :: js, 0, _ => ⟨rfl, rfl, rfl⟩
  | j :: js, i + 1, h => by
    have := hostV_get v n js i (by simpa using h)
    have e : ∀ k, (hostV v n (j :: js))[(i + 1) * 3 + k]? = (hostV v n js)[i * 3 + k]? := fun k => by
      rw [show (i + 1) * 3 + k = (i * 3 + k) + 3 from by omega]
      simp [hostV, List.flatMap_cons]
    exact ⟨(e 0).trans this.1, (e 1).trans this.2.1, (e 2).trans this.2.2⟩
theorem pown_after {w w' : World} {base n size : Nat} {e : TypeId} {v : Value} {xs : List Value} (h : w.ownsRow base e size v n xs) (hb : Below w.heap.size w w') : w'.ownsRow base e size v n xs :=
  h.kept (row := none) ⟨hb.os, hb.tape, hb.output, hb.size, fun k hk _ => hb.block k hk⟩ (by rcases v.ownBlock with _ | g <;> simp)
theorem pbelow_own {a wr w' : World} {v : Value} {base n size : Nat} {e : TypeId} {xs : List Value} (h : Below a.heap.size a wr) (hown : wr.ownsRow base e size v n xs) (hb : a.heap.size ≤ base) {o : Obj} (hg : (wr.alloc o).grownBy w' v.ownBlock) : Below a.heap.size a w' :=
  (bl_alloc h o).grown hg (by have := h.size; simp; omega) fun k hk => Nat.le_trans hb ((hown.lt k hk).1)
theorem pcell_list (w : World) (l : List Value) (t : TypeId) : ∀ j x, l[j]? = some x → (w.alloc (.cells l.toArray t)).cell? ((⟨w.heap.size, 0, none⟩ : Addr).add j) = some x := by
  intro j x h
  have e : (⟨w.heap.size, 0, none⟩ : Addr).add j = ⟨w.heap.size, j, none⟩ := by unfold Addr.add; split <;> simp_all
  rw [e, (Blk.new w t l.toArray).cell j]; simpa using h
/-- which of the first numbers are given -/
def givenTo (f : Nat → Bool) (z : Nat) : List Nat := (List.range z).filter f
theorem givenTo_yes {f : Nat → Bool} {z : Nat} (h : f z = true) : givenTo f (z + 1) = givenTo f z ++ [z] := by simp [givenTo, List.range_succ, List.filter_append, h]
theorem givenTo_no {f : Nat → Bool} {z : Nat} (h : f z = false) : givenTo f (z + 1) = givenTo f z := by simp [givenTo, List.range_succ, List.filter_append, h]
theorem givenTo_len (f : Nat → Bool) (z : Nat) : (givenTo f z).length ≤ z := by
  have := List.length_filter_le f (List.range z); simpa [givenTo] using this
theorem givenTo_cnt (f : Nat → Bool) (z : Nat) : (givenTo f z).length = cnt f 0 z := by
  induction z with
  | zero => rfl
  | succ z ih =>
    rw [cnt, Nat.zero_add]
    cases h : f z
    · rw [givenTo_no h, ih]; rfl
    · rw [givenTo_yes h, List.length_append, ih]; rfl
/-- used and not kept -/
def takenF (v : Bool) (F : Nat) (f : Nat → Bool) : Nat → Bool := fun i => f i && !kept v F i
set_option maxRecDepth 20000 in
set_option maxHeartbeats 3200000 in
theorem pused_c (q g c : Nat) (v : Bool) (n : Nat) (b : Int) (f : Nat → Bool) (w : World) (h : PoolAt w q g c v n b f) :
    Calls Tryz.prog 27 #[.pointer (some ⟨q, 0, none⟩)] w fun e w' => ∃ p cap, e = .returned (.slice p (givenTo (takenF v (fr v b) f) (cntP (fr v b))).length cap) ∧
      w'.ownsRow w.heap.size 26 3 (.slice p (givenTo (takenF v (fr v b) f) (cntP (fr v b))).length cap) (givenTo (takenF v (fr v b) f) (cntP (fr v b))).length (hostV v n (givenTo (takenF v (fr v b) f) (cntP (fr v b)))) ∧ Below w.heap.size w w' := by
  have hN2 := cntP_le (fr v b)
  obtain ⟨c0, c1, c2, c3, c4⟩ := pool_cells h
  obtain ⟨i0, hi0, hz0, hz1, hz2⟩ := info_parts adr_info
  obtain ⟨t, ht⟩ : ∃ t, t = takenF v (fr v b) f := ⟨_, rfl⟩
  rw [← ht]
  have HT := Lib.hid ht
  clear ht
  go_enter Tryz.func27, Tryz.ntmps27
  go_wp2_with fail
  refine (size_c g c _ f _ h.map).mono ?_
  rintro e w1 ⟨rfl, rfl⟩
  go_wp2_with fail
  clear c0 c1 c2 c3 c4
  go_loopw [3, 13] (fun s i wr => ∃ (z : Nat) (p : Option Addr) (cap : Nat), z ≤ cntP (fr v b) ∧ i = .int .i64 z ∧ s = .slice p (givenTo t z).length cap ∧ wr.ownsRow w.heap.size 26 3 (.slice p (givenTo t z).length cap) (givenTo t z).length (hostV v n (givenTo t z)) ∧ Below w.heap.size w wr) (fun _ i _ => cntP (fr v b) - (intOf i).toNat)
  case atStart => exact ⟨0, none, 0, Nat.zero_le _, rfl, rfl, World.ownsRow_nil _ _ _ _, bl_⟩
  case round =>
    obtain ⟨z, p, cap, hz, rfl, rfl, hown, hb⟩ := hrel
    have hlen := givenTo_len t z
    by_cases hlt : z < cntP (fr v b)
    · have d1 : decide (z < cntP (fr v b)) = true := decide_eq_true hlt
      have d2 : decide ((z : Int) < (cntP (fr v b) : Nat)) = true := decide_eq_true (by omega)
      have HTz := Lib.hid (show t z = (f z && !kept v (fr v b) z) from congrFun HT.out z)
      go_wp2_with fail
      refine (phost_c q g c v n b f z _ (h.after bl_) hlt).mono ?_
      rintro e w3 ⟨rfl, hb3⟩
      have hown3 : w3.ownsRow w.heap.size 26 3 (.slice p (givenTo t z).length cap) (givenTo t z).length (hostV v n (givenTo t z)) := pown_after (pown_after hown (show Below wr.heap.size wr _ from bl_)) hb3
      replace hb : Below w.heap.size w w3 := bl_trans bl_ hb3
      obtain ⟨c0, c1, c2, c3, c4⟩ := pool_cells (h.after hb)
      clear hb3 hown
      have hql := (h.after hb).head.lt
      go_wp2_with fail
      clear hql
      have hX := Blk.new w3 26 #[.bool v, .int .u64 (hi (n + z)), .int .u64 (lo (n + z))]
      replace hown3 := pown_after hown3 (bl_alloc (Below.refl _ _) (.cells #[.bool v, .int .u64 (hi (n + z)), .int .u64 (lo (n + z))] 26))
      replace hb := bl_alloc hb (.cells #[.bool v, .int .u64 (hi (n + z)), .int .u64 (lo (n + z))] 26)
      clear c0 c1 c2 c3 c4
      generalize w3.alloc (.cells #[.bool v, .int .u64 (hi (n + z)), .int .u64 (lo (n + z))] 26) = w4 at *
      generalize w3.heap.size = gx at *
      refine (has_yes g c _ f z _ (h.after hb).map hlt).mono ?_
      rintro e w5 ⟨rfl, rfl⟩
      have HH := Lib.hid (fun w hh => phas_host q g c v n b f z w hh hlt)
      cases hf : f z
      · have HU := Lib.hid (givenTo_no (f := t) (z := z) (by rw [HTz.out, hf]; rfl))
        clear hf
        go_wp2_with fail
        go_roundw
        case rel => exact ⟨z + 1, p, cap, by omega, by go_num, by rw [HU.out], by rw [HU.out]; exact pown_after hown3 (bl_drew (Below.refl _ _)), bl_drew hb⟩
        case measure => simp [intOf]; omega
      · rw [hf, Bool.and_true] at HH
        obtain ⟨x0, x1, x2, _⟩ := blk_adr (show Blk w4 gx 26 (AddrC v (n + z)) from hX)
        go_wp2_with fail
        refine (HH.out _ (h.after bl_)).mono ?_
        rintro e w6 ⟨rfl, hb6⟩
        replace hX : Blk w6 gx 26 #[.bool v, .int .u64 (hi (n + z)), .int .u64 (lo (n + z))] := hX.after (show Below w4.heap.size w4 w6 from bl_)
        replace hown3 := pown_after hown3 (show Below w4.heap.size w4 w6 from bl_)
        replace hb : Below w.heap.size w w6 := bl_
        clear hb6 x0 x1 x2
        cases hk : kept v (fr v b) z
        · have HU := Lib.hid (givenTo_yes (f := t) (z := z) (by rw [HTz.out, hf, hk]; rfl))
          clear hf hk
          obtain ⟨x0, x1, x2, _⟩ := blk_adr (show Blk w6 gx 26 (AddrC v (n + z)) from hX)
          go_wp2_with (at_builtin; refine wpList_append_own _ rfl _ _ 50 rfl w.heap.size 26 i0 (.agg #[.bool false, .int .u64 0, .int .u64 0]) 3 24 Tryz.underlying50 hi0 hz0 hz1 hz2 rfl (by decide) _ _ _ rfl (hown3.alloc _) ⟨w6.heap.size, 0, none⟩ 1 1 [.bool v, .int .u64 (hi (n + z)), .int .u64 (lo (n + z))] rfl rfl ?q1 ?q2 ?q3 ?q4 ?q5 ?_)
          case q1 => exact pcell_list _ _ _
          case q2 => intro u hu; simp at hu; rcases hu with rfl | rfl | rfl <;> rfl
          case q3 => simp only [maxLen]; omega
          case q4 => omega
          case q5 => have := hb.size; simp; omega
          intro v' w7 hown' hgrow _
          have hbel5 := pbelow_own hb hown3 (Nat.le_refl _) hgrow
          obtain ⟨ga, gc, rfl⟩ := rown_slice hown'
          clear hgrow hown3 hb x0 x1 x2 hX
          go_wp2_with fail
          go_roundw
          case rel => exact ⟨z + 1, ga, gc, by omega, by go_num, by rw [HU.out]; simp, by rw [HU.out, hostV_snoc, List.length_append]; exact hown', hbel5⟩
          case measure => simp [intOf]; omega
        · have HU := Lib.hid (givenTo_no (f := t) (z := z) (by rw [HTz.out, hf, hk]; rfl))
          clear hf hk
          go_wp2_with fail
          go_roundw
          case rel => exact ⟨z + 1, p, cap, by omega, by go_num, by rw [HU.out], by rw [HU.out]; exact pown_after hown3 bl_, bl_⟩
          case measure => simp [intOf]; omega
    · have d1 : decide (z < cntP (fr v b)) = false := decide_eq_false hlt
      have d2 : decide ((z : Int) < (cntP (fr v b) : Nat)) = false := decide_eq_false (by omega)
      obtain rfl : cntP (fr v b) = z := by omega
      go_wp2_with fail
      go_ret
      exact ⟨p, cap, rfl, hown, hb⟩
end Go.Proofs.YtpfilldnfpcpkaaGreatDoor

namespace Go.Proofs.YtpfilldnfpcpkaaGreatDoor
open Go.RowKit Go.Proofs.YtpfilldnfpcpkaaGreatDoorW.PrintWords Go.Proofs.YtpfilldnfpcpkaaGreatDoor.PPo

theorem pcells_of {w : World} {g : Nat} {v : Bool} {x y k : Int} (h : Blk w g 28 #[.bool v, .int .u64 x, .int .u64 y, .int .i64 k]) :
    w.cell? ⟨g, 0, none⟩ = some (.bool v) ∧ w.cell? ⟨g, 1, none⟩ = some (.int .u64 x) ∧ w.cell? ⟨g, 2, none⟩ = some (.int .u64 y) ∧ w.cell? ⟨g, 3, none⟩ = some (.int .i64 k) :=
  ⟨(h.cell 0).trans rfl, (h.cell 1).trans rfl, (h.cell 2).trans rfl, (h.cell 3).trans rfl⟩
theorem acells_of {w : World} {g : Nat} {v : Bool} {x y : Int} (h : Blk w g 26 #[.bool v, .int .u64 x, .int .u64 y]) :
    w.cell? ⟨g, 0, none⟩ = some (.bool v) ∧ w.cell? ⟨g, 1, none⟩ = some (.int .u64 x) ∧ w.cell? ⟨g, 2, none⟩ = some (.int .u64 y) :=
  ⟨(h.cell 0).trans rfl, (h.cell 1).trans rfl, (h.cell 2).trans rfl⟩
end Go.Proofs.YtpfilldnfpcpkaaGreatDoor

namespace Go.Proofs.YtpfilldnfpcpkaaGreatDoor
open Go.RowKit Go.Proofs.YtpfilldnfpcpkaaGreatDoorW.PrintWords Go.Proofs.YtpfilldnfpcpkaaGreatDoorW.PrintLast Go.Proofs.YtpfilldnfpcpkaaGreatDoorW.PrintMore Go.Proofs.YtpfilldnfpcpkaaGreatDoor.PPo
def tabT_4_24 : Bool × List (List Nat × List Nat) := (true, [([], []), ([], []), ([0, 1], [0, 1]), ([2], [2]), ([], []), ([3, 4], [3, 4])])
def tabB_4_24 : List Nat := [0, 0, 3, 7, 0, 31]
theorem tabH_4_24 : rtab .any (opsOf Tryz.f4 24) = tabT_4_24 := by kernel_rfl
theorem tabK_4_24 : waitsOk tabT_4_24.2 tabB_4_24 = true := by kernel_rfl
def tabT_4_26 : Bool × List (List Nat × List Nat) := (true, [([], []), ([], []), ([0, 1], [0, 1]), ([2], [2]), ([3, 2], [3]), ([4], [4]), ([4], [4]), ([6, 4, 4], [4, 6]), ([5, 7, 4], [4, 5, 7]), ([4, 8], [4, 8]), ([9, 7], [9]), ([10], [10]), ([11, 10], [10, 11]), ([12, 10], [10, 12]), ([13, 10, 10], [10, 13]), ([14], [14]), ([14], [14]), ([16, 14, 14], [14, 16]), ([15, 17, 14], [14, 15, 17]), ([14, 18, 10], [10, 14, 18]), ([10, 19], [10, 19])])
def tabB_4_26 : List Nat := [0, 0, 3, 7, 15, 31, 31, 95, 255, 511, 1023, 2047, 4095, 8191, 16383, 32767, 32767, 98303, 262143, 524287, 1048575]
theorem tabH_4_26 : rtab .any (opsOf Tryz.f4 26) = tabT_4_26 := by kernel_rfl
theorem tabK_4_26 : waitsOk tabT_4_26.2 tabB_4_26 = true := by kernel_rfl

/-- the numbers that came in -/
def IntRow (w : World) (p : Option Addr) (len : Nat) (K : Nat → Int) : Prop := ∀ i, i < len → ∃ (a : Addr), p = some a ∧ a.block < w.heap.size ∧ w.cell? (a.add i) = some (.int .i64 (K i))
theorem padd_block (a : Addr) (k : Nat) : (a.add k).block = a.block := by unfold Addr.add; split <;> rfl
theorem IntRow.at_ {w : World} {p : Option Addr} {len : Nat} {K : Nat → Int} (h : IntRow w p len K) {i : Nat} (hi' : i < len) : ∃ (a : Addr), p = some a ∧ a.block < w.heap.size ∧ ∀ w', Below w.heap.size w w' → w'.cell? (a.add i) = some (.int .i64 (K i)) := by
  obtain ⟨a, e, hl, h0⟩ := h i hi'
  exact ⟨a, e, hl, fun w' hb => (hb.cell (by rw [padd_block]; exact hl)).trans h0⟩
/-- a row of hosts that is laid: its cells -/
theorem own_hosts {w : World} {base cap : Nat} {p : Option Addr} {v : Bool} {n : Nat} {js : List Nat} (h : w.ownsRow base 26 3 (.slice p js.length cap) js.length (hostV v n js)) {i : Nat} (hi' : i < js.length) :
    ∃ (a : Addr), p = some a ∧ a.block < w.heap.size ∧ ∀ w', Below w.heap.size w w' → w'.cell? (a.add (i * 3)) = some (.bool v) ∧ w'.cell? ⟨(a.add (i * 3)).block, (a.add (i * 3)).off + 1, none⟩ = some (.int .u64 (hi (n + js.getD i 0))) ∧ w'.cell? ⟨(a.add (i * 3)).block, (a.add (i * 3)).off + 2, none⟩ = some (.int .u64 (lo (n + js.getD i 0))) := by
  rcases h.2 with ⟨e, h0⟩ | ⟨g, cap', cur, e, hb, hh, _⟩
  · omega
  · cases e
    have hg : (Value.slice (some (⟨g, 0, none⟩ : Addr)) js.length cap).ownBlock = some g := rfl
    obtain ⟨e0, e1, e2⟩ := hostV_get v n js i hi'
    have hc := h.cells hg
    have hs : (⟨g, 0, none⟩ : Addr).add (i * 3) = ⟨g, i * 3, none⟩ := by unfold Addr.add; split <;> simp_all
    have ha : ∀ k, (⟨g, 0, none⟩ : Addr).add (i * 3 + k) = ⟨g, i * 3 + k, none⟩ := fun k => by unfold Addr.add; split <;> simp_all
    have c0 := hc _ _ e0
    have c1 := hc _ _ e1
    have c2 := hc _ _ e2
    rw [ha] at c1 c2
    have hd : js.getD i 0 = js[i] := by simp [List.getD, hi']
    have hl : g < w.heap.size := by
      rcases Nat.lt_or_ge g w.heap.size with k | k
      · exact k
      · rw [Array.getElem?_eq_none k] at hh; cases hh
    refine ⟨_, rfl, hl, fun w' hb' => ⟨(hb'.cell (by rw [padd_block]; exact hl)).trans c0, ?_, ?_⟩⟩
    · rw [hs, hd]; exact (hb'.cell hl).trans c1
    · rw [hs, hd]; exact (hb'.cell hl).trans c2
theorem PoolAt.own {w w' : World} {q g c : Nat} {v : Bool} {n : Nat} {b : Int} {f : Nat → Bool} (h : PoolAt w q g c v n b f) {base m size : Nat} {u : Value} {xs : List Value} (ho : w.ownsRow base 26 size u m xs) (hg : w.grownBy w' u.ownBlock) : PoolAt w' q g c v n b f :=
  ⟨h.head.grown hg (h.head.ne_own ho (by decide)), ⟨h.map.head.grown hg (h.map.head.ne_own ho (by decide)), h.map.row.grown hg (h.map.row.ne_own ho (by decide)), h.map.ne, h.map.small, h.map.top⟩, h.right, h.big⟩
theorem own_grown {w w' : World} {base m size c : Nat} {e t : TypeId} {u : Value} {xs : List Value} {cs : Array Value} (ho : w.ownsRow base e size u m xs) (hc : Blk w c t cs) (hne : t ≠ e) (hg : w.grownBy w' (some c)) : w'.ownsRow base e size u m xs :=
  ho.kept hg (.inr (fun e => (hc.ne_own ho hne) e.symm))
theorem pcnt_full {f : Nat → Bool} {N : Nat} (h : ∀ y, y < N → f y = true) : cnt f 0 N = N := by
  have := cnt_all (f := f) (a := 0) (n := N) (fun x _ hx => h x (by omega))
  exact this
theorem pcnt_all_of {f : Nat → Bool} {n : Nat} (h : cnt f 0 n = n) : ∀ x, x < n → f x = true := by
  intro x hx
  cases hf : f x
  · have := cnt_add hx hf
    have := cnt_le (upd f x true) 0 n
    omega
  · rfl
theorem cnt_not (f : Nat → Bool) (s : Nat) : ∀ n, cnt (fun i => !f i) s n + cnt f s n = n
  | 0 => rfl
  | n + 1 => by
    have := cnt_not f s n
    rw [cnt, cnt]
    cases f (s + n) <;> simp <;> omega
/-- where all is used, all that is not kept is given -/
theorem given_all {v : Bool} {F : Nat} {f : Nat → Bool} (h : ∀ y, y < cntP F → f y = true) : (givenTo (takenF v F f) (cntP F)).length = cntP F - cnt (freshF v F) 0 (cntP F) := by
  rw [givenTo_cnt, show cnt (takenF v F f) 0 (cntP F) = cnt (fun i => !freshF v F i) 0 (cntP F) from cnt_congr fun i _ hi => by
    unfold takenF; rw [h i (by omega), Bool.true_and, fresh_kept v F i (by omega)]]
  have := cnt_not (freshF v F) 0 (cntP F)
  omega
theorem addr_ne {n i j : Nat} (h : i ≠ j) (hi' : n + i < 340282366920938463463374607431768211456) (hj : n + j < 340282366920938463463374607431768211456) : (hi (n + i) == hi (n + j) && lo (n + i) == lo (n + j)) = false := by
  rw [hl_eq hi' hj, beq_eq_false_iff_ne]
  omega
theorem eql_addr_no {w : World} {v : Bool} {a b c d : Int} {act : Act} {o : Oper} {x y : Operand} {t2 : TypeId} (ho : o.op = .binOp .eql 26 x y t2) (hx : act.eval x = .agg #[.bool v, .int .u64 a, .int .u64 b]) (hy : act.eval y = .agg #[.bool v, .int .u64 c, .int .u64 d]) (hne : (a == c && b == d) = false) :
    (execOp act.eval o).run Tryz.prog w = .ok (.value (.bool false)) w := by
  unfold execOp
  simp only [ho, hx, hy]
  by_cases h : a = c
  · subst h
    have h2 : ¬ b = d := by intro e; subst e; simp at hne
    go_simp
  · go_simp
theorem one3 (v : Bool) (a b : Int) : ∀ u ∈ [Value.bool v, Value.int .u64 a, Value.int .u64 b], u.oneCell' = true := by
  intro u hu; simp at hu; rcases hu with rfl | rfl | rfl <;> rfl
theorem host_first {v : Bool} {n j F : Nat} (h : n + j < 340282366920938463463374607431768211456) (hk : kept v F j = false) : (hi (n + j) == hi n && lo (n + j) == lo n) = false := by
  have h0 := (kept_false.1 hk).1
  rw [hl_eq h (by omega), beq_eq_false_iff_ne]
  omega
theorem host_last {v : Bool} {n j : Nat} {b : Int} (hr : rightP v n b = true) (hj : j < cntP (fr v b)) (hk : kept v (fr v b) j = false) (hv : v = false) : (hi (n + j) == hi (n + (2 ^ fr v b - 1)) && lo (n + j) == lo (n + (2 ^ fr v b - 1))) = false := by
  have hl := Nat.lt_of_lt_of_le (last_lt hr) (pow_w v)
  rw [hl_eq (host_lt hr hj) hl, beq_eq_false_iff_ne]
  have hk2 := (kept_false.1 hk).2
  have hp := cntP_pow (fr v b)
  by_cases h16 : fr v b ≤ 16
  · have := hk2 (by unfold endK; rw [decide_eq_true h16, hv]; rfl)
    have e : cntP (fr v b) = 2 ^ fr v b := by unfold cntP; rw [if_neg (by omega)]
    omega
  · have e : cntP (fr v b) = 65536 := by unfold cntP; rw [if_pos (by omega)]
    have hbig : 2 ^ 17 ≤ 2 ^ fr v b := Nat.pow_le_pow_right (by decide) (by omega)
    omega
set_option maxRecDepth 100000 in
set_option maxHeartbeats 8000000 in
theorem poolOnce_walk (v : Bool) (n : Nat) (b : Int) (p : Option Addr) (len cap : Nat) (K : Nat → Int) (w : World) (hn : n < 340282366920938463463374607431768211456) (_ : (Lit.int .i64 b).wf = true) (hlen : len ≤ 9223372036854775807) (hP : IntRow w p len K) (hG : Glob w) :
    Calls Tryz.prog 4 #[PfxV v n b, .slice p len cap] w fun e w' => e = .returned (.bool true) ∧ Below w.heap.size w w' := by
  have hGw := Lib.hid hG
  have HCo := Lib.hid (fun w => rcount_k v n b w hn)
  unfold PfxV PfxC
  go_enter Tryz.func4, Tryz.ntmps4
  go_wp2_with fail
  have hA : Blk (w.alloc (Obj.cells #[.bool v, .int .u64 (hi n), .int .u64 (lo n), .int .i64 b] 28)) (w.heap.size) 28 #[.bool v, .int .u64 (hi n), .int .u64 (lo n), .int .i64 b] := (Blk.new' _ _ _ _ (by simp) : Blk (w.alloc (Obj.cells #[.bool v, .int .u64 (hi n), .int .u64 (lo n), .int .i64 b] 28)) (w.heap.size) 28 #[.bool v, .int .u64 (hi n), .int .u64 (lo n), .int .i64 b])
  have hbel : Below w.heap.size w (w.alloc (Obj.cells #[.bool v, .int .u64 (hi n), .int .u64 (lo n), .int .i64 b] 28)) := bl_
  have hsz : (w.alloc (Obj.cells #[.bool v, .int .u64 (hi n), .int .u64 (lo n), .int .i64 b] 28)).heap.size = w.heap.size + 1 := by simp
  generalize w.alloc (Obj.cells #[.bool v, .int .u64 (hi n), .int .u64 (lo n), .int .i64 b] 28) = w1 at *
  refine (awake06_c w1 (hGw.out.after hbel)).mono ?_
  rintro e w2 ⟨rfl, hb⟩
  (try clear a0 a1 a2 a3)
  replace hA := hA.after hb
  replace hbel := bl_trans hbel hb
  clear hb
  obtain ⟨a0, a1, a2, a3⟩ := pcells_of hA
  go_wp2_with fail
  refine (HCo.out _).mono ?_
  rintro e w3 ⟨rfl, hb⟩
  clear a0 a1 a2 a3
  replace hA := hA.after hb
  replace hbel := bl_trans hbel hb
  clear hb HCo
  obtain ⟨a0, a1, a2, a3⟩ := pcells_of hA
  by_cases hc : rightP v n b = true ∧ 2 ≤ fr v b
  rotate_left
  · rw [show countS v n b = 0 from by unfold countS; rw [if_neg hc]]
    rw [show ((0 : Nat) : Int) = 0 from rfl]
    go_wp2_with fail
    go_ret
    exact ⟨rfl, hbel⟩
  rw [show countS v n b = cntP (fr v b) from by unfold countS; rw [if_pos hc]]
  obtain ⟨hr, hF⟩ := hc
  have hN := cntP_ge hF
  have hN2 := cntP_le (fr v b)
  have d0 : (((cntP (fr v b) : Nat) : Int) == 0) = false := by simp; omega
  by_cases h512 : 512 < cntP (fr v b)
  · have d1 : decide (512 < cntP (fr v b)) = true := decide_eq_true h512
    have d2 : decide ((512 : Int) < ((cntP (fr v b) : Nat) : Int)) = true := decide_eq_true (by omega)
    go_wp2_with fail
    go_ret
    exact ⟨rfl, hbel⟩
  have e1 : decide (512 < cntP (fr v b)) = false := decide_eq_false h512
  have e2 : decide ((512 : Int) < ((cntP (fr v b) : Nat) : Int)) = false := decide_eq_false (by omega)
  by_cases hl : 20 < len
  · have d1 : decide (20 < len) = true := decide_eq_true hl
    have d2 : decide ((20 : Int) < (len : Int)) = true := decide_eq_true (by omega)
    go_wp2_with fail
    go_ret
    exact ⟨rfl, hbel⟩
  have d1 : decide (20 < len) = false := decide_eq_false hl
  have d2 : decide ((20 : Int) < (len : Int)) = false := decide_eq_false (by omega)
  go_wp2_with fail
  have la := hA.lt
  have l2 := hbel.size
  refine (pnew_c v n b _ hr hF).mono ?_
  rintro e w4 ⟨q, g, c, rfl, hp, hb, hq, hg', hcc⟩
  have naq : w.heap.size ≠ q := by omega
  have nac : w.heap.size ≠ c := by omega
  have hcw : w.heap.size ≤ c := by omega
  clear la l2 hq hg' hcc a0 a1 a2 a3 d0 d1 d2 e1 e2
  replace hA := hA.after hb
  replace hbel := bl_trans hbel hb
  clear hb
  obtain ⟨K0, hK⟩ : ∃ K, cnt (freshF v (fr v b)) 0 (cntP (fr v b)) = K := ⟨_, rfl⟩
  have hKN : K0 ≤ cntP (fr v b) := by rw [← hK]; exact cnt_le _ _ _
  have HK := Lib.hid hK
  clear hK
  go_wp2_with fail
  refine (pleft_k q g c v n b _ K0 _ hp HK.out).mono ?_
  rintro e w5 ⟨rfl, hb⟩
  replace hA := hA.after hb
  replace hp := hp.after hb
  replace hbel := bl_trans hbel hb
  clear hb
  obtain ⟨LL, hLL⟩ : ∃ LL, LL = cntP (fr v b) - K0 := ⟨_, rfl⟩
  rw [show ((cntP (fr v b) : Nat) : Int) - (K0 : Int) = (LL : Int) from by omega]
  have HLL := Lib.hid hLL
  have hLN : LL ≤ 512 := by omega
  clear hLL
  go_wp2_with fail
  have hOwn : (w5.alloc (.cells #[] 26)).ownsRow (w.heap.size + 1) 26 3 (.slice (some ⟨w5.heap.size, 0, none⟩) 0 0) 0 [] := World.ownsRow_made w5 #[] 0 hA.lt (by simp only [maxLen]; omega) rfl
  replace hA := hA.alloc (.cells #[] 26)
  replace hp := hp.after (bl_alloc (Below.refl _ _) (.cells #[] 26))
  replace hbel := bl_alloc hbel (.cells #[] 26)
  generalize w5.heap.size = gz at *
  generalize w5.alloc (.cells #[] 26) = w6 at *
  go_loopw [9, 10] (fun s i wr => ∃ (z : Nat) (f : Nat → Bool) (js : List Nat) (p' : Option Addr) (cap' L : Nat), z ≤ LL + 1 ∧ i = .int .i64 z ∧ s = .slice p' L cap' ∧ js.length = L ∧ L = min z LL ∧ wr.ownsRow (w.heap.size + 1) 26 3 (.slice p' js.length cap') js.length (hostV v n js) ∧ PoolAt wr q g c v n b f ∧ (∀ j, j ∈ js → j < cntP (fr v b) ∧ f j = true) ∧ (∀ j, j < cntP (fr v b) → kept v (fr v b) j = true → f j = true) ∧ cnt f 0 (cntP (fr v b)) = K0 + L ∧ Blk wr w.heap.size 28 #[.bool v, .int .u64 (hi n), .int .u64 (lo n), .int .i64 b] ∧ Below w.heap.size w wr) (fun _ i _ => LL + 1 - (intOf i).toNat)
  case atStart => exact ⟨0, _, [], _, 0, 0, by omega, rfl, rfl, rfl, by omega, hOwn, hp, fun j h => (by simp at h), fun j hj hk => by rw [fresh_kept _ _ j hj]; exact hk, HK.out, hA, hbel⟩
  case round =>
    clear hOwn hp hA hbel
    obtain ⟨z, f, js, p', cap', L, hz, rfl, rfl, hjl, hLz, hown, hp, hin, hkp, hcnt, hA, hbel⟩ := hrel
    have HI := Lib.hid hin
    have HKP := Lib.hid hkp
    have HC := Lib.hid hcnt
    have HJ := Lib.hid hjl
    have HLZ := Lib.hid hLz
    clear hin hkp hcnt hjl hLz
    by_cases hlt : z ≤ LL
    · have d1 : decide ((z : Int) ≤ (LL : Int)) = true := decide_eq_true (by omega)
      have d1' : decide (z ≤ LL) = true := decide_eq_true hlt
      by_cases hl0 : 0 < len
      all_goals
        first
        | (have hl1 : 0 < len := hl0
           have d2 : decide ((0 : Int) < (len : Int)) = true := decide_eq_true (by omega)
           have d2' : decide (0 < len) = true := decide_eq_true hl0
           have hrem : Int.tmod (z : Int) (len : Int) = ((z % len : Nat) : Int) := (by rw [Int.tmod_eq_emod_of_nonneg (by omega)]; omega)
           have hne0 : ((len : Int) == 0) = false := (by simp; omega)
           have hml : z % len < len := Nat.mod_lt _ hl0
           obtain ⟨a, rfl, hal, hcl⟩ := (hP).at_ hml
           have k0 := hcl _ hbel
           generalize hm : z % len = m at *
           have hm0 : (0 : Int) ≤ (m : Int) := (by omega)
           have hm1 : (m : Int) < (len : Int) := (by omega)
           clear hm
           go_wp2_with fail
           clear hcl k0 hrem hne0 hm0 hm1 d2 d2' hl1)
        | (have d2 : decide ((0 : Int) < (len : Int)) = false := decide_eq_false (by omega)
           have d2' : decide (0 < len) = false := decide_eq_false hl0
           go_wp2_with fail
           clear d2 d2')
      all_goals
        by_cases hzL : z < LL
        · have d3 : decide ((z : Int) < (LL : Int)) = true := decide_eq_true (by omega)
          have d3' : decide (z < LL) = true := decide_eq_true hzL
          refine (pnext_c q g c v n b f _ _ (hp.after bl_) (glob_tab (hGw.out.after (show Below w.heap.size w _ from bl_)))).mono ?_
          rintro e w7 (⟨j, hj, rfl, hp', hg⟩ | ⟨hall, rfl, hb7⟩)
          rotate_left
          · exfalso
            have := pcnt_full hall
            have := HC.out
            have := HLZ.out
            have := HLL.out
            omega
          have hj1 := hj.1
          have hj2 := hj.2.1
          have hjk : kept v (fr v b) j = false := by
            cases hk : kept v (fr v b) j
            · rfl
            · have := HKP.out j hj1 hk
              rw [hj2] at this; cases this
          have hjl := host_lt hr hj1
          have HHas := Lib.hid (fun w => prefix_Has.calls 1 v (hi n) (lo n) b v (hi (n + j)) (lo (n + j)) true w ((has_f 1 (Nat.le_refl _) v n b v (n + j) hn hjl).trans (congrArg some (has_host hr hj1))))
          have HFi := Lib.hid (fun w => prefix_First.calls v (hi n) (lo n) b _ _ _ w (ffirst_k v n b hr))
          have HLa := Lib.hid (fun w => prefix_Last.calls v (hi n) (lo n) b _ _ _ w (flast_k v n b hr))
          have hgl : ∀ t, t < js.length → js.getD t 0 < cntP (fr v b) ∧ f (js.getD t 0) = true := fun t ht => HI.out _ (by simp [List.getD, ht])
          have HNE := Lib.hid (fun t (ht : t < js.length) => addr_ne (n := n) (i := js.getD t 0) (j := j) (fun e => by have := (hgl t ht).2; rw [e, hj2] at this; cases this) (host_lt hr (hgl t ht).1) hjl)
          have HN1 := Lib.hid (host_first hjl hjk)
          have HN2 := Lib.hid (fun e => host_last hr hj1 hjk e)
          have hown2 := own_grown (pown_after hown (show Below wr.heap.size wr _ from bl_)) hp.map.row (by decide) hg
          have hA2 := (hA.after (show Below wr.heap.size wr _ from bl_)).grown hg (some_ne nac)
          have hb2 : Below w.heap.size w w7 := bl_grown (show Below w.heap.size w _ from bl_) hg hcw
          have HCN := Lib.hid ((cnt_add hj1 hj2).trans (congrArg (· + 1) HC.out))
          have HIN : Hid (∀ x, x ∈ js ++ [j] → x < cntP (fr v b) ∧ upd f j true x = true) := Lib.hid (fun x hx => by
            rw [List.mem_append, List.mem_singleton] at hx
            rcases hx with hx | rfl
            · by_cases e : x = j
              · rw [e]; exact ⟨hj1, upd_same _ _ _⟩
              · rw [upd_ne e]; exact HI.out x hx
            · exact ⟨hj1, upd_same _ _ _⟩)
          have HKN : Hid (∀ x, x < cntP (fr v b) → kept v (fr v b) x = true → upd f j true x = true) := Lib.hid (fun x hx hk => by
            by_cases e : x = j
            · rw [e]; exact upd_same _ _ _
            · rw [upd_ne e]; exact HKP.out x hx hk)
          have HHV := Lib.hid (hostV_snoc v n js j)
          clear hown hA hbel hp hg hj hj2 hjl hgl hjk
          generalize hi (n + j) = X1 at *
          generalize lo (n + j) = X2 at *
          have la := hA2.lt
          go_wp2_with fail
          have hX := Blk.new w7 26 #[.bool v, .int .u64 X1, .int .u64 X2]
          replace hA2 := hA2.alloc (.cells #[.bool v, .int .u64 X1, .int .u64 X2] 26)
          replace hown2 := pown_after hown2 (bl_alloc (Below.refl _ _) (.cells #[.bool v, .int .u64 X1, .int .u64 X2] 26))
          replace hp' := hp'.after (bl_alloc (Below.refl _ _) (.cells #[.bool v, .int .u64 X1, .int .u64 X2] 26))
          replace hb2 := bl_alloc hb2 (.cells #[.bool v, .int .u64 X1, .int .u64 X2] 26)
          clear la
          generalize w7.alloc (.cells #[.bool v, .int .u64 X1, .int .u64 X2] 26) = w8 at *
          generalize w7.heap.size = gx at *
          have hLs : L ≤ 512 := by have := HLZ.out; omega
          go_loopw [14] (fun i wr => ∃ t : Nat, t ≤ L ∧ i = .int .i64 t ∧ Below w8.heap.size w8 wr) (fun i _ => L - (intOf i).toNat)
          case atStart => exact ⟨0, Nat.zero_le _, rfl, Below.refl _ _⟩
          case round =>
            obtain ⟨t, ht, rfl, hbt⟩ := hrel
            by_cases hlt2 : t < L
            · have d4 : decide (t < L) = true := decide_eq_true hlt2
              have d4' : decide ((t : Int) < (L : Int)) = true := decide_eq_true (by omega)
              have htj : t < js.length := by have := HJ.out; omega
              obtain ⟨a, rfl, hal, hcl⟩ := own_hosts hown2 htj
              have HNt := Lib.hid (HNE.out t htj)
              have HCL : Hid (∀ w', Below w8.heap.size w8 w' → w'.cell? (a.add (t * 3)) = some (.bool v) ∧ w'.cell? ⟨(a.add (t * 3)).block, (a.add (t * 3)).off + 1, none⟩ = some (.int .u64 (hi (n + js.getD t 0))) ∧ w'.cell? ⟨(a.add (t * 3)).block, (a.add (t * 3)).off + 2, none⟩ = some (.int .u64 (lo (n + js.getD t 0)))) := Lib.hid hcl
              clear hcl htj
              generalize hi (n + js.getD t 0) = Y1 at HCL HNt
              generalize lo (n + js.getD t 0) = Y2 at HCL HNt
              go_wp2_with fail
              obtain ⟨x0, x1, x2⟩ := acells_of (hX.after hbt)
              obtain ⟨k0, k1, k2⟩ := HCL.out _ hbt
              refine start_ (n := 6) (S := fun w' => w'.cell? ⟨gx, 0, none⟩ = some (.bool v) ∧ w'.cell? ⟨gx, 1, none⟩ = some (.int .u64 X1) ∧ w'.cell? ⟨gx, 2, none⟩ = some (.int .u64 X2) ∧ w'.cell? (a.add (t * 3)) = some (.bool v) ∧ w'.cell? ⟨(a.add (t * 3)).block, (a.add (t * 3)).off + 1, none⟩ = some (.int .u64 Y1) ∧ w'.cell? ⟨(a.add (t * 3)).block, (a.add (t * 3)).off + 2, none⟩ = some (.int .u64 Y2)) (ds := []) (bm_ 6 0) (by kernel_rfl) rfl rfl ⟨x0, x1, x2, k0, k1, k2⟩ (fun hHeld => ?_); refine with_tabW tabH_4_24 tabK_4_24 (fun HT_ HW_ => ?_)
              refine pu_ 0 (some 83) (bm_ 6 1) rfl HT_ ⟨by rfl, by intro w'; go_simp; with_reducible rfl⟩ ?_
              refine pu_ 1 (some 84) (bm_ 6 3) rfl HT_ ⟨by rfl, by intro w'; go_simp; with_reducible rfl⟩ ?_
              refine pu_ 2 (some 85) (bm_ 6 7) rfl HT_ ⟨by rfl, by intro w'; go_simp; with_reducible rfl⟩ ?_
              refine ta_ 3 (some 86) (bm_ 6 15) rfl HT_ HW_ ⟨by rfl, by rintro w' ⟨s0, s1, s2, s3, s4, s5⟩; go_simp; with_reducible rfl⟩ hHeld ?_
              refine ta_ 4 (some 87) (bm_ 6 31) rfl HT_ HW_ ⟨by rfl, by rintro w' ⟨s0, s1, s2, s3, s4, s5⟩; go_simp; with_reducible rfl⟩ hHeld ?_
              refine pu_ (v := .bool false) 5 (some 88) (bm_ 6 63) rfl HT_ ⟨by rfl, fun w' => eql_addr_no rfl rfl rfl (HNt.out)⟩ ?_
              refine done_ (done_of HT_.out (by kernel_rfl)) ?_
              clear x0 x1 x2 k0 k1 k2
              go_wp2_with fail
              go_roundw
              case rel => exact ⟨t + 1, by omega, by go_num, bl_⟩
              case measure => simp [intOf]; omega
            · have d4 : decide (t < L) = false := decide_eq_false hlt2
              have d4' : decide ((t : Int) < (L : Int)) = false := decide_eq_false (by omega)
              have hX3 := hX.after hbt
              have hA3 := hA2.after hbt
              have hown3 := pown_after hown2 hbt
              have hp3 := hp'.after hbt
              have hb3 := bl_trans hb2 hbt
              clear hX hA2 hown2 hp' hb2 hbt ht hlt2
              have HSC : Hid (∀ w', Below wr.heap.size wr w' → w'.cell? ⟨gx, 0, none⟩ = some (.bool v) ∧ w'.cell? ⟨gx, 1, none⟩ = some (.int .u64 X1) ∧ w'.cell? ⟨gx, 2, none⟩ = some (.int .u64 X2) ∧ w'.cell? ⟨w.heap.size, 0, none⟩ = some (.bool v) ∧ w'.cell? ⟨w.heap.size, 1, none⟩ = some (.int .u64 (hi n)) ∧ w'.cell? ⟨w.heap.size, 2, none⟩ = some (.int .u64 (lo n)) ∧ w'.cell? ⟨w.heap.size, 3, none⟩ = some (.int .i64 b)) := Lib.hid (fun w' hb => by
                obtain ⟨x0, x1, x2⟩ := acells_of (hX3.after hb)
                obtain ⟨a0, a1, a2, a3⟩ := pcells_of (hA3.after hb)
                exact ⟨x0, x1, x2, a0, a1, a2, a3⟩)
              obtain ⟨w10, hw10⟩ : ∃ w10, w10 = wr := ⟨_, rfl⟩
              subst hw10
              go_wp2_with fail
              cases v
              · skip
                refine start_ (n := 21) (S := fun w' => w'.cell? ⟨gx, 0, none⟩ = some (.bool false) ∧ w'.cell? ⟨gx, 1, none⟩ = some (.int .u64 X1) ∧ w'.cell? ⟨gx, 2, none⟩ = some (.int .u64 X2) ∧ w'.cell? ⟨w.heap.size, 0, none⟩ = some (.bool false) ∧ w'.cell? ⟨w.heap.size, 1, none⟩ = some (.int .u64 (hi n)) ∧ w'.cell? ⟨w.heap.size, 2, none⟩ = some (.int .u64 (lo n)) ∧ w'.cell? ⟨w.heap.size, 3, none⟩ = some (.int .i64 b)) (ds := []) (bm_ 21 0) (by kernel_rfl) rfl rfl (HSC.out w10 (Below.refl _ _)) (fun hHeld => ?_); refine with_tabW tabH_4_26 tabK_4_26 (fun HT_ HW_ => ?_)
                refine ta_ 0 (some 89) (bm_ 21 1) rfl HT_ HW_ ⟨by rfl, by rintro w' ⟨s0, s1, s2, s3, s4, s5, s6⟩; go_simp; with_reducible rfl⟩ hHeld ?_
                refine ta_ 1 (some 90) (bm_ 21 3) rfl HT_ HW_ ⟨by rfl, by rintro w' ⟨s0, s1, s2, s3, s4, s5, s6⟩; go_simp; with_reducible rfl⟩ hHeld ?_
                refine one_ (i := 2) (N := (some 91)) (bm_ 21 7) rfl rfl (one_of HT_.out (by kernel_rfl)) (by decide) (fun K hK => ?_)
                refine gr_ Tryz.func32 #[.agg #[.bool false, .int .u64 (hi n), .int .u64 (lo n), .int .i64 b], .agg #[.bool false, .int .u64 X1, .int .u64 X2]] ?_
                with_reducible refine (HHas.out _).mono ?_
                rintro e w11 ⟨rfl, hb11⟩
                refine ⟨_, rfl, ?_⟩
                refine hK.out _ _ (HSC.out w11 (bl_trans (bl_drew (Below.refl _ _)) hb11)) (fun hHeld => ?_)
                clear hK K
                refine norm_ (a' := ?_) ?_ ?_
                rotate_left
                · show Act.put _ (some 91) _ = _
                  simp only [Act.put, List.setIfInBounds_toArray, List.set_cons_zero, List.set_cons_succ, i64_w, i32_w]
                  rfl
                refine pu_ 3 (some 92) (bm_ 21 15) rfl HT_ ⟨by rfl, by intro w'; go_simp; with_reducible rfl⟩ ?_
                refine pu_ 4 (some 93) (bm_ 21 31) rfl HT_ ⟨by rfl, by intro w'; go_simp; with_reducible rfl⟩ ?_
                refine ta_ 5 (some 94) (bm_ 21 63) rfl HT_ HW_ ⟨by rfl, by rintro w' ⟨s0, s1, s2, s3, s4, s5, s6⟩; go_simp; with_reducible rfl⟩ hHeld ?_
                refine ta_ 6 (some 95) (bm_ 21 127) rfl HT_ HW_ ⟨by rfl, by rintro w' ⟨s0, s1, s2, s3, s4, s5, s6⟩; go_simp; with_reducible rfl⟩ hHeld ?_
                refine one_ (i := 7) (N := (some 96)) (bm_ 21 255) rfl rfl (one_of HT_.out (by kernel_rfl)) (by decide) (fun K hK => ?_)
                refine gr_ Tryz.func33 #[.agg #[.bool false, .int .u64 (hi n), .int .u64 (lo n), .int .i64 b]] ?_
                with_reducible refine (HFi.out _).mono ?_
                rintro e w12 ⟨rfl, hb12⟩
                refine ⟨_, rfl, ?_⟩
                refine hK.out _ _ (HSC.out w12 (bl_trans (bl_trans (bl_drew (Below.refl _ _)) hb11) hb12)) (fun hHeld => ?_)
                clear hK K
                refine norm_ (a' := ?_) ?_ ?_
                rotate_left
                · show Act.put _ (some 96) _ = _
                  simp only [Act.put, List.setIfInBounds_toArray, List.set_cons_zero, List.set_cons_succ, i64_w, i32_w]
                  rfl
                refine pu_ (v := .bool false) 8 (some 97) (bm_ 21 511) rfl HT_ ⟨by rfl, fun w' => eql_addr_no rfl rfl rfl (HN1.out)⟩ ?_
                refine pu_ 9 (some 98) (bm_ 21 1023) rfl HT_ ⟨by rfl, by intro w'; go_simp; with_reducible rfl⟩ ?_
                refine pu_ 10 (some 99) (bm_ 21 2047) rfl HT_ ⟨by rfl, by intro w'; go_simp; with_reducible rfl⟩ ?_
                refine pu_ 11 (some 100) (bm_ 21 4095) rfl HT_ ⟨by rfl, by intro w'; go_simp; with_reducible rfl⟩ ?_
                refine ta_ 12 (some 101) (bm_ 21 8191) rfl HT_ HW_ ⟨by rfl, by rintro w' ⟨s0, s1, s2, s3, s4, s5, s6⟩; go_simp; with_reducible rfl⟩ hHeld ?_
                refine pu_ 13 (some 102) (bm_ 21 16383) rfl HT_ ⟨by rfl, by intro w'; go_simp; with_reducible rfl⟩ ?_
                refine pu_ 14 (some 103) (bm_ 21 32767) rfl HT_ ⟨by rfl, by intro w'; go_simp; with_reducible rfl⟩ ?_
                refine ta_ 15 (some 104) (bm_ 21 65535) rfl HT_ HW_ ⟨by rfl, by rintro w' ⟨s0, s1, s2, s3, s4, s5, s6⟩; go_simp; with_reducible rfl⟩ hHeld ?_
                refine ta_ 16 (some 105) (bm_ 21 131071) rfl HT_ HW_ ⟨by rfl, by rintro w' ⟨s0, s1, s2, s3, s4, s5, s6⟩; go_simp; with_reducible rfl⟩ hHeld ?_
                refine one_ (i := 17) (N := (some 106)) (bm_ 21 262143) rfl rfl (one_of HT_.out (by kernel_rfl)) (by decide) (fun K hK => ?_)
                refine gr_ Tryz.func34 #[.agg #[.bool false, .int .u64 (hi n), .int .u64 (lo n), .int .i64 b]] ?_
                with_reducible refine (HLa.out _).mono ?_
                rintro e w13 ⟨rfl, hb13⟩
                refine ⟨_, rfl, ?_⟩
                refine hK.out _ _ (HSC.out w13 (bl_trans (bl_trans (bl_trans (bl_drew (Below.refl _ _)) hb11) hb12) hb13)) (fun hHeld => ?_)
                clear hK K
                refine norm_ (a' := ?_) ?_ ?_
                rotate_left
                · show Act.put _ (some 106) _ = _
                  simp only [Act.put, List.setIfInBounds_toArray, List.set_cons_zero, List.set_cons_succ, i64_w, i32_w]
                  rfl
                refine pu_ (v := .bool false) 18 (some 107) (bm_ 21 524287) rfl HT_ ⟨by rfl, fun w' => eql_addr_no rfl rfl rfl ((HN2.out (by trivial)))⟩ ?_
                refine pu_ 19 (some 108) (bm_ 21 1048575) rfl HT_ ⟨by rfl, by intro w'; go_simp; with_reducible rfl⟩ ?_
                refine pu_ 20 (some 109) (bm_ 21 2097151) rfl HT_ ⟨by rfl, by intro w'; go_simp; with_reducible rfl⟩ ?_
                refine done_ (done_of HT_.out (by kernel_rfl)) ?_
                obtain ⟨w20, hw20, hb20⟩ : ∃ w20, w20 = w13 ∧ Below w10.heap.size w10 w20 := ⟨_, rfl, bl_⟩
                subst hw20
                have hX5 : Blk w20 gx 26 #[.bool false, .int .u64 X1, .int .u64 X2] := hX3.after hb20
                have hA5 := hA3.after hb20
                have hown5 := pown_after hown3 hb20
                have hp5 := hp3.after hb20
                have hb5 := bl_trans hb3 hb20
                clear hX3 hA3 hown3 hp3 hb3 hb20 HSC
                obtain ⟨x0, x1, x2⟩ := acells_of hX5
                obtain ⟨i0, hi0, hz0, hz1, hz2⟩ := info_parts adr_info
                have hww := hb5.size
                have hA5l := hA5.lt
                rw [HJ.out] at hown5
                go_wp2_with (at_builtin; refine wpList_append_own _ rfl _ _ 50 rfl (w.heap.size + 1) 26 i0 (.agg #[.bool false, .int .u64 0, .int .u64 0]) 3 24 Tryz.underlying50 hi0 hz0 hz1 hz2 rfl (by decide) _ _ _ rfl (hown5.alloc _) ⟨w20.heap.size, 0, none⟩ 1 1 [.bool false, .int .u64 X1, .int .u64 X2] rfl rfl (pcell_list _ _ _) (one3 _ _ _) (by simp only [maxLen]; omega) (by omega) (by simp; omega) ?_)
                intro v' w6 hown6 hgrow _
                have hb6 := pbelow_own hb5 hown5 (Nat.le_succ _) hgrow
                have hA6 := (hA5.alloc _).grown hgrow (fun e => by have := (hown5.lt _ e.symm).1; omega)
                have hp6 := (hp5.after (bl_alloc (Below.refl _ _) _)).own (hown5.alloc _) hgrow
                obtain ⟨ga, gc, rfl⟩ := rown_slice hown6
                clear hgrow hown5 hA5 hA5l hp5 hb5 hX5 hi0 hz0 hz1 hz2 x0 x1 x2
                go_wp2_with fail
                go_roundw
                case rel => exact ⟨z + 1, upd f j true, js ++ [j], ga, gc, L + 1, by omega, by go_num, by simp, by simp [HJ.out], by have := HLZ.out; omega, by rw [HHV.out, List.length_append, HJ.out]; exact hown6, hp6, HIN.out, HKN.out, by rw [HCN.out]; omega, hA6, hb6⟩
                case measure => simp [intOf]; omega
              · skip
                refine start_ (n := 21) (S := fun w' => w'.cell? ⟨gx, 0, none⟩ = some (.bool true) ∧ w'.cell? ⟨gx, 1, none⟩ = some (.int .u64 X1) ∧ w'.cell? ⟨gx, 2, none⟩ = some (.int .u64 X2) ∧ w'.cell? ⟨w.heap.size, 0, none⟩ = some (.bool true) ∧ w'.cell? ⟨w.heap.size, 1, none⟩ = some (.int .u64 (hi n)) ∧ w'.cell? ⟨w.heap.size, 2, none⟩ = some (.int .u64 (lo n)) ∧ w'.cell? ⟨w.heap.size, 3, none⟩ = some (.int .i64 b)) (ds := []) (bm_ 21 0) (by kernel_rfl) rfl rfl (HSC.out w10 (Below.refl _ _)) (fun hHeld => ?_); refine with_tabW tabH_4_26 tabK_4_26 (fun HT_ HW_ => ?_)
                refine ta_ 0 (some 89) (bm_ 21 1) rfl HT_ HW_ ⟨by rfl, by rintro w' ⟨s0, s1, s2, s3, s4, s5, s6⟩; go_simp; with_reducible rfl⟩ hHeld ?_
                refine ta_ 1 (some 90) (bm_ 21 3) rfl HT_ HW_ ⟨by rfl, by rintro w' ⟨s0, s1, s2, s3, s4, s5, s6⟩; go_simp; with_reducible rfl⟩ hHeld ?_
                refine one_ (i := 2) (N := (some 91)) (bm_ 21 7) rfl rfl (one_of HT_.out (by kernel_rfl)) (by decide) (fun K hK => ?_)
                refine gr_ Tryz.func32 #[.agg #[.bool true, .int .u64 (hi n), .int .u64 (lo n), .int .i64 b], .agg #[.bool true, .int .u64 X1, .int .u64 X2]] ?_
                with_reducible refine (HHas.out _).mono ?_
                rintro e w11 ⟨rfl, hb11⟩
                refine ⟨_, rfl, ?_⟩
                refine hK.out _ _ (HSC.out w11 (bl_trans (bl_drew (Below.refl _ _)) hb11)) (fun hHeld => ?_)
                clear hK K
                refine norm_ (a' := ?_) ?_ ?_
                rotate_left
                · show Act.put _ (some 91) _ = _
                  simp only [Act.put, List.setIfInBounds_toArray, List.set_cons_zero, List.set_cons_succ, i64_w, i32_w]
                  rfl
                refine pu_ 3 (some 92) (bm_ 21 15) rfl HT_ ⟨by rfl, by intro w'; go_simp; with_reducible rfl⟩ ?_
                refine pu_ 4 (some 93) (bm_ 21 31) rfl HT_ ⟨by rfl, by intro w'; go_simp; with_reducible rfl⟩ ?_
                refine ta_ 5 (some 94) (bm_ 21 63) rfl HT_ HW_ ⟨by rfl, by rintro w' ⟨s0, s1, s2, s3, s4, s5, s6⟩; go_simp; with_reducible rfl⟩ hHeld ?_
                refine ta_ 6 (some 95) (bm_ 21 127) rfl HT_ HW_ ⟨by rfl, by rintro w' ⟨s0, s1, s2, s3, s4, s5, s6⟩; go_simp; with_reducible rfl⟩ hHeld ?_
                refine one_ (i := 7) (N := (some 96)) (bm_ 21 255) rfl rfl (one_of HT_.out (by kernel_rfl)) (by decide) (fun K hK => ?_)
                refine gr_ Tryz.func33 #[.agg #[.bool true, .int .u64 (hi n), .int .u64 (lo n), .int .i64 b]] ?_
                with_reducible refine (HFi.out _).mono ?_
                rintro e w12 ⟨rfl, hb12⟩
                refine ⟨_, rfl, ?_⟩
                refine hK.out _ _ (HSC.out w12 (bl_trans (bl_trans (bl_drew (Below.refl _ _)) hb11) hb12)) (fun hHeld => ?_)
                clear hK K
                refine norm_ (a' := ?_) ?_ ?_
                rotate_left
                · show Act.put _ (some 96) _ = _
                  simp only [Act.put, List.setIfInBounds_toArray, List.set_cons_zero, List.set_cons_succ, i64_w, i32_w]
                  rfl
                refine pu_ (v := .bool false) 8 (some 97) (bm_ 21 511) rfl HT_ ⟨by rfl, fun w' => eql_addr_no rfl rfl rfl (HN1.out)⟩ ?_
                refine pu_ 9 (some 98) (bm_ 21 1023) rfl HT_ ⟨by rfl, by intro w'; go_simp; with_reducible rfl⟩ ?_
                refine pu_ 10 (some 99) (bm_ 21 2047) rfl HT_ ⟨by rfl, by intro w'; go_simp; with_reducible rfl⟩ ?_
                refine pu_ 11 (some 100) (bm_ 21 4095) rfl HT_ ⟨by rfl, by intro w'; go_simp; with_reducible rfl⟩ ?_
                refine ta_ 12 (some 101) (bm_ 21 8191) rfl HT_ HW_ ⟨by rfl, by rintro w' ⟨s0, s1, s2, s3, s4, s5, s6⟩; go_simp; with_reducible rfl⟩ hHeld ?_
                refine pu_ 13 (some 102) (bm_ 21 16383) rfl HT_ ⟨by rfl, by intro w'; go_simp; with_reducible rfl⟩ ?_
                refine pu_ 14 (some 103) (bm_ 21 32767) rfl HT_ ⟨by rfl, by intro w'; go_simp; with_reducible rfl⟩ ?_
                refine pure_ (i := 15) (N := (some 104)) (v := undef) (a' := ?_) (bm_ 21 65535) rfl rfl (any_of HT_.out (by kernel_rfl)) (fun _ _ _ h => h) (Or.inr ⟨by rfl, rfl⟩) ?_ ?_
                rotate_left
                · simp only [Act.put, List.setIfInBounds_toArray, List.set_cons_zero, List.set_cons_succ, i64_w, i32_w]
                  rfl
                refine pure_ (i := 16) (N := (some 105)) (v := undef) (a' := ?_) (bm_ 21 131071) rfl rfl (any_of HT_.out (by kernel_rfl)) (fun _ _ _ h => h) (Or.inr ⟨by rfl, rfl⟩) ?_ ?_
                rotate_left
                · simp only [Act.put, List.setIfInBounds_toArray, List.set_cons_zero, List.set_cons_succ, i64_w, i32_w]
                  rfl
                refine pure_ (i := 17) (N := (some 106)) (v := undef) (a' := ?_) (bm_ 21 262143) rfl rfl (any_of HT_.out (by kernel_rfl)) (fun _ _ _ h => h) (Or.inr ⟨by rfl, rfl⟩) ?_ ?_
                rotate_left
                · simp only [Act.put, List.setIfInBounds_toArray, List.set_cons_zero, List.set_cons_succ, i64_w, i32_w]
                  rfl
                refine pure_ (i := 18) (N := (some 107)) (v := undef) (a' := ?_) (bm_ 21 524287) rfl rfl (any_of HT_.out (by kernel_rfl)) (fun _ _ _ h => h) (Or.inr ⟨by rfl, rfl⟩) ?_ ?_
                rotate_left
                · simp only [Act.put, List.setIfInBounds_toArray, List.set_cons_zero, List.set_cons_succ, i64_w, i32_w]
                  rfl
                refine pu_ 19 (some 108) (bm_ 21 1048575) rfl HT_ ⟨by rfl, by intro w'; go_simp; with_reducible rfl⟩ ?_
                refine pu_ 20 (some 109) (bm_ 21 2097151) rfl HT_ ⟨by rfl, by intro w'; go_simp; with_reducible rfl⟩ ?_
                refine done_ (done_of HT_.out (by kernel_rfl)) ?_
                obtain ⟨w20, hw20, hb20⟩ : ∃ w20, w20 = w12 ∧ Below w10.heap.size w10 w20 := ⟨_, rfl, bl_⟩
                subst hw20
                have hX5 : Blk w20 gx 26 #[.bool true, .int .u64 X1, .int .u64 X2] := hX3.after hb20
                have hA5 := hA3.after hb20
                have hown5 := pown_after hown3 hb20
                have hp5 := hp3.after hb20
                have hb5 := bl_trans hb3 hb20
                clear hX3 hA3 hown3 hp3 hb3 hb20 HSC
                obtain ⟨x0, x1, x2⟩ := acells_of hX5
                obtain ⟨i0, hi0, hz0, hz1, hz2⟩ := info_parts adr_info
                have hww := hb5.size
                have hA5l := hA5.lt
                rw [HJ.out] at hown5
                go_wp2_with (at_builtin; refine wpList_append_own _ rfl _ _ 50 rfl (w.heap.size + 1) 26 i0 (.agg #[.bool false, .int .u64 0, .int .u64 0]) 3 24 Tryz.underlying50 hi0 hz0 hz1 hz2 rfl (by decide) _ _ _ rfl (hown5.alloc _) ⟨w20.heap.size, 0, none⟩ 1 1 [.bool true, .int .u64 X1, .int .u64 X2] rfl rfl (pcell_list _ _ _) (one3 _ _ _) (by simp only [maxLen]; omega) (by omega) (by simp; omega) ?_)
                intro v' w6 hown6 hgrow _
                have hb6 := pbelow_own hb5 hown5 (Nat.le_succ _) hgrow
                have hA6 := (hA5.alloc _).grown hgrow (fun e => by have := (hown5.lt _ e.symm).1; omega)
                have hp6 := (hp5.after (bl_alloc (Below.refl _ _) _)).own (hown5.alloc _) hgrow
                obtain ⟨ga, gc, rfl⟩ := rown_slice hown6
                clear hgrow hown5 hA5 hA5l hp5 hb5 hX5 hi0 hz0 hz1 hz2 x0 x1 x2
                go_wp2_with fail
                go_roundw
                case rel => exact ⟨z + 1, upd f j true, js ++ [j], ga, gc, L + 1, by omega, by go_num, by simp, by simp [HJ.out], by have := HLZ.out; omega, by rw [HHV.out, List.length_append, HJ.out]; exact hown6, hp6, HIN.out, HKN.out, by rw [HCN.out]; omega, hA6, hb6⟩
                case measure => simp [intOf]; omega
        · have d3 : decide ((z : Int) < (LL : Int)) = false := decide_eq_false (by omega)
          have d3' : decide (z < LL) = false := decide_eq_false hzL
          have hfull := pcnt_all_of (show cnt f 0 (cntP (fr v b)) = cntP (fr v b) from by have := HC.out; have := HLZ.out; have := HLL.out; omega)
          have HFU := Lib.hid hfull
          clear hfull
          refine (pnext_c q g c v n b f _ _ (hp.after bl_) (glob_tab (hGw.out.after (show Below w.heap.size w _ from bl_)))).mono ?_
          rintro e w7 (⟨j, hj, -, -, -⟩ | ⟨-, rfl, hb7⟩)
          · exfalso
            have := HFU.out j hj.1
            rw [hj.2.1] at this; cases this
          have hp2 := hp.after (show Below wr.heap.size wr w7 from bl_)
          have hA2 := hA.after (show Below wr.heap.size wr w7 from bl_)
          have hown2 := pown_after hown (show Below wr.heap.size wr w7 from bl_)
          have hb2 : Below w.heap.size w w7 := bl_
          clear hp hA hown hbel hb7
          go_wp2_with fail
          go_roundw
          case rel => exact ⟨z + 1, f, js, p', cap', L, by omega, by go_num, rfl, HJ.out, by have := HLZ.out; omega, pown_after hown2 (bl_alloc (Below.refl _ _) _), hp2.after (bl_alloc (Below.refl _ _) _), HI.out, HKP.out, HC.out, hA2.alloc _, bl_alloc hb2 _⟩
          case measure => simp [intOf]; omega
    · have d1 : decide ((z : Int) ≤ (LL : Int)) = false := decide_eq_false (by omega)
      have d1' : decide (z ≤ LL) = false := decide_eq_false hlt
      have eL : L = LL := by have := HLZ.out; omega
      have hfull := pcnt_all_of (show cnt f 0 (cntP (fr v b)) = cntP (fr v b) from by have := HC.out; have := HLL.out; omega)
      have HFC := Lib.hid (pcnt_full hfull)
      have HGA := Lib.hid (given_all (v := v) (F := fr v b) (f := f) hfull)
      clear hfull hown hA
      go_wp2_with fail
      refine (pleft_k q g c v n b _ _ _ hp HFC.out).mono ?_
      rintro e w7 ⟨rfl, hb⟩
      replace hp := hp.after hb
      replace hbel := bl_trans hbel hb
      clear hb
      go_wp2_with fail
      refine (pused_c q g c v n b _ _ hp).mono ?_
      rintro e w8 ⟨p2, cap2, rfl, -, hb⟩
      replace hbel := bl_trans hbel hb
      clear hb
      rw [HGA.out, HK.out, ← HLL.out]
      go_wp2_with fail
      go_ret
      exact ⟨rfl, hbel⟩
end Go.Proofs.YtpfilldnfpcpkaaGreatDoor

namespace Go.Proofs.YtpfilldnfpcpkaaGreatDoor
open Go.ChangeShapes Go.WideShapes Go.ChangeAt Go.RowKit

section
variable {H : Type} {enc : TypeId × Value → H} {P : Program}
theorem post_below {f : Func} {s : ChangeSpec} {apart fresh handsOn again : Bool} {W W' : World} {args : Array Value} {v : Value} {ds gs : List (DataW H)} {before pa pv : List MemPlace}
    (hW : DataW.Whole enc P f.params.toList s.vars apart W args.toList ds gs before)
    (hres : ∀ (b : Nat) (sp : Nat → Bool) (hd : Bool), DataW.TrodAll enc P W' b sp hd f.resultTypes.toList (v.resultList f.resultTypes.size) (s.fn H (ds ++ gs)).results [])
    (hargs : ∀ sp : Nat → Bool, (∀ p ∈ before, sp p.block = true) → DataW.TrodAll enc P W' 0 sp true f.params.toList args.toList (s.fn H (ds ++ gs)).args pa)
    (hvars : ∀ sp : Nat → Bool, (∀ p ∈ before, sp p.block = true) → DataW.TrodVars enc P W' sp s.vars (s.fn H (ds ++ gs)).vars pv)
    (hps : before = pa ++ pv) (hb : Below W.heap.size W W')
    (hok : ∀ (j : Nat) (t : TypeId) (r : Value), f.resultTypes[j]? = some t → (v.resultList f.resultTypes.size)[j]? = some r → Value.okWide P W' .any 0 t r) :
    s.post enc P f apart fresh handsOn again W args v W' := by
  have hlt : ∀ p ∈ before, p.block < W.heap.size := fun p hp => hW.lt p hp
  have hold : ∀ p ∈ before, (fun b => decide (b < W.heap.size)) p.block = true := fun p hp => by simpa using hlt p hp
  refine ⟨ds, gs, before, [], pa, pv, hW, hres _ _ _, hargs _ hold, hvars _ hold, World.keptBut_mono (fun p hp => ⟨hp, ?_⟩) (hb.frame (· ∈ before)), fun _ => ?_⟩
  · rw [hps, List.mem_append] at hp
    exact Or.inr hp
  · obtain ⟨_, _, _, _, _, hz, hn⟩ := hW
    refine ⟨hok, _, _, ([] ++ pa) ++ pv, ⟨[] ++ pa, pv, trodAll_append (hargs _ (fun _ _ => rfl)) (hres _ _ _), hvars _ (fun _ _ => rfl), rfl, ?_, ?_⟩, ?_⟩
    · intro b off hp
      have hin : MemPlace.cell b off ∈ before := by rw [hps]; simpa using hp
      rw [hb.frozen (hlt _ hin)]
      exact hz b off hin
    · intro ha
      have := hn ha
      rw [hps] at this
      simpa using this
    · intro p hp _
      rw [hps]
      simpa using hp
end

theorem Tryz.own : ownKnob Tryz.prog.godebug = none := by kernel_rfl
theorem u64_bd {n : Int} (h : (Lit.int .u64 n).wf = true) : 0 ≤ n ∧ n < 18446744073709551616 := by
  simp [Lit.wf, IntKind.min, IntKind.max, IntKind.bits, IntKind.signed] at h
  omega
end Go.Proofs.YtpfilldnfpcpkaaGreatDoor

namespace Go.Proofs.YtpfilldnfpcpkaaGreatDoor
open Go.ChangeShapes Go.WideShapes Go.ChangeAt Go.RowKit Go.Joins

def numD {H : Type} (n : Nat) : DataW H := .agg [.lit (.int .u64 (hi n)), .lit (.int .u64 (lo n))]
def addrD {H : Type} (v : Bool) (n : Nat) : DataW H := .agg [.lit (.bool v), numD n]
/-- the number's words are in their bounds -/
def numOk (n : Nat) : Prop := (Lit.int .u64 (hi n)).wf = true ∧ (Lit.int .u64 (lo n)).wf = true

set_option maxRecDepth 100000 in
theorem trod_bool_form {H : Type} {enc : TypeId × Value → H} {P : Program} {w : World} {base : Nat} {sp : Nat → Bool} {held : Bool} {fuel : Nat} {t : TypeId} {c : Value} {x : DataW H × List MemPlace} (ht : P.underlying t = some .bool)
    (h : DataW.trod enc P w base sp held fuel t [c] = some x) : ∃ b, c = .bool b ∧ x = (.lit (.bool b), []) := by
  cases fuel with
  | zero => simp [DataW.trod] at h
  | succ fuel =>
    simp only [DataW.trod, ht] at h
    split at h
    · rename_i e1 e2
      simp at e2
      subst e2
      exact ⟨_, rfl, (Option.some.inj h).symm⟩
    all_goals first | (rename_i e1 _; cases e1; done) | (cases h; done) | skip
    all_goals simp_all
set_option maxRecDepth 100000 in
theorem trod_num_form {H : Type} {enc : TypeId × Value → H} {W : World} {base : Nat} {sp : Nat → Bool} {held : Bool} {fuel : Nat} {c0 c1 : Value} {x : DataW H × List MemPlace}
    (h : DataW.trod enc Tryz.prog W base sp held fuel 24 [c0, c1] = some x) : ∃ n : Nat, n < 340282366920938463463374607431768211456 ∧ c0 = .int .u64 (hi n) ∧ c1 = .int .u64 (lo n) ∧ x = (numD n, []) ∧ numOk n := by
  obtain ⟨y0, y1, m, rfl, _, h0, h1⟩ := trod_struct2 Tryz.underlying24 h
  have h0' : DataW.trod enc Tryz.prog W base sp held m 22 [c0] = some y0 := h0
  have h1' : DataW.trod enc Tryz.prog W base sp held m 22 [c1] = some y1 := h1
  obtain ⟨a, e0, rfl, wa⟩ := DataW.trod_int Tryz.underlying22 h0'
  obtain ⟨b, e1, rfl, wb⟩ := DataW.trod_int Tryz.underlying22 h1'
  simp at e0 e1
  subst e0 e1
  obtain ⟨a0, a1⟩ := u64_bd wa
  obtain ⟨b0', b1⟩ := u64_bd wb
  refine ⟨num a b, num_lt a1 b1, ?_, ?_, ?_, ?_, ?_⟩
  · rw [hi_num a0 a1 b0' b1]
  · rw [lo_num b0' b1]
  · unfold numD; rw [hi_num a0 a1 b0' b1, lo_num b0' b1]; rfl
  · rw [hi_num a0 a1 b0' b1]; exact wa
  · rw [lo_num b0' b1]; exact wb
set_option maxRecDepth 100000 in
theorem trod_addr_form {H : Type} {enc : TypeId × Value → H} {W : World} {base : Nat} {sp : Nat → Bool} {held : Bool} {fuel : Nat} {c0 c1 c2 : Value} {x : DataW H × List MemPlace}
    (h : DataW.trod enc Tryz.prog W base sp held fuel 26 [c0, c1, c2] = some x) : ∃ (v : Bool) (n : Nat), n < 340282366920938463463374607431768211456 ∧ c0 = .bool v ∧ c1 = .int .u64 (hi n) ∧ c2 = .int .u64 (lo n) ∧ x = (addrD v n, []) ∧ numOk n := by
  obtain ⟨y0, y1, m, rfl, _, h0, h1⟩ := trod_struct2 Tryz.underlying26 h
  have h0' : DataW.trod enc Tryz.prog W base sp held m 4 [c0] = some y0 := h0
  have h1' : DataW.trod enc Tryz.prog W base sp held m 24 [c1, c2] = some y1 := h1
  obtain ⟨v, rfl, rfl⟩ := trod_bool_form Tryz.underlying4 h0'
  obtain ⟨n, hn, rfl, rfl, rfl, ho⟩ := trod_num_form h1'
  exact ⟨v, n, hn, rfl, rfl, rfl, rfl, ho⟩
end Go.Proofs.YtpfilldnfpcpkaaGreatDoor

namespace Go.Proofs.YtpfilldnfpcpkaaGreatDoor
open Go.ChangeShapes Go.WideShapes Go.ChangeAt Go.RowKit Go.Joins

set_option maxRecDepth 100000 in
theorem Tryz.cellsPfx : Tryz.prog.cellsOf 28 = 4 := by kernel_rfl
def pfxD {H : Type} (v : Bool) (n : Nat) (b : Int) : DataW H := .agg [addrD v n, .lit (.int .i64 b)]
def pfxOk (n : Nat) (b : Int) : Prop := numOk n ∧ (Lit.int .i64 b).wf = true
set_option maxRecDepth 100000 in
theorem trod_pfx_form {H : Type} {enc : TypeId × Value → H} {W : World} {base : Nat} {sp : Nat → Bool} {held : Bool} {fuel : Nat} {c0 c1 c2 c3 : Value} {x : DataW H × List MemPlace}
    (h : DataW.trod enc Tryz.prog W base sp held fuel 28 [c0, c1, c2, c3] = some x) : ∃ (v : Bool) (n : Nat) (b : Int), n < 340282366920938463463374607431768211456 ∧ c0 = .bool v ∧ c1 = .int .u64 (hi n) ∧ c2 = .int .u64 (lo n) ∧ c3 = .int .i64 b ∧ x = (pfxD v n b, []) ∧ pfxOk n b := by
  obtain ⟨y0, y1, m, rfl, _, h0, h1⟩ := trod_struct2 Tryz.underlying28 h
  have h0' : DataW.trod enc Tryz.prog W base sp held m 26 [c0, c1, c2] = some y0 := h0
  have h1' : DataW.trod enc Tryz.prog W base sp held m 3 [c3] = some y1 := h1
  obtain ⟨v, n, hn, rfl, rfl, rfl, rfl, ho⟩ := trod_addr_form h0'
  obtain ⟨b, e1, rfl, wb⟩ := DataW.trod_int Tryz.underlying3 h1'
  simp at e1
  subst e1
  exact ⟨v, n, b, hn, rfl, rfl, rfl, rfl, rfl, ho, wb⟩
theorem arr4 {α : Type} {cs : Array α} (h : cs.size = 4) : ∃ c0 c1 c2 c3, cs = #[c0, c1, c2, c3] := by
  rcases cs with ⟨l⟩
  match l, h with
  | [a, b, c, d], _ => exact ⟨a, b, c, d, rfl⟩
set_option maxRecDepth 100000 in
/-- a prefix as an argument -/
theorem open_pfx {H : Type} {enc : TypeId × Value → H} {W : World} {base b0 : Nat} {sp : Nat → Bool} {v : Value} {d : DataW H} {p : List MemPlace} {r : Reach}
    (hv : Value.okWide Tryz.prog W r b0 28 v) (h : DataW.Trod enc Tryz.prog W base sp true 28 v d p) :
    ∃ (u : Bool) (n : Nat) (b : Int), n < 340282366920938463463374607431768211456 ∧ (Lit.int .i64 b).wf = true ∧ v = PfxV u n b ∧ d = pfxD u n b ∧ p = [] ∧ pfxOk n b := by
  obtain ⟨cs, rfl, hsz⟩ := okWide_struct Tryz.underlying28 hv
  obtain ⟨c0, c1, c2, c3, rfl⟩ := arr4 (hsz.trans Tryz.cellsPfx)
  obtain ⟨fuel, hf⟩ := h
  obtain ⟨u, n, b, hn, rfl, rfl, rfl, rfl, e, ho⟩ := trod_pfx_form hf
  simp only [Prod.mk.injEq] at e
  exact ⟨u, n, b, hn, ho.2, rfl, e.1, e.2, ho⟩
end Go.Proofs.YtpfilldnfpcpkaaGreatDoor

namespace Go.Proofs.YtpfilldnfpcpkaaGreatDoor
open Go.ChangeShapes Go.WideShapes Go.RowKit Go.Deep

section
variable {H : Type} {enc : TypeId × Value → H} {P : Program} {w : World} {base : Nat} {spare : Nat → Bool} {held : Bool}
theorem trodAll_carry {w' : World} : ∀ {ts : List TypeId} {vs : List Value} {ds : List (DataW H)} {ps : List MemPlace}, DataW.TrodAll enc P w base spare held ts vs ds ps → (∀ p ∈ ps, w.sameAt w' p) → DataW.TrodAll enc P w' base spare held ts vs ds ps
  | [], [], [], _, h, _ => h
  | _ :: _, _ :: _, _ :: _, _, ⟨p, q, ⟨n, h1⟩, h2, e⟩, hs => ⟨p, q, ⟨n, DataW.trod_carry n _ _ _ h1 (fun x hx => hs x (by rw [e]; exact List.mem_append_left _ hx))⟩, trodAll_carry h2 (fun x hx => hs x (by rw [e]; exact List.mem_append_right _ hx)), e⟩
/-- what came in reads behind the call as before -/
theorem args_below {T : TypeId → Prop} (K : Kids P T) (hz : ∀ t e, T t → P.underlying t = some (.slice e) → 0 < P.cellsOf e) {W W' : World} {ts : List TypeId} {vs : List Value} {ds : List (DataW H)} {ps : List MemPlace} (hT : ∀ t ∈ ts, T t)
    (h : DataW.TrodAll enc P W 0 (fun _ => true) true ts vs ds ps) (hb : Below W.heap.size W W') (hlt : ∀ x ∈ ps, x.block < W.heap.size) (sp : Nat → Bool) (hs : ∀ p ∈ ps, sp p.block = true) : DataW.TrodAll enc P W' 0 sp true ts vs ds ps :=
  DataW.TrodAll.respare K hz hT (trodAll_carry h fun x hx => hb.same (hlt x hx)) hs
end
theorem Tryz.kids : Kids Tryz.prog (· < Tryz.prog.types.size) := kids_rows (by kernel_rfl) (by kernel_rfl)
theorem Tryz.full : ∀ t e, t < Tryz.prog.types.size → Tryz.prog.underlying t = some (.slice e) → 0 < Tryz.prog.cellsOf e := slices_full_of Tryz.prog (by kernel_rfl)
theorem cell_lt {W : World} {a : Addr} {v : Value} (h : W.cell? a = some v) : a.block < W.heap.size := by
  rcases Nat.lt_or_ge a.block W.heap.size with k | k
  · exact k
  · unfold World.cell? at h
    rw [Array.getElem?_eq_none k] at h
    cases h
end Go.Proofs.YtpfilldnfpcpkaaGreatDoor

namespace Go.Proofs.YtpfilldnfpcpkaaGreatDoor
open Go.ChangeShapes Go.WideShapes Go.RowKit Go.Deep

set_option maxRecDepth 100000 in
/-- the numbers of a slice that is read -/
theorem ints_open {H : Type} {enc : TypeId × Value → H} {W : World} {v : Value} {d : DataW H} {ps : List MemPlace} {base : Nat} {r : Reach}
    (hv : Value.okWide Tryz.prog W r base 52 v) (h : DataW.Trod enc Tryz.prog W 0 (fun _ => true) true 52 v d ps) :
    ∃ (p : Option Addr) (len cap : Nat) (K : Nat → Int), v = .slice p len cap ∧ len ≤ 9223372036854775807 ∧ IntRow W p len K := by
  obtain ⟨p, len, cap, rfl⟩ := okWide_slice Tryz.underlying52 hv
  obtain ⟨fuel, hf⟩ := h
  rcases open_slice1 Tryz.underlying52 (by kernel_rfl) hf with ⟨hcs, _⟩ | ⟨a, len', cap', m, n, V, D, Pl, hcs, _, hl, hm, hmm, _, hii⟩
  · simp [Value.cells] at hcs
    obtain ⟨rfl, rfl, rfl⟩ := hcs
    exact ⟨_, _, _, fun _ => 0, rfl, by omega, fun i h => absurd h (by omega)⟩
  · simp [Value.cells] at hcs
    obtain ⟨rfl, rfl, rfl⟩ := hcs
    have key : ∀ i, ∃ k : Int, i < len → a.block < W.heap.size ∧ W.cell? (a.add i) = some (.int .i64 k) := by
      intro i
      by_cases hil : i < len
      · obtain ⟨hc, ht⟩ := hii i (by rw [hmm, if_pos rfl]; omega)
        obtain ⟨k, e, _, _⟩ := DataW.trod_int Tryz.underlying3 ht
        simp only [List.cons.injEq, and_true] at e
        rw [e] at hc
        have hb := cell_lt hc
        rw [padd_block] at hb
        exact ⟨k, fun _ => ⟨hb, hc⟩⟩
      · exact ⟨0, fun h => absurd h hil⟩
    obtain ⟨F, hF⟩ := Classical.axiomOfChoice key
    refine ⟨_, _, _, F, rfl, by unfold maxLen at hm; omega, fun i h => ?_⟩
    obtain ⟨h1, h2⟩ := hF i h
    exact ⟨a, rfl, h1, h2⟩
end Go.Proofs.YtpfilldnfpcpkaaGreatDoor

namespace Go.Proofs.YtpfilldnfpcpkaaGreatDoor
open Go.RowKit

def listA : List (String × DataW Unit) := [("math/bits.deBruijn32tab", Rows.laid_math_bits_deBruijn32tab), ("math/bits.deBruijn64tab", Rows.laid_math_bits_deBruijn64tab), ("internal/strconv.uint64pow10", Rows.laid_internal_strconv_uint64pow10), ("unicode/utf8.acceptRanges", Rows.laid_unicode_utf8_acceptRanges), ("strconv.ErrRange", Rows.laid_strconv_ErrRange), ("strconv.ErrSyntax", Rows.laid_strconv_ErrSyntax), ("unicode/utf8.first", Rows.laid_unicode_utf8_first)]
theorem doorA_met (os : Os) (args : Array Value) : laidMetH Tryz.prog listA ((World.laidAll Tryz.prog os listA).forCall (fun _ _ => 0) ⟨#[], args, []⟩).memory := by
  rw [MakeChecks.laidMetH_plain _ _ _ (by kernel_rfl)]; exact laidMet_laidAll _ (by kernel_rfl) (by kernel_rfl)
def tabZ : List Int := Lib.deBruijn64tab.map Int.ofNat
theorem listA_tab : (Rows.laid_math_bits_deBruijn64tab : DataW Unit) = Lib.tabData .u8 tabZ := by kernel_rfl
theorem listA_pow : (Rows.laid_internal_strconv_uint64pow10 : DataW Unit) = Lib.tabData .u64 Lib.pow10Tab := by kernel_rfl
theorem err_star : "*" ++ "errors.errorString" = "*errors.errorString" := by decide
theorem err_name (u : TypeId) (h : Tryz.prog.typeName? 3 u = some "*errors.errorString") : u = 233 :=
  typeName_ptr_named (nm := "errors.errorString") (by rw [err_star]; kernel_rfl) (by kernel_rfl) (by decide) u (by rw [err_star]; exact h)
theorem glob_of {W : World} (h : laidMetH Tryz.prog listA W) (hs : W.ShapedOpen Tryz.prog) : Glob W := by
  rw [MakeChecks.laidMetH_plain _ _ _ (by kernel_rfl)] at h
  unfold listA at h
  have h2 := h.tail
  have h3 := h2.tail
  have h5 := h3.tail.tail
  have h6 := h5.tail
  rw [listA_tab] at h2
  rw [listA_pow] at h3
  refine ⟨?_, ?_, ?_, ?_, ?_⟩
  · exact cell_of_shapedOpen_int (g := 1) (t := 3) (zero := #[.int .i64 0]) hs (of_decide_eq_true (by kernel_rfl)) (by kernel_rfl) rfl (by kernel_rfl) (by kernel_rfl) Tryz.underlying3
  · obtain ⟨a, s, hv, _⟩ := laid_sentinel h6 (g := 2) (by kernel_rfl) (by kernel_rfl) Tryz.underlying144 err_name Tryz.underlying233 Tryz.underlying235 rfl rfl Tryz.underlying9 (by kernel_rfl) (by kernel_rfl)
    exact ⟨_, _, hv⟩
  · obtain ⟨a, s, hv, _⟩ := laid_sentinel h5 (g := 3) (by kernel_rfl) (by kernel_rfl) Tryz.underlying144 err_name Tryz.underlying233 Tryz.underlying235 rfl rfl Tryz.underlying9 (by kernel_rfl) (by kernel_rfl)
    exact ⟨_, _, hv⟩
  · exact Lib.tabIs_of_head (P := Tryz.prog) (g := 4) (t := 237) (e := 22) (n := 20) (by kernel_rfl) (by kernel_rfl) Tryz.underlying237 Tryz.underlying22 (by kernel_rfl) (by kernel_rfl) h3
  · have hT := Lib.tabIs_of_head (P := Tryz.prog) (g := 0) (t := 216) (e := 5) (n := 64) (by kernel_rfl) (by kernel_rfl) Tryz.underlying216 Tryz.underlying5 (by kernel_rfl) (by kernel_rfl) h2
    intro j hj
    have hc := hT.cell (g := 0) (by kernel_rfl) j (by unfold tabZ; rw [List.length_map, show Lib.deBruijn64tab.length = 64 by decide]; exact hj)
    rw [hc]
    have e : tabZ.getD j 0 = ((Lib.deBruijn64tab.getD j 0 : Nat) : Int) := by
      unfold tabZ
      simp only [List.getD_eq_getElem?_getD, List.getElem?_map]
      cases Lib.deBruijn64tab[j]? <;> rfl
    rw [e]
/-- the plain wrap with the row's condition and the start's shape -/
theorem lift_shaped {H : Type} {enc : TypeId × Value → H} {C : Checked} {os : Os} {f : FuncId} {fn : Func} {s : ChangeSpec} {X : World → Array Value → Prop}
    (hX : ∀ (w w' : World) (args : Array Value), w.heap = w'.heap → X w args → X w' args)
    (own : ownKnob C.prog.godebug = none) (started : os.Started) (noInit : C.prog.inits.idxOf? f = none) (hfn : C.prog.funcs[f]? = some fn)
    (witness : ∃ (w : World) (tape : Tape) (i : Input), w.os = os ∧ (w.forCall tape i).Shaped C.prog ∧ i.vars = [] ∧ Input.okWide C.prog (w.forCall tape i) .any w.heap.size f i ∧
      ((s.pre enc C.prog fn [] false (w.forCall tape i).memory i.args ∧ X (w.forCall tape i).memory i.args) ∧ sizedMet enc C.prog fn (OpenSpec.ofChange s) false (w.forCall tape i).memory i.args) ∧ ({} : Assume).holds C.prog (lone (Frame.enter C.prog f i.args .normal) [] (w.forCall tape i)))
    (contract : ∀ (W : World) (base : Nat) (args : Array Value) (ds gs : List (DataW H)) (before : List MemPlace),
      (∀ (j : Nat) t v, fn.params[j]? = some t → args[j]? = some v → Value.okWide C.prog W .any base t v) →
      DataW.Whole enc C.prog fn.params.toList s.vars false W args.toList ds gs before → X W args → W.ShapedOpen C.prog →
      Calls C.prog f args W fun e W' => ∃ v, e = .returned v ∧ s.post enc C.prog fn false true false false W args v W') :
    ReturnsInHanded {} C os f .any (fun w args => (s.pre enc C.prog fn [] false w args ∧ X w args) ∧ sizedMet enc C.prog fn (OpenSpec.ofChange s) false w args) (s.post enc C.prog fn false true false false) := by
  refine returnsInHanded_of_calls own started noInit witness ?_
  intro w tape i _ hshape _ hok hpre _
  obtain ⟨_, _, _, fn2, hfn2, _, _, _, _, hval⟩ := hok
  obtain rfl : fn2 = fn := Option.some.inj (hfn2.symm.trans hfn)
  obtain ⟨⟨⟨ds, gs, before, hw, _⟩, hx⟩, _⟩ := hpre
  refine (contract (w.forCall tape i) w.heap.size i.args ds gs before hval (DataW.Whole.of_heap (w' := w.forCall tape i) (by rfl) hw) (hX _ _ _ (by rfl) hx) hshape).mono fun e W' ⟨v, he, hp⟩ => ?_
  subst he
  exact ChangeSpec.post_blind hp
end Go.Proofs.YtpfilldnfpcpkaaGreatDoor

