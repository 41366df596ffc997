/-
A part of the proof of blocksBack_card: its lemmas and walks, part 1. No condition.
-/
import Derived.Laws.AppendOwn
import Derived.OrdersHeld
import Derived.Laws.BitsLemmas
import Derived.Laws.BitsAllLaws
import Derived.Lib.TrailingZeros
import Derived.Deep.RegionWith
import Derived.StillTailTactics
import Derived.Laws.CopyOwn
import Derived.Test.YtpfilldnfpcpkaaGreatDoorBbkM0
set_option linter.unusedVariables false
set_option linter.unusedSimpArgs false
namespace Go.Proofs.YtpfilldnfpcpkaaGreatDoor
open Go.RowKit

theorem Blk.ne_own {w : World} {g base n size : Nat} {t e : TypeId} {cs : Array Value} {v : Value} {xs : List Value} (h : Blk w g t cs) (ho : w.ownsRow base e size v n xs) (hte : t ≠ e) : some g ≠ v.ownBlock := by
  rcases ho.2 with ⟨rfl, _⟩ | ⟨g', cap, cur, rfl, _, hh, _⟩
  · simp [Value.ownBlock]
  · intro q
    have e1 : g = g' := by simpa [Value.ownBlock] using q
    subst e1
    unfold Blk at h
    rw [h] at hh
    injection hh with hh
    injection hh with _ ht
    exact hte ht
end Go.Proofs.YtpfilldnfpcpkaaGreatDoor

namespace Go.Proofs.YtpfilldnfpcpkaaGreatDoor
open Go.RowKit
end Go.Proofs.YtpfilldnfpcpkaaGreatDoor
namespace Go.Proofs.YtpfilldnfpcpkaaGreatDoor

theorem topN_add (f n : Nat) : topN f n + n % 2 ^ f = n := by unfold topN; rw [Nat.mul_comm]; exact Nat.div_add_mod n (2 ^ f)
theorem topN_eq {f n : Nat} : topN f n = n ↔ n % 2 ^ f = 0 := by have := topN_add f n; omega
end Go.Proofs.YtpfilldnfpcpkaaGreatDoor

namespace Go.Proofs.YtpfilldnfpcpkaaGreatDoor
open Go.RowKit Go.Proofs.YtpfilldnfpcpkaaGreatDoorW.PrintWords Go.Proofs.YtpfilldnfpcpkaaGreatDoorW.PrintLast

/-- a block that is known, behind steps that leave it -/
theorem pk_ {w W : World} {g : Nat} {o : Obj} (h : Aside0 (w.heap[g]? = some o)) (k : w.heap[g]? = some o → W.heap[g]? = some o := by intro h_; (with_reducible repeat (first | refine blk_drewN ?_ _ | refine blk_drew ?_ | refine blk_alloc ?_ _)); exact h_) : W.heap[g]? = some o := k h.out
section
variable {P : Program} {ops : Array Oper} {Q : Exit → Act → World → Prop} {md : Region.Mode} {S : World → Prop} {ds : List Nat}
end
end Go.Proofs.YtpfilldnfpcpkaaGreatDoor

namespace Go.Proofs.YtpfilldnfpcpkaaGreatDoor.PPo
open Go.RowKit Go.Proofs.YtpfilldnfpcpkaaGreatDoorW.PrintWords Go.Proofs.YtpfilldnfpcpkaaGreatDoorW.PrintLast Go.Proofs.YtpfilldnfpcpkaaGreatDoorW.PrintMore
attribute [local go_sem] max2_int min2_int max_two min_two max_three min_three max_four min_four   -- for this text's walks alone



theorem info3 : (Tryz.prog.info? 3).map (fun i => (i.zero, i.size, i.bytes)) = some (some (.int .i64 0), 1, 8) := by kernel_rfl
end Go.Proofs.YtpfilldnfpcpkaaGreatDoor.PPo

namespace Go.Proofs.YtpfilldnfpcpkaaGreatDoor.PPo
open Go.RowKit Go.Proofs.YtpfilldnfpcpkaaGreatDoorW.PrintWords Go.Proofs.YtpfilldnfpcpkaaGreatDoorW.PrintLast Go.Proofs.YtpfilldnfpcpkaaGreatDoorW.PrintMore
attribute [local go_sem] max2_int min2_int max_two min_two max_three min_three max_four min_four   -- for this text's walks alone

mutual
def platbookref01_Bits.l0 : Nat → List Int → Int → Int → Int → Option (List Int)
 | 0, _, _, _, _ => none
 | k + 1, x3, x4, x5, x6 => if x6 < 64 then (if x3.length < 17592186044416 then (platbookref01_Bits.l0 k (x3 ++ [wrap64 (Int.tmod x4 2)]) (IntKind.u64.wrap (Int.tdiv x4 2)) x5 (wrap64 (x6 + 1))) else (none)) else (platbookref01_Bits.l1 k x3 x5 0)
def platbookref01_Bits.l1 : Nat → List Int → Int → Int → Option (List Int)
 | 0, _, _, _ => none
 | k + 1, x3, x5, x7 => if x7 < 64 then (if x3.length < 17592186044416 then (platbookref01_Bits.l1 k (x3 ++ [wrap64 (Int.tmod x5 2)]) (IntKind.u64.wrap (Int.tdiv x5 2)) (wrap64 (x7 + 1))) else (none)) else (some x3)
end
def platbookref01_Bits.f (k : Nat) (a0_0 : Int) (a0_1 : Int) : Option (List Int) := platbookref01_Bits.l0 k (([] : List Int)) a0_1 a0_0 0
set_option maxHeartbeats 8000000 in
set_option maxRecDepth 100000 in
theorem platbookref01_Bits.calls (k : Nat) (a0_0 : Int) (a0_1 : Int) (r : List Int) (w : World) (h : platbookref01_Bits.f k a0_0 a0_1 = some r) :
  Calls Tryz.prog 145 #[.agg #[.int .u64 a0_0, .int .u64 a0_1]] w fun e w' => ∃ v0_ : Value, e = .returned (v0_) ∧ Kd.R (Kd.int .i64) 3 w' w.heap.size (fun _ => True) v0_ r ∧ Below w.heap.size w w' := by
 have hu24 := Tryz.underlying24
 have HB := Aside0.mk (Below.refl w.heap.size w)
 have H : (platbookref01_Bits.l0 k (([] : List Int)) a0_1 a0_0 0) = some r := h
 clear h
 obtain ⟨y242, hy242⟩ : ∃ y_ : List Int, y_ = (([] : List Int)) := ⟨_, rfl⟩
 replace H : (platbookref01_Bits.l0 k y242 a0_1 a0_0 0) = some r := by first | (rw [hy242]; with_reducible exact H) | (have H2_ := (Option.bind_some _ _).symm.trans H; rw [hy242]; with_reducible exact H2_) | (have H2_ := (Option.bind_some _ _).symm.trans H; with_reducible exact H2_) | with_reducible exact H | (rw [hy242]; exact H) | exact H
 have Ny242 := Aside0.mk hy242
 clear hy242
 have H' := Aside0.mk H
 clear H
 go_enter Tryz.func145, Tryz.ntmps145
 go_wp2_with (first | ((with_reducible refine gate_dst (N := 1) rfl ?_); refine bx_ 1 #[.int .u64 a0_0, .int .u64 a0_1] 24 ?_; intro gb241 hg w2 hbox hb; have BK241 := Aside0.mk (hbox); have GW241 := gw_ HB hg; have GE241 := gw_ HB hg; replace HB := bs_ HB hb; clear hb hbox hg) | ((with_reducible refine gate_dst (N := 8) rfl ?_); refine Kd.R_lit (Kd.int .i64) _ 3 ?hg (N := 8) ?hd (xs := ([] : List Int)) (inner := []) (ok := fun _ => True) (okp := fun _ => True) ?hr ?hp (fun _ hk => hk) trivial (Below.refl _ _) (Nat.le_refl _) (by simp) ?_; (case hd => rfl); (case hg => rfl); (case hr => first | (go_simp; done) | (go_simp; rfl)); (case hp => exact (Reps.none _ _)); intro v243 w3 ho4 hb hg_ hnew_; clear hg_ hnew_; (first | rw [← Ny242.out] at ho4 | (simp only [Int.reduceToNat] at ho4; rw [← Ny242.out] at ho4)); have HO244 := Aside0.mk (Kd.R_lower ho4 (below_size (pb_ HB))); replace BK241 := bb_ BK241 hb; replace HB := bs_ HB hb; clear hb ho4; obtain ⟨hcz5_0, hcz5_1, hfz5_0, hfz5_1⟩ := c2_ BK241))
 go_loopg [3, 4, 6] k (fun kq v3 v4 v6 w' => ∃ (x3_1 : List Int) (x4_1 : Int) (x6_1 : Int), v4 = .int .u64 x4_1 ∧ v6 = .int .i64 x6_1 ∧ Aside0 (platbookref01_Bits.l0 kq x3_1 x4_1 a0_0 x6_1 = some r) ∧ Aside0 (kq ≤ k) ∧ Aside0 (Kd.R (Kd.int .i64) 3 w' w.heap.size (fun _ => True) v3 x3_1) ∧ Aside0 (w'.heap[gb241]? = some (.cells #[.int .u64 a0_0, .int .u64 a0_1] 24 (0, 0))) ∧ Aside0 (Below w.heap.size w w'))
 case atStart => exact ⟨(y242), (a0_1), (0), (by first | rfl | (simp; done) | (simp [*]; done)), (by first | rfl | (simp; done) | (simp [*]; done)), H', ⟨Nat.le_refl _⟩, ⟨by (with_reducible repeat (first | apply Kd.R_alloc | apply Kd.R_drewN | apply Kd.R_drew)); exact HO244.out⟩, ⟨by refine pw_ ?_; exact BK241.out⟩, ⟨pb_ HB⟩⟩
 case round =>
  clear H'
  try clear c1
  try clear p2
  try clear hcz5_0
  try clear hcz5_1
  try clear hfz5_0
  try clear hfz5_1
  obtain ⟨x3_1, x4_1, x6_1, rfl, rfl, HA, HK1, HO_3, BK241, HB⟩ := hrel
  cases gk with
  | zero => exact absurd HA.out (by simp [platbookref01_Bits.l0])
  | succ k1 =>
   have H := HA.out
   clear HA
   simp only [platbookref01_Bits.l0] at H
   by_cases c6 : x6_1 < 64
   ·
    rw [if_pos c6] at H
    have c6b0 : decide (x6_1 < 64) = true := decide_eq_true c6
    clear c6
    by_cases c7 : x3_1.length < 17592186044416
    ·
     rw [if_pos c7] at H
     have LMc7 := Aside0.mk c7
     clear c7
     obtain ⟨y245, hy245⟩ : ∃ y_ : List Int, y_ = (x3_1 ++ [wrap64 (Int.tmod x4_1 2)]) := ⟨_, rfl⟩
     replace H : (platbookref01_Bits.l0 k1 y245 (IntKind.u64.wrap (Int.tdiv x4_1 2)) a0_0 (wrap64 (x6_1 + 1))) = some r := by first | (rw [hy245]; with_reducible exact H) | (have H2_ := (Option.bind_some _ _).symm.trans H; rw [hy245]; with_reducible exact H2_) | (have H2_ := (Option.bind_some _ _).symm.trans H; with_reducible exact H2_) | with_reducible exact H | (rw [hy245]; exact H) | exact H
     have Ny245 := Aside0.mk hy245
     clear hy245
     have H' := Aside0.mk H
     clear H
     go_wp2_with (first | ((with_reducible refine gate_builtin (b := .append) (xs := #[.tmp 17, .tmp 21]) rfl ?_); at_builtin; refine Kd.R_append (Kd.int .i64) (w0 := w) w.heap.size rfl (.tmp 17) (.tmp 21) 52 3 (.int .i64 0) 8 rfl Tryz.underlying52 info3 rfl (by decide) (by omega) u3 x3_1 (wrap64 (Int.tmod x4_1 2)) [.int .i64 (wrap64 (Int.tmod x4_1 2))] (fun _ => True) (fun _ => False) rfl rfl ?aP (fun _ hk => hk.elim) ?aF ?aO ?aB ?aS ?aL ?_; (case aP => exact rfl); (case aB => exact (pb_ HB)); (case aF => exact (fun _ _ => trivial)); (case aO => exact (by (with_reducible repeat (first | apply Kd.R_alloc | apply Kd.R_drewN | apply Kd.R_drew)); exact HO_3.out)); (case aS => exact (below_size (pb_ HB))); (case aL => have := LMc7.out; omega); intro v246 w8 ho hb hg hat; rw [← Ny245.out] at ho; have HO247 := Aside0.mk (ho); replace BK241 := Aside0.mk (blk_grown (g := gb241) (o := .cells #[.int .u64 a0_0, .int .u64 a0_1] 24 (0, 0)) (pk_ BK241) hg (Kd.R_ne HO_3.out BK241.out (by decide))); replace HB := Aside0.mk (hb); clear HO_3; clear ho hb hg hat))
     go_roundg k1
     case measure => have := HK1.out; omega
     case rel => exact ⟨(y245), (IntKind.u64.wrap (Int.tdiv x4_1 2)), (wrap64 (x6_1 + 1)), (by first | rfl | (simp; done) | (simp [*]; done)), (by first | rfl | (simp; done) | (simp [*]; done)), H', ⟨by have := HK1.out; omega⟩, ⟨by (with_reducible repeat (first | apply Kd.R_alloc | apply Kd.R_drewN | apply Kd.R_drew)); exact HO247.out⟩, ⟨by refine pw_ ?_; exact BK241.out⟩, ⟨pb_ HB⟩⟩
    ·
     rw [if_neg c7] at H
     exact absurd H (by simp)
   ·
    rw [if_neg c6] at H
    have c6b0 : decide (x6_1 < 64) = false := decide_eq_false c6
    clear c6
    have H' := Aside0.mk H
    clear H
    go_wp2
    go_loopg [3, 5, 7] k1 (fun kq v3 v5 v7 w' => ∃ (x3_2 : List Int) (x5_2 : Int) (x7_2 : Int), v5 = .int .u64 x5_2 ∧ v7 = .int .i64 x7_2 ∧ Aside0 (platbookref01_Bits.l1 kq x3_2 x5_2 x7_2 = some r) ∧ Aside0 (kq ≤ k1) ∧ Aside0 (Kd.R (Kd.int .i64) 3 w' w.heap.size (fun _ => True) v3 x3_2) ∧ Aside0 (w'.heap[gb241]? = some (.cells #[.int .u64 a0_0, .int .u64 a0_1] 24 (0, 0))) ∧ Aside0 (Below w.heap.size w w'))
    case atStart => exact ⟨(x3_1), (a0_0), (0), (by first | rfl | (simp; done) | (simp [*]; done)), (by first | rfl | (simp; done) | (simp [*]; done)), H', ⟨Nat.le_refl _⟩, ⟨by (with_reducible repeat (first | apply Kd.R_alloc | apply Kd.R_drewN | apply Kd.R_drew)); exact HO_3.out⟩, ⟨by refine pw_ ?_; exact BK241.out⟩, ⟨pb_ HB⟩⟩
    case round =>
     clear H'
     try clear c1
     try clear p2
     try clear c6
     try clear c6b0
     try clear p6
     try clear c7
     try clear hcz5_0
     try clear hcz5_1
     try clear hfz5_0
     try clear hfz5_1
     try clear p2
     obtain ⟨x3_2, x5_2, x7_2, rfl, rfl, HA, HK2, HO_3, BK241, HB⟩ := hrel
     cases gk with
     | zero => exact absurd HA.out (by simp [platbookref01_Bits.l1])
     | succ k2 =>
      have H := HA.out
      clear HA
      simp only [platbookref01_Bits.l1] at H
      by_cases c9 : x7_2 < 64
      ·
       rw [if_pos c9] at H
       have c9b0 : decide (x7_2 < 64) = true := decide_eq_true c9
       clear c9
       by_cases c10 : x3_2.length < 17592186044416
       ·
        rw [if_pos c10] at H
        have LMc10 := Aside0.mk c10
        clear c10
        obtain ⟨y248, hy248⟩ : ∃ y_ : List Int, y_ = (x3_2 ++ [wrap64 (Int.tmod x5_2 2)]) := ⟨_, rfl⟩
        replace H : (platbookref01_Bits.l1 k2 y248 (IntKind.u64.wrap (Int.tdiv x5_2 2)) (wrap64 (x7_2 + 1))) = some r := by first | (rw [hy248]; with_reducible exact H) | (have H2_ := (Option.bind_some _ _).symm.trans H; rw [hy248]; with_reducible exact H2_) | (have H2_ := (Option.bind_some _ _).symm.trans H; with_reducible exact H2_) | with_reducible exact H | (rw [hy248]; exact H) | exact H
        have Ny248 := Aside0.mk hy248
        clear hy248
        have H' := Aside0.mk H
        clear H
        go_wp2_with (first | ((with_reducible refine gate_builtin (b := .append) (xs := #[.tmp 29, .tmp 33]) rfl ?_); at_builtin; refine Kd.R_append (Kd.int .i64) (w0 := w) w.heap.size rfl (.tmp 29) (.tmp 33) 52 3 (.int .i64 0) 8 rfl Tryz.underlying52 info3 rfl (by decide) (by omega) u3 x3_2 (wrap64 (Int.tmod x5_2 2)) [.int .i64 (wrap64 (Int.tmod x5_2 2))] (fun _ => True) (fun _ => False) rfl rfl ?aP (fun _ hk => hk.elim) ?aF ?aO ?aB ?aS ?aL ?_; (case aP => exact rfl); (case aB => exact (pb_ HB)); (case aF => exact (fun _ _ => trivial)); (case aO => exact (by (with_reducible repeat (first | apply Kd.R_alloc | apply Kd.R_drewN | apply Kd.R_drew)); exact HO_3.out)); (case aS => exact (below_size (pb_ HB))); (case aL => have := LMc10.out; omega); intro v249 w11 ho hb hg hat; rw [← Ny248.out] at ho; have HO250 := Aside0.mk (ho); replace BK241 := Aside0.mk (blk_grown (g := gb241) (o := .cells #[.int .u64 a0_0, .int .u64 a0_1] 24 (0, 0)) (pk_ BK241) hg (Kd.R_ne HO_3.out BK241.out (by decide))); replace HB := Aside0.mk (hb); clear HO_3; clear ho hb hg hat))
        go_roundg k2
        case measure => have := HK1.out; have := HK2.out; omega
        case rel => exact ⟨(y248), (IntKind.u64.wrap (Int.tdiv x5_2 2)), (wrap64 (x7_2 + 1)), (by first | rfl | (simp; done) | (simp [*]; done)), (by first | rfl | (simp; done) | (simp [*]; done)), H', ⟨by have := HK1.out; have := HK2.out; omega⟩, ⟨by (with_reducible repeat (first | apply Kd.R_alloc | apply Kd.R_drewN | apply Kd.R_drew)); exact HO250.out⟩, ⟨by refine pw_ ?_; exact BK241.out⟩, ⟨pb_ HB⟩⟩
       ·
        rw [if_neg c10] at H
        exact absurd H (by simp)
      ·
       rw [if_neg c9] at H
       have c9b0 : decide (x7_2 < 64) = false := decide_eq_false c9
       clear c9
       obtain rfl := Option.some.inj H
       go_wp2
       go_ret
       exact ⟨_, by first | rfl | (simp [errW_none, errW_some] <;> rfl) | (simp [*, errW_none, errW_some] <;> rfl), by (with_reducible repeat (first | apply Kd.R_alloc | apply Kd.R_drewN | apply Kd.R_drew)); exact HO_3.out, pb_ HB⟩

def platbookref03_Row.l0 : Nat → List Int → List Int → Int → Option (List Int)
 | 0, _, _, _ => none
 | k + 1, x3, x4, x5 => if x5 ≥ 0 then (if 0 ≤ x5 then (if x5 < (x3.length : Int) then (if x4.length < 17592186044416 then (platbookref03_Row.l0 k x3 (x4 ++ [rd x3 x5]) (wrap64 (x5 - 1))) else (none)) else (none)) else (none)) else (some x4)
def platbookref03_Row.f (k : Nat) (a0_0 : Bool) (a0_1 : Int) (a0_2 : Int) : Option (List Int) := (platbookref01_Bits.f k a0_1 a0_2).bind fun t252 => ((platbookref02_Width.f a0_0 a0_1 a0_2).bind fun t258 => (platbookref03_Row.l0 k t252 (([] : List Int)) (wrap64 (t258 - 1))))
set_option maxHeartbeats 8000000 in
set_option maxRecDepth 100000 in
theorem platbookref03_Row.calls (k : Nat) (a0_0 : Bool) (a0_1 : Int) (a0_2 : Int) (r : List Int) (w : World) (h : platbookref03_Row.f k a0_0 a0_1 a0_2 = some r) :
  Calls Tryz.prog 107 #[.agg #[.bool a0_0, .int .u64 a0_1, .int .u64 a0_2]] w fun e w' => ∃ v0_ : Value, e = .returned (v0_) ∧ Kd.R (Kd.int .i64) 3 w' w.heap.size (fun _ => True) v0_ r ∧ Below w.heap.size w w' := by
 have hu26 := Tryz.underlying26
 have hu24 := Tryz.underlying24
 have HB := Aside0.mk (Below.refl w.heap.size w)
 have H : ((platbookref01_Bits.f k a0_1 a0_2).bind fun t252 => ((platbookref02_Width.f a0_0 a0_1 a0_2).bind fun t258 => (platbookref03_Row.l0 k t252 (([] : List Int)) (wrap64 (t258 - 1))))) = some r := h
 clear h
 replace H := Option.bind_eq_some_iff.mp H
 obtain ⟨t252, A20, H⟩ := H
 replace H : ((platbookref02_Width.f a0_0 a0_1 a0_2).bind fun t258 => (platbookref03_Row.l0 k t252 (([] : List Int)) (wrap64 (t258 - 1)))) = some r := H
 have A2 := Aside0.mk A20
 clear A20
 obtain ⟨y255, hy255⟩ : ∃ y_ : List Int, y_ = (([] : List Int)) := ⟨_, rfl⟩
 replace H : ((platbookref02_Width.f a0_0 a0_1 a0_2).bind fun t258 => (platbookref03_Row.l0 k t252 y255 (wrap64 (t258 - 1)))) = some r := by first | (rw [hy255]; with_reducible exact H) | (have H2_ := (Option.bind_some _ _).symm.trans H; rw [hy255]; with_reducible exact H2_) | (have H2_ := (Option.bind_some _ _).symm.trans H; with_reducible exact H2_) | with_reducible exact H | (rw [hy255]; exact H) | exact H
 have Ny255 := Aside0.mk hy255
 clear hy255
 replace H := Option.bind_eq_some_iff.mp H
 obtain ⟨t258, A30, H⟩ := H
 replace H : (platbookref03_Row.l0 k t252 y255 (wrap64 (t258 - 1))) = some r := H
 have A3 := Aside0.mk A30
 clear A30
 have H' := Aside0.mk H
 clear H
 go_enter Tryz.func107, Tryz.ntmps107
 go_wp2_with (first | ((with_reducible refine gate_dst (N := 1) rfl ?_); refine bx_ 1 #[.bool a0_0, .int .u64 a0_1, .int .u64 a0_2] 26 ?_; intro gb251 hg w4 hbox hb; have BK251 := Aside0.mk (hbox); have GW251 := gw_ HB hg; have GE251 := gw_ HB hg; replace HB := bs_ HB hb; clear hb hbox hg; obtain ⟨hcz5_0, hcz5_1, hcz5_2, hfz5_0, hfz5_1, hfz5_2⟩ := c3_ BK251) | ((with_reducible refine gate_callee (f := 145) rfl ?_); refine gl_ (some 8) Tryz.func145 #[.agg #[.int .u64 a0_1, .int .u64 a0_2]] ?_; (with_reducible refine (platbookref01_Bits.calls k a0_1 a0_2 t252 _ A2.out).mono ?_); rintro e w6 ⟨v253, rfl, ho0, hb⟩; refine ⟨_, rfl, ?_⟩; have HO254 := Aside0.mk (Kd.R_lower ho0 (below_size (pb_ HB))); replace BK251 := bb_ BK251 hb; replace HB := bs_ HB hb; (try clear hb); (try clear hb2); (try clear hk); (try clear hi); (try clear ho0)) | ((with_reducible refine gate_dst (N := 9) rfl ?_); refine Kd.R_lit (Kd.int .i64) _ 3 ?hg (N := 9) ?hd (xs := ([] : List Int)) (inner := []) (ok := fun _ => True) (okp := fun _ => True) ?hr ?hp (fun _ hk => hk) trivial (Below.refl _ _) (Nat.le_refl _) (by simp) ?_; (case hd => rfl); (case hg => rfl); (case hr => first | (go_simp; done) | (go_simp; rfl)); (case hp => exact (Reps.none _ _)); intro v256 w7 ho8 hb hg_ hnew_; clear hg_ hnew_; (first | rw [← Ny255.out] at ho8 | (simp only [Int.reduceToNat] at ho8; rw [← Ny255.out] at ho8)); have HO257 := Aside0.mk (Kd.R_lower (Kd.R_new' ho8 (Kd.R_lt (by (with_reducible repeat (first | apply Kd.R_alloc | apply Kd.R_drewN | apply Kd.R_drew)); exact HO254.out))) (below_size (pb_ HB))); replace HO254 := Aside0.mk (Kd.R_elder' (by (with_reducible repeat (first | apply Kd.R_alloc | apply Kd.R_drewN | apply Kd.R_drew)); exact HO254.out) (Kd.R_base ho8) hb); replace BK251 := bb_ BK251 hb; replace HB := bs_ HB hb; clear hb ho8; obtain ⟨hcz9_0, hcz9_1, hcz9_2, hfz9_0, hfz9_1, hfz9_2⟩ := c3_ BK251) | ((with_reducible refine gate_callee (f := 67) rfl ?_); refine gl_ (some 11) Tryz.func67 #[.agg #[.bool a0_0, .int .u64 a0_1, .int .u64 a0_2]] ?_; (with_reducible refine (platbookref02_Width.calls a0_0 a0_1 a0_2 t258 _ A3.out).mono ?_); rintro e w10 ⟨rfl, hb⟩; refine ⟨_, rfl, ?_⟩; replace HO254 := Aside0.mk (Kd.R_below (by (with_reducible repeat (first | apply Kd.R_alloc | apply Kd.R_drewN | apply Kd.R_drew)); exact HO254.out) hb); replace HO257 := Aside0.mk (Kd.R_below (by (with_reducible repeat (first | apply Kd.R_alloc | apply Kd.R_drewN | apply Kd.R_drew)); exact HO257.out) hb); replace BK251 := bb_ BK251 hb; replace HB := bs_ HB hb; (try clear hb); (try clear hb2); (try clear hk); (try clear hi)))
 go_loopg [4, 5] k (fun kq v4 v5 w' => ∃ (x4_1 : List Int) (x5_1 : Int), v5 = .int .i64 x5_1 ∧ Aside0 (platbookref03_Row.l0 kq t252 x4_1 x5_1 = some r) ∧ Aside0 (kq ≤ k) ∧ Aside0 (Kd.R (Kd.int .i64) 3 w' w.heap.size (fun k_ => some k_ ≠ (v4 : Value).ownBlock) v253 t252) ∧ Aside0 (Kd.R (Kd.int .i64) 3 w' w.heap.size (fun k_ => some k_ ≠ (v253 : Value).ownBlock) v4 x4_1) ∧ Aside0 (w'.heap[gb251]? = some (.cells #[.bool a0_0, .int .u64 a0_1, .int .u64 a0_2] 26 (0, 0))) ∧ Aside0 (Below w.heap.size w w'))
 case atStart => exact ⟨(y255), (wrap64 (t258 - 1)), (by first | rfl | (simp; done) | (simp [*]; done)), H', ⟨Nat.le_refl _⟩, ⟨by (with_reducible repeat (first | apply Kd.R_alloc | apply Kd.R_drewN | apply Kd.R_drew)); exact Kd.R_mono HO254.out (fun _ hk => hk.2)⟩, ⟨by (with_reducible repeat (first | apply Kd.R_alloc | apply Kd.R_drewN | apply Kd.R_drew)); exact Kd.R_mono HO257.out (fun _ hk => hk.2)⟩, ⟨by refine pw_ ?_; exact BK251.out⟩, ⟨pb_ HB⟩⟩
 case round =>
  clear H'
  try clear c1
  try clear p2
  try clear c6
  try clear p6
  try clear c10
  try clear hcz5_0
  try clear hcz5_1
  try clear hcz5_2
  try clear hcz9_0
  try clear hcz9_1
  try clear hcz9_2
  try clear hfz5_0
  try clear hfz5_1
  try clear hfz5_2
  try clear hfz9_0
  try clear hfz9_1
  try clear hfz9_2
  obtain ⟨x4_1, x5_1, rfl, HA, HK1, HO_3, HO_4, BK251, HB⟩ := hrel
  cases gk with
  | zero => exact absurd HA.out (by simp [platbookref03_Row.l0])
  | succ k1 =>
   have H := HA.out
   clear HA
   simp only [platbookref03_Row.l0] at H
   by_cases c11 : x5_1 ≥ 0
   ·
    rw [if_pos c11] at H
    have c11b0 : decide (0 ≤ x5_1) = true := decide_eq_true c11
    clear c11
    by_cases c12 : 0 ≤ x5_1
    ·
     rw [if_pos c12] at H
     have c12b0 : decide (0 ≤ x5_1) = true := decide_eq_true c12
     clear c12
     by_cases c13 : x5_1 < (t252.length : Int)
     ·
      rw [if_pos c13] at H
      have c13b0 : decide (x5_1 < (t252.length : Int)) = true := decide_eq_true c13
      clear c13
      by_cases c14 : x4_1.length < 17592186044416
      ·
       rw [if_pos c14] at H
       have LMc14 := Aside0.mk c14
       clear c14
       obtain ⟨y260, hy260⟩ : ∃ y_ : List Int, y_ = (x4_1 ++ [rd t252 x5_1]) := ⟨_, rfl⟩
       replace H : (platbookref03_Row.l0 k1 t252 y260 (wrap64 (x5_1 - 1))) = some r := by first | (rw [hy260]; with_reducible exact H) | (have H2_ := (Option.bind_some _ _).symm.trans H; rw [hy260]; with_reducible exact H2_) | (have H2_ := (Option.bind_some _ _).symm.trans H; with_reducible exact H2_) | with_reducible exact H | (rw [hy260]; exact H) | exact H
       have Ny260 := Aside0.mk hy260
       clear hy260
       have H' := Aside0.mk H
       clear H
       obtain ⟨Ao15, co15, eo15⟩ := Kd.R_slice HO_3.out
       subst eo15
       have p259 : 0 ≤ (x5_1 : Int) := of_decide_eq_true (by first | (with_reducible assumption) | assumption)
       have q259 : x5_1 < (t252.length : Int) := of_decide_eq_true (by first | (with_reducible assumption) | assumption)
       obtain ⟨ad259, e259, hx259_0⟩ := Kd.at_int (Kd.R_reads' HO_3.out).2.2 x5_1 p259 q259
       cases e259
       replace p259 := eq_true p259
       replace q259 := eq_true q259
       go_wp2_with (first | ((with_reducible refine gate_builtin (b := .append) (xs := #[.tmp 17, .tmp 22]) rfl ?_); at_builtin; refine Kd.R_append (Kd.int .i64) (w0 := w) w.heap.size rfl (.tmp 17) (.tmp 22) 52 3 (.int .i64 0) 8 rfl Tryz.underlying52 info3 rfl (by decide) (by omega) u4 x4_1 (rd t252 x5_1) [.int .i64 (rd t252 x5_1)] (fun k_ => some k_ ≠ (.slice (some ad259) t252.length co15 : Value).ownBlock) (fun _ => False) rfl rfl ?aP (fun _ hk => hk.elim) ?aF ?aO ?aB ?aS ?aL ?_; (case aP => exact rfl); (case aB => exact (pb_ HB)); (case aF => exact (fun k_ hk => Kd.fresh' (Kd.R_lt (by (with_reducible repeat (first | apply Kd.R_alloc | apply Kd.R_drewN | apply Kd.R_drew)); exact HO_3.out)) k_ hk)); (case aO => exact (by (with_reducible repeat (first | apply Kd.R_alloc | apply Kd.R_drewN | apply Kd.R_drew)); exact HO_4.out)); (case aS => exact (below_size (pb_ HB))); (case aL => have := LMc14.out; omega); intro v261 w16 ho hb hg hat; rw [← Ny260.out] at ho; have HO262 := Aside0.mk (ho); replace HO_3 := Aside0.mk (Kd.R_after (ok := (fun _ => True)) (by (with_reducible repeat (first | apply Kd.R_alloc | apply Kd.R_drewN | apply Kd.R_drew)); exact Kd.R_mono HO_3.out (fun _ hk => ⟨trivial, hk⟩)) hg hat); replace BK251 := Aside0.mk (blk_grown (g := gb251) (o := .cells #[.bool a0_0, .int .u64 a0_1, .int .u64 a0_2] 26 (0, 0)) (pk_ BK251) hg (Kd.R_ne HO_4.out BK251.out (by decide))); replace HB := Aside0.mk (hb); clear HO_4; clear ho hb hg hat))
       go_roundg k1
       case measure => have := HK1.out; omega
       case rel => exact ⟨(y260), (wrap64 (x5_1 - 1)), (by first | rfl | (simp; done) | (simp [*]; done)), H', ⟨by have := HK1.out; omega⟩, ⟨by (with_reducible repeat (first | apply Kd.R_alloc | apply Kd.R_drewN | apply Kd.R_drew)); exact Kd.R_mono HO_3.out (fun _ hk => hk.2)⟩, ⟨by (with_reducible repeat (first | apply Kd.R_alloc | apply Kd.R_drewN | apply Kd.R_drew)); exact HO262.out⟩, ⟨by refine pw_ ?_; exact BK251.out⟩, ⟨pb_ HB⟩⟩
      ·
       rw [if_neg c14] at H
       exact absurd H (by simp)
     ·
      rw [if_neg c13] at H
      exact absurd H (by simp)
    ·
     rw [if_neg c12] at H
     exact absurd H (by simp)
   ·
    rw [if_neg c11] at H
    have c11b0 : decide (0 ≤ x5_1) = false := decide_eq_false c11
    clear c11
    obtain rfl := Option.some.inj H
    go_wp2
    go_ret
    exact ⟨_, by first | rfl | (simp [errW_none, errW_some] <;> rfl) | (simp [*, errW_none, errW_some] <;> rfl), by (with_reducible repeat (first | apply Kd.R_alloc | apply Kd.R_drewN | apply Kd.R_drew)); exact Kd.R_mono HO_4.out (fun _ hk => trivial), pb_ HB⟩

mutual
def platbookref01_Num.l0 : Nat → List Int → Int → Int → Int → Option (Int × Int)
 | 0, _, _, _, _ => none
 | k + 1, x0, x4, x265000, x265001 => if x4 ≥ 64 then (if x4 < (x0.length : Int) then (if 0 ≤ x4 then (platbookref01_Num.l0 k x0 (wrap64 (x4 - 1)) (IntKind.u64.wrap ((IntKind.u64.wrap (x265000 * 2)) + (IntKind.u64.wrap (rd x0 x4)))) x265001) else (none)) else (platbookref01_Num.l0 k x0 (wrap64 (x4 - 1)) (IntKind.u64.wrap (x265000 * 2)) x265001)) else (platbookref01_Num.l1 k x0 63 x265000 x265001)
def platbookref01_Num.l1 : Nat → List Int → Int → Int → Int → Option (Int × Int)
 | 0, _, _, _, _ => none
 | k + 1, x0, x5, x265000, x265001 => if x5 ≥ 0 then (if x5 < (x0.length : Int) then (if 0 ≤ x5 then (platbookref01_Num.l1 k x0 (wrap64 (x5 - 1)) x265000 (IntKind.u64.wrap ((IntKind.u64.wrap (x265001 * 2)) + (IntKind.u64.wrap (rd x0 x5))))) else (none)) else (platbookref01_Num.l1 k x0 (wrap64 (x5 - 1)) x265000 (IntKind.u64.wrap (x265001 * 2)))) else (some (x265000, x265001))
end
def platbookref01_Num.f (k : Nat) (l0 : List Int) : Option (Int × Int) := platbookref01_Num.l0 k l0 127 0 0
def platbookref01_Num.T7 : Bool × List (List Nat × List Nat) := (true, [([], []), ([0], [0]), ([], []), ([], []), ([2, 3], [2, 3]), ([4], [4]), ([5], [5]), ([1, 6], [1, 6]), ([0, 1, 2, 3, 4, 5, 6, 7], []), ([8, 7, 0, 1, 2, 3, 4, 5, 6, 7], [7, 8])])
def platbookref01_Num.B7 : List Nat := [0, 1, 0, 0, 12, 28, 60, 127, 255, 511]
theorem platbookref01_Num.tab7 : rtab .any (opsOf Tryz.f170 7) = platbookref01_Num.T7 := by kernel_rfl
theorem platbookref01_Num.bits7 : waitsOk platbookref01_Num.T7.2 platbookref01_Num.B7 = true := by kernel_rfl
def platbookref01_Num.T13 : Bool × List (List Nat × List Nat) := (true, [([], []), ([0], [0]), ([], []), ([], []), ([2, 3], [2, 3]), ([4], [4]), ([5], [5]), ([1, 6], [1, 6]), ([0, 1, 2, 3, 4, 5, 6, 7], []), ([8, 7, 0, 1, 2, 3, 4, 5, 6, 7], [7, 8])])
def platbookref01_Num.B13 : List Nat := [0, 1, 0, 0, 12, 28, 60, 127, 255, 511]
theorem platbookref01_Num.tab13 : rtab .any (opsOf Tryz.f170 13) = platbookref01_Num.T13 := by kernel_rfl
theorem platbookref01_Num.bits13 : waitsOk platbookref01_Num.T13.2 platbookref01_Num.B13 = true := by kernel_rfl
set_option maxHeartbeats 8000000 in
set_option maxRecDepth 100000 in
theorem platbookref01_Num.calls (k : Nat) (A0 : Option Addr) (c0 : Nat) (l0 : List Int) (r1 : Int) (r2 : Int) (w : World) (hr0 : Kd.C (Kd.int .i64) w A0 l0.length l0) (hc0 : l0.length ≤ c0) (h : platbookref01_Num.f k l0 = some (r1, r2)) :
  Calls Tryz.prog 170 #[.slice A0 l0.length c0] w fun e w' => e = .returned (.agg #[.int .u64 r1, .int .u64 r2]) ∧ Below w.heap.size w w' := by
 have hu24 := Tryz.underlying24
 have HR0 := Aside0.mk hr0
 have HC0 := Aside0.mk hc0
 clear hr0 hc0
 have HB := Aside0.mk (Below.refl w.heap.size w)
 have H : (platbookref01_Num.l0 k l0 127 0 0) = some (r1, r2) := h
 clear h
 have H' := Aside0.mk H
 clear H
 go_enter Tryz.func170, Tryz.ntmps170
 go_wp2_with (first | ((with_reducible refine gate_dst (N := 2) rfl ?_); refine bx_ 2 #[.int .u64 0, .int .u64 0] 24 ?_; intro gb263 hg w2 hbox hb; have BK263 := Aside0.mk (hbox); have GW263 := gw_ HB hg; have GE263 := gw_ HB hg; replace HB := bs_ HB hb; clear hb hbox hg) | ((with_reducible refine gate_dst (N := 3) rfl ?_); refine bx_ 3 #[.int .u64 0, .int .u64 0] 24 ?_; intro gb264 hg w3 hbox hb; have BK264 := Aside0.mk (hbox); have GW264 := gw_ HB hg; have GE264 := gw_ HB hg; have NB263_264 := nl_ BK263 hg; have NB264_263 := ng_ BK263 hg; replace BK263 := bb_ BK263 hb; replace HB := bs_ HB hb; clear hb hbox hg; have hnb4 := NB264_263.out; have hnc4 := NB263_264.out; obtain ⟨hcz5_0, hcz5_1, hfz5_0, hfz5_1⟩ := c2_ BK264))
 go_loopg [4] k (fun kq v4 w' => ∃ (x4_1 : Int) (x265000_1 : Int), v4 = .int .i64 x4_1 ∧ Aside0 (platbookref01_Num.l0 kq l0 x4_1 x265000_1 0 = some (r1, r2)) ∧ Aside0 (kq ≤ k) ∧ Aside0 (w'.heap[gb263]? = some (.cells #[.int .u64 0, .int .u64 0] 24 (0, 0))) ∧ Aside0 (w'.heap[gb264]? = some (.cells #[.int .u64 x265000_1, .int .u64 0] 24 (0, 0))) ∧ Aside0 (Below w.heap.size w w'))
 case atStart => exact ⟨(127), (0), (by first | rfl | (simp; done) | (simp [*]; done)), H', ⟨Nat.le_refl _⟩, ⟨by refine pw_ ?_; refine blk_far ?_ NB263_264.out _; refine pw_ ?_; refine blk_far ?_ NB263_264.out _; refine pw_ ?_; exact BK263.out⟩, ⟨by refine pw_ ?_; refine blk_put (cs := #[.int .u64 0, .int .u64 0]) ?_ 1 _ rfl; refine pw_ ?_; refine blk_put (cs := #[.int .u64 0, .int .u64 0]) ?_ 0 _ rfl; refine pw_ ?_; exact BK264.out⟩, ⟨pb_ HB⟩⟩
 case round =>
  clear H'
  try clear c1
  try clear p2
  try clear c4
  try clear hcz5_0
  try clear hcz5_1
  try clear hfz5_0
  try clear hfz5_1
  obtain ⟨x4_1, x265000_1, rfl, HA, HK1, BK263, BK264, HB⟩ := hrel
  cases gk with
  | zero => exact absurd HA.out (by simp [platbookref01_Num.l0])
  | succ k1 =>
   have H := HA.out
   clear HA
   simp only [platbookref01_Num.l0] at H
   by_cases c6 : x4_1 ≥ 64
   ·
    rw [if_pos c6] at H
    have c6b0 : decide (64 ≤ x4_1) = true := decide_eq_true c6
    clear c6
    by_cases c7 : x4_1 < (l0.length : Int)
    ·
     rw [if_pos c7] at H
     have c7b0 : decide (x4_1 < (l0.length : Int)) = true := decide_eq_true c7
     clear c7
     by_cases c8 : 0 ≤ x4_1
     ·
      rw [if_pos c8] at H
      have c8b0 : decide (0 ≤ x4_1) = true := decide_eq_true c8
      clear c8
      have H' := Aside0.mk H
      clear H
      have hnb9 := NB264_263.out
      have hnc9 := NB263_264.out
      obtain ⟨hcz10_0, hcz10_1, hfz10_0, hfz10_1⟩ := c2_ BK264
      try go_wp2
      have n0_ : Aside0 ((wr.setCell ⟨gb264, 0, none⟩ (.int .u64 (IntKind.u64.wrap (x265000_1 * 2)))).heap[gb263]? = some (.cells #[.int .u64 0, .int .u64 0] 24 (0, 0))) := ⟨by refine pw_ ?_; refine blk_far ?_ NB263_264.out _; refine pw_ ?_; exact BK263.out⟩
      have n1_ : Aside0 ((wr.setCell ⟨gb264, 0, none⟩ (.int .u64 (IntKind.u64.wrap (x265000_1 * 2)))).heap[gb264]? = some (.cells #[.int .u64 (IntKind.u64.wrap (x265000_1 * 2)), .int .u64 0] 24 (0, 0))) := ⟨by refine pw_ ?_; refine blk_put (cs := #[.int .u64 x265000_1, .int .u64 0]) ?_ 0 _ rfl; refine pw_ ?_; exact BK264.out⟩
      have n2_ : Aside0 (Below w.heap.size w (wr.setCell ⟨gb264, 0, none⟩ (.int .u64 (IntKind.u64.wrap (x265000_1 * 2))))) := ⟨pb_ HB⟩
      (try clear BK263)
      (try clear BK264)
      (try clear HB)
      generalize (wr.setCell ⟨gb264, 0, none⟩ (.int .u64 (IntKind.u64.wrap (x265000_1 * 2)))) = w11 at n0_ n1_ n2_ ⊢
      have BK263 := n0_
      have BK264 := n1_
      have HB := n2_
      clear n0_ n1_ n2_
      replace BK263 := Aside0.mk (blk_drew BK263.out)
      replace BK264 := Aside0.mk (blk_drew BK264.out)
      replace HB := Aside0.mk (below_drew1 HB.out)
      have p265 : 0 ≤ (x4_1 : Int) := of_decide_eq_true (by first | (with_reducible assumption) | assumption)
      have q265 : x4_1 < (l0.length : Int) := of_decide_eq_true (by first | (with_reducible assumption) | assumption)
      obtain ⟨ad265, e265, hx265_0⟩ := Kd.at_int HR0.out x4_1 p265 q265
      have hw265_0 := hx265_0
      cases e265
      replace hx265_0 := (HB.out.cell (World.block_lt_of_cell? w _ hx265_0)).trans hx265_0
      replace p265 := eq_true p265
      replace q265 := eq_true q265
      refine start_ (n := 10) (S := fun w' => w'.cell? ⟨gb264, 0, none⟩ = some (.int .u64 (IntKind.u64.wrap (x265000_1 * 2))) ∧ w'.cell? ⟨gb264, 1, none⟩ = some (.int .u64 0) ∧ w'.cell? (ad265.add (x4_1).toNat) = some (.int .i64 (rd l0 x4_1))) (ds := [9]) (bm_ 10 0) (by kernel_rfl) rfl rfl ⟨kc_ BK264 0, kc_ BK264 1, ((HB.out.cell (World.block_lt_of_cell? w _ hw265_0)).trans hw265_0)⟩ (fun hHeld => ?_); refine with_tabW platbookref01_Num.tab7 platbookref01_Num.bits7 (fun HT_ HW_ => ?_)
      generalize w11.drew = w12 at BK263 BK264 HB hx265_0 hHeld ⊢
      refine pu_ 0 (some 19) (bm_ 10 1) rfl HT_ ⟨by rfl, by intro w'; go_simp; with_reducible rfl⟩ ?_
      refine pu_ 2 (some 21) (bm_ 10 5) rfl HT_ ⟨by rfl, by intro w'; go_simp; with_reducible rfl⟩ ?_
      refine pu_ 3 (some 22) (bm_ 10 13) rfl HT_ ⟨by rfl, by intro w'; go_simp; with_reducible rfl⟩ ?_
      refine pu_ 4 (some 23) (bm_ 10 29) rfl HT_ ⟨by rfl, by intro w'; go_simp; with_reducible rfl⟩ ?_
      refine ta_ 1 (some 20) (bm_ 10 31) rfl HT_ HW_ ⟨by rfl, by rintro w' ⟨s0, s1, s2⟩; go_simp; with_reducible rfl⟩ hHeld ?_
      refine ta_ 5 (some 24) (bm_ 10 63) rfl HT_ HW_ ⟨by rfl, by rintro w' ⟨s0, s1, s2⟩; go_simp; with_reducible rfl⟩ hHeld ?_
      refine pu_ 6 (some 25) (bm_ 10 127) rfl HT_ ⟨by rfl, by intro w'; go_simp; with_reducible rfl⟩ ?_
      refine pu_ 7 (some 26) (bm_ 10 255) rfl HT_ ⟨by rfl, by intro w'; go_simp; with_reducible rfl⟩ ?_
      refine pu_ 8 (some 27) (bm_ 10 511) rfl HT_ ⟨by rfl, by intro w'; go_simp; with_reducible rfl⟩ ?_
      refine last_ (i := 9) (N := none) (bm_ 10 1023) rfl rfl (one_of HT_.out (by kernel_rfl)) (by decide) (fun K hK => ?_)
      have hs13 : w12.cell? ⟨gb264, 0, none⟩ = some (.int .u64 (IntKind.u64.wrap (x265000_1 * 2))) := kc_ BK264 0
      have hfs13 := blk_frozen BK264.out 0
      have hns13_0 := NB263_264.out
      have hms13_0 := NB264_263.out
      refine skip_ (w1 := ?_) (by rfl) rfl ?_ ?_
      rotate_left
      ·
       go_simp
       rfl
      refine hK.out _ _ ?_
      clear hK K
      refine done_ (done_of HT_.out (by kernel_rfl)) ?_
      try go_wp2
      go_roundg k1
      case measure => have := HK1.out; omega
      case rel => exact ⟨(wrap64 (x4_1 - 1)), (IntKind.u64.wrap ((IntKind.u64.wrap (x265000_1 * 2)) + (IntKind.u64.wrap (rd l0 x4_1)))), (by first | rfl | (simp; done) | (simp [*]; done)), H', ⟨by have := HK1.out; omega⟩, ⟨by refine pw_ ?_; refine blk_far ?_ NB263_264.out _; refine pw_ ?_; exact BK263.out⟩, ⟨by refine pw_ ?_; refine blk_put (cs := #[.int .u64 (IntKind.u64.wrap (x265000_1 * 2)), .int .u64 0]) ?_ 0 _ rfl; refine pw_ ?_; exact BK264.out⟩, ⟨pb_ HB⟩⟩
     ·
      rw [if_neg c8] at H
      exact absurd H (by simp)
    ·
     rw [if_neg c7] at H
     have c7b0 : decide (x4_1 < (l0.length : Int)) = false := decide_eq_false c7
     clear c7
     have H' := Aside0.mk H
     clear H
     have hnb14 := NB264_263.out
     have hnc14 := NB263_264.out
     obtain ⟨hcz15_0, hcz15_1, hfz15_0, hfz15_1⟩ := c2_ BK264
     go_wp2
     go_roundg k1
     case measure => have := HK1.out; omega
     case rel => exact ⟨(wrap64 (x4_1 - 1)), (IntKind.u64.wrap (x265000_1 * 2)), (by first | rfl | (simp; done) | (simp [*]; done)), H', ⟨by have := HK1.out; omega⟩, ⟨by refine pw_ ?_; refine blk_far ?_ NB263_264.out _; refine pw_ ?_; exact BK263.out⟩, ⟨by refine pw_ ?_; refine blk_put (cs := #[.int .u64 x265000_1, .int .u64 0]) ?_ 0 _ rfl; refine pw_ ?_; exact BK264.out⟩, ⟨pb_ HB⟩⟩
   ·
    rw [if_neg c6] at H
    have c6b0 : decide (64 ≤ x4_1) = false := decide_eq_false c6
    clear c6
    have H' := Aside0.mk H
    clear H
    go_wp2
    go_loopg [5] k1 (fun kq v5 w' => ∃ (x5_2 : Int) (x265001_2 : Int), v5 = .int .i64 x5_2 ∧ Aside0 (platbookref01_Num.l1 kq l0 x5_2 x265000_1 x265001_2 = some (r1, r2)) ∧ Aside0 (kq ≤ k1) ∧ Aside0 (w'.heap[gb263]? = some (.cells #[.int .u64 0, .int .u64 0] 24 (0, 0))) ∧ Aside0 (w'.heap[gb264]? = some (.cells #[.int .u64 x265000_1, .int .u64 x265001_2] 24 (0, 0))) ∧ Aside0 (Below w.heap.size w w'))
    case atStart => exact ⟨(63), (0), (by first | rfl | (simp; done) | (simp [*]; done)), H', ⟨Nat.le_refl _⟩, ⟨by refine pw_ ?_; exact BK263.out⟩, ⟨by refine pw_ ?_; exact BK264.out⟩, ⟨pb_ HB⟩⟩
    case round =>
     clear H'
     try clear c1
     try clear p2
     try clear q2
     try clear hx2
     try clear c4
     try clear c6
     try clear c6b0
     try clear p6
     try clear c7
     try clear c7b0
     try clear c8
     try clear c8b0
     try clear c9
     try clear c14
     try clear hcz10_0
     try clear hcz10_1
     try clear hcz15_0
     try clear hcz15_1
     try clear hcz5_0
     try clear hcz5_1
     try clear hfz10_0
     try clear hfz10_1
     try clear hfz15_0
     try clear hfz15_1
     try clear hfz5_0
     try clear hfz5_1
     try clear hx265_0
     try clear p2
     try clear p265
     try clear q265
     obtain ⟨x5_2, x265001_2, rfl, HA, HK2, BK263, BK264, HB⟩ := hrel
     cases gk with
     | zero => exact absurd HA.out (by simp [platbookref01_Num.l1])
     | succ k2 =>
      have H := HA.out
      clear HA
      simp only [platbookref01_Num.l1] at H
      by_cases c16 : x5_2 ≥ 0
      ·
       rw [if_pos c16] at H
       have c16b0 : decide (0 ≤ x5_2) = true := decide_eq_true c16
       clear c16
       by_cases c17 : x5_2 < (l0.length : Int)
       ·
        rw [if_pos c17] at H
        have c17b0 : decide (x5_2 < (l0.length : Int)) = true := decide_eq_true c17
        clear c17
        by_cases c18 : 0 ≤ x5_2
        ·
         rw [if_pos c18] at H
         have c18b0 : decide (0 ≤ x5_2) = true := decide_eq_true c18
         clear c18
         have H' := Aside0.mk H
         clear H
         have hnb19 := NB264_263.out
         have hnc19 := NB263_264.out
         obtain ⟨hcz20_0, hcz20_1, hfz20_0, hfz20_1⟩ := c2_ BK264
         try go_wp2
         have n0_ : Aside0 ((wr.setCell ⟨gb264, 1, none⟩ (.int .u64 (IntKind.u64.wrap (x265001_2 * 2)))).heap[gb263]? = some (.cells #[.int .u64 0, .int .u64 0] 24 (0, 0))) := ⟨by refine pw_ ?_; refine blk_far ?_ NB263_264.out _; refine pw_ ?_; exact BK263.out⟩
         have n1_ : Aside0 ((wr.setCell ⟨gb264, 1, none⟩ (.int .u64 (IntKind.u64.wrap (x265001_2 * 2)))).heap[gb264]? = some (.cells #[.int .u64 x265000_1, .int .u64 (IntKind.u64.wrap (x265001_2 * 2))] 24 (0, 0))) := ⟨by refine pw_ ?_; refine blk_put (cs := #[.int .u64 x265000_1, .int .u64 x265001_2]) ?_ 1 _ rfl; refine pw_ ?_; exact BK264.out⟩
         have n2_ : Aside0 (Below w.heap.size w (wr.setCell ⟨gb264, 1, none⟩ (.int .u64 (IntKind.u64.wrap (x265001_2 * 2))))) := ⟨pb_ HB⟩
         (try clear BK263)
         (try clear BK264)
         (try clear HB)
         generalize (wr.setCell ⟨gb264, 1, none⟩ (.int .u64 (IntKind.u64.wrap (x265001_2 * 2)))) = w21 at n0_ n1_ n2_ ⊢
         have BK263 := n0_
         have BK264 := n1_
         have HB := n2_
         clear n0_ n1_ n2_
         replace BK263 := Aside0.mk (blk_drew BK263.out)
         replace BK264 := Aside0.mk (blk_drew BK264.out)
         replace HB := Aside0.mk (below_drew1 HB.out)
         have p266 : 0 ≤ (x5_2 : Int) := of_decide_eq_true (by first | (with_reducible assumption) | assumption)
         have q266 : x5_2 < (l0.length : Int) := of_decide_eq_true (by first | (with_reducible assumption) | assumption)
         obtain ⟨ad266, e266, hx266_0⟩ := Kd.at_int HR0.out x5_2 p266 q266
         have hw266_0 := hx266_0
         cases e266
         replace hx266_0 := (HB.out.cell (World.block_lt_of_cell? w _ hx266_0)).trans hx266_0
         replace p266 := eq_true p266
         replace q266 := eq_true q266
         refine start_ (n := 10) (S := fun w' => w'.cell? ⟨gb264, 0, none⟩ = some (.int .u64 x265000_1) ∧ w'.cell? ⟨gb264, 1, none⟩ = some (.int .u64 (IntKind.u64.wrap (x265001_2 * 2))) ∧ w'.cell? (ad266.add (x5_2).toNat) = some (.int .i64 (rd l0 x5_2))) (ds := [9]) (bm_ 10 0) (by kernel_rfl) rfl rfl ⟨kc_ BK264 0, kc_ BK264 1, ((HB.out.cell (World.block_lt_of_cell? w _ hw266_0)).trans hw266_0)⟩ (fun hHeld => ?_); refine with_tabW platbookref01_Num.tab13 platbookref01_Num.bits13 (fun HT_ HW_ => ?_)
         generalize w21.drew = w22 at BK263 BK264 HB hx266_0 hHeld ⊢
         refine pu_ 0 (some 40) (bm_ 10 1) rfl HT_ ⟨by rfl, by intro w'; go_simp; with_reducible rfl⟩ ?_
         refine pu_ 2 (some 42) (bm_ 10 5) rfl HT_ ⟨by rfl, by intro w'; go_simp; with_reducible rfl⟩ ?_
         refine pu_ 3 (some 43) (bm_ 10 13) rfl HT_ ⟨by rfl, by intro w'; go_simp; with_reducible rfl⟩ ?_
         refine pu_ 4 (some 44) (bm_ 10 29) rfl HT_ ⟨by rfl, by intro w'; go_simp; with_reducible rfl⟩ ?_
         refine ta_ 1 (some 41) (bm_ 10 31) rfl HT_ HW_ ⟨by rfl, by rintro w' ⟨s0, s1, s2⟩; go_simp; with_reducible rfl⟩ hHeld ?_
         refine ta_ 5 (some 45) (bm_ 10 63) rfl HT_ HW_ ⟨by rfl, by rintro w' ⟨s0, s1, s2⟩; go_simp; with_reducible rfl⟩ hHeld ?_
         refine pu_ 6 (some 46) (bm_ 10 127) rfl HT_ ⟨by rfl, by intro w'; go_simp; with_reducible rfl⟩ ?_
         refine pu_ 7 (some 47) (bm_ 10 255) rfl HT_ ⟨by rfl, by intro w'; go_simp; with_reducible rfl⟩ ?_
         refine pu_ 8 (some 48) (bm_ 10 511) rfl HT_ ⟨by rfl, by intro w'; go_simp; with_reducible rfl⟩ ?_
         refine last_ (i := 9) (N := none) (bm_ 10 1023) rfl rfl (one_of HT_.out (by kernel_rfl)) (by decide) (fun K hK => ?_)
         have hs23 : w22.cell? ⟨gb264, 1, none⟩ = some (.int .u64 (IntKind.u64.wrap (x265001_2 * 2))) := kc_ BK264 1
         have hfs23 := blk_frozen BK264.out 1
         have hns23_0 := NB263_264.out
         have hms23_0 := NB264_263.out
         refine skip_ (w1 := ?_) (by rfl) rfl ?_ ?_
         rotate_left
         ·
          go_simp
          rfl
         refine hK.out _ _ ?_
         clear hK K
         refine done_ (done_of HT_.out (by kernel_rfl)) ?_
         try go_wp2
         go_roundg k2
         case measure => have := HK1.out; have := HK2.out; omega
         case rel => exact ⟨(wrap64 (x5_2 - 1)), (IntKind.u64.wrap ((IntKind.u64.wrap (x265001_2 * 2)) + (IntKind.u64.wrap (rd l0 x5_2)))), (by first | rfl | (simp; done) | (simp [*]; done)), H', ⟨by have := HK1.out; have := HK2.out; omega⟩, ⟨by refine pw_ ?_; refine blk_far ?_ NB263_264.out _; refine pw_ ?_; exact BK263.out⟩, ⟨by refine pw_ ?_; refine blk_put (cs := #[.int .u64 x265000_1, .int .u64 (IntKind.u64.wrap (x265001_2 * 2))]) ?_ 1 _ rfl; refine pw_ ?_; exact BK264.out⟩, ⟨pb_ HB⟩⟩
        ·
         rw [if_neg c18] at H
         exact absurd H (by simp)
       ·
        rw [if_neg c17] at H
        have c17b0 : decide (x5_2 < (l0.length : Int)) = false := decide_eq_false c17
        clear c17
        have H' := Aside0.mk H
        clear H
        have hnb24 := NB264_263.out
        have hnc24 := NB263_264.out
        obtain ⟨hcz25_0, hcz25_1, hfz25_0, hfz25_1⟩ := c2_ BK264
        go_wp2
        go_roundg k2
        case measure => have := HK1.out; have := HK2.out; omega
        case rel => exact ⟨(wrap64 (x5_2 - 1)), (IntKind.u64.wrap (x265001_2 * 2)), (by first | rfl | (simp; done) | (simp [*]; done)), H', ⟨by have := HK1.out; have := HK2.out; omega⟩, ⟨by refine pw_ ?_; refine blk_far ?_ NB263_264.out _; refine pw_ ?_; exact BK263.out⟩, ⟨by refine pw_ ?_; refine blk_put (cs := #[.int .u64 x265000_1, .int .u64 x265001_2]) ?_ 1 _ rfl; refine pw_ ?_; exact BK264.out⟩, ⟨pb_ HB⟩⟩
      ·
       rw [if_neg c16] at H
       have c16b0 : decide (0 ≤ x5_2) = false := decide_eq_false c16
       clear c16
       simp only [Option.some.injEq, Prod.mk.injEq] at H
       obtain ⟨rfl, rfl⟩ := H
       have hnb26 := NB264_263.out
       have hnc26 := NB263_264.out
       obtain ⟨hcz27_0, hcz27_1, hfz27_0, hfz27_1⟩ := c2_ BK264
       obtain ⟨hcz28_0, hcz28_1, hfz28_0, hfz28_1⟩ := c2_ BK263
       go_wp2
       refine bodyPost_ret (results_cell_row rfl _ _ gb263 24 #[.int .u64 x265000_1, .int .u64 x265001_2] (0, 0) _ rfl (by refine pw_ ?_; refine blk_put (cs := #[.int .u64 x265000_1, .int .u64 0]) ?_ 1 _ rfl; refine pw_ ?_; refine blk_put (cs := #[.int .u64 0, .int .u64 0]) ?_ 0 _ rfl; refine pw_ ?_; exact BK263.out) Tryz.underlying24 rfl (by kernel_rfl)) rfl ?_
       exact ⟨by first | rfl | (simp [errW_none, errW_some] <;> rfl) | (simp [*, errW_none, errW_some] <;> rfl), pb_ HB⟩

def platbookref03_Addr.l0 : Nat → Bool → List Int → List Int → Int → Option (Bool × Int × Int)
 | 0, _, _, _, _ => none
 | k + 1, x0, x1, x5, x6 => if x6 ≥ 0 then (if 0 ≤ x6 then (if x6 < (x1.length : Int) then (if x5.length < 17592186044416 then (platbookref03_Addr.l0 k x0 x1 (x5 ++ [rd x1 x6]) (wrap64 (x6 - 1))) else (none)) else (none)) else (none)) else ((platbookref01_Num.f k x5).bind fun bt275 => (some (x0, bt275.1, bt275.2)))
def platbookref03_Addr.f (k : Nat) (a0 : Bool) (l1 : List Int) : Option (Bool × Int × Int) := platbookref03_Addr.l0 k a0 l1 (([] : List Int)) (wrap64 ((l1.length : Int) - 1))
set_option maxHeartbeats 8000000 in
set_option maxRecDepth 100000 in
theorem platbookref03_Addr.calls (k : Nat) (a0 : Bool) (A1 : Option Addr) (c1 : Nat) (l1 : List Int) (r1 : Bool) (r2 : Int) (r3 : Int) (w : World) (hr1 : Kd.C (Kd.int .i64) w A1 l1.length l1) (hc1 : l1.length ≤ c1) (h : platbookref03_Addr.f k a0 l1 = some (r1, r2, r3)) :
  Calls Tryz.prog 146 #[.bool a0, .slice A1 l1.length c1] w fun e w' => e = .returned (.agg #[.bool r1, .int .u64 r2, .int .u64 r3]) ∧ Below w.heap.size w w' := by
 have hu26 := Tryz.underlying26
 have HR1 := Aside0.mk hr1
 have HC1 := Aside0.mk hc1
 clear hr1 hc1
 have HB := Aside0.mk (Below.refl w.heap.size w)
 have H : (platbookref03_Addr.l0 k a0 l1 (([] : List Int)) (wrap64 ((l1.length : Int) - 1))) = some (r1, r2, r3) := h
 clear h
 obtain ⟨y268, hy268⟩ : ∃ y_ : List Int, y_ = (([] : List Int)) := ⟨_, rfl⟩
 replace H : (platbookref03_Addr.l0 k a0 l1 y268 (wrap64 ((l1.length : Int) - 1))) = some (r1, r2, r3) := by first | (rw [hy268]; with_reducible exact H) | (have H2_ := (Option.bind_some _ _).symm.trans H; rw [hy268]; with_reducible exact H2_) | (have H2_ := (Option.bind_some _ _).symm.trans H; with_reducible exact H2_) | with_reducible exact H | (rw [hy268]; exact H) | exact H
 have Ny268 := Aside0.mk hy268
 clear hy268
 have H' := Aside0.mk H
 clear H
 go_enter Tryz.func146, Tryz.ntmps146
 go_wp2_with (first | ((with_reducible refine gate_dst (N := 4) rfl ?_); refine bx_ 4 #[.bool false, .int .u64 0, .int .u64 0] 26 ?_; intro gb267 hg w3 hbox hb; have BK267 := Aside0.mk (hbox); have GW267 := gw_ HB hg; have GE267 := gw_ HB hg; replace HB := bs_ HB hb; clear hb hbox hg) | ((with_reducible refine gate_dst (N := 7) rfl ?_); refine Kd.R_lit (Kd.int .i64) _ 3 ?hg (N := 7) ?hd (xs := ([] : List Int)) (inner := []) (ok := fun _ => True) (okp := fun _ => True) ?hr ?hp (fun _ hk => hk) trivial (Below.refl _ _) (Nat.le_refl _) (by simp) ?_; (case hd => rfl); (case hg => rfl); (case hr => first | (go_simp; done) | (go_simp; rfl)); (case hp => exact (Reps.none _ _)); intro v269 w4 ho5 hb hg_ hnew_; clear hg_ hnew_; (first | rw [← Ny268.out] at ho5 | (simp only [Int.reduceToNat] at ho5; rw [← Ny268.out] at ho5)); have HO270 := Aside0.mk (Kd.R_lower ho5 (below_size (pb_ HB))); replace BK267 := bb_ BK267 hb; replace HB := bs_ HB hb; clear hb ho5))
 go_loopg [5, 6] k (fun kq v5 v6 w' => ∃ (x5_1 : List Int) (x6_1 : Int), v6 = .int .i64 x6_1 ∧ Aside0 (platbookref03_Addr.l0 kq a0 l1 x5_1 x6_1 = some (r1, r2, r3)) ∧ Aside0 (kq ≤ k) ∧ Aside0 (Kd.R (Kd.int .i64) 3 w' w.heap.size (fun _ => True) v5 x5_1) ∧ Aside0 (w'.heap[gb267]? = some (.cells #[.bool false, .int .u64 0, .int .u64 0] 26 (0, 0))) ∧ Aside0 (Below w.heap.size w w'))
 case atStart => exact ⟨(y268), (wrap64 ((l1.length : Int) - 1)), (by first | rfl | (simp; done) | (simp [*]; done)), H', ⟨Nat.le_refl _⟩, ⟨by (with_reducible repeat (first | apply Kd.R_alloc | apply Kd.R_drewN | apply Kd.R_drew)); exact HO270.out⟩, ⟨by refine pw_ ?_; exact BK267.out⟩, ⟨pb_ HB⟩⟩
 case round =>
  clear H'
  try clear c1
  try clear p2
  obtain ⟨x5_1, x6_1, rfl, HA, HK1, HO_5, BK267, HB⟩ := hrel
  cases gk with
  | zero => exact absurd HA.out (by simp [platbookref03_Addr.l0])
  | succ k1 =>
   have H := HA.out
   clear HA
   simp only [platbookref03_Addr.l0] at H
   by_cases c6 : x6_1 ≥ 0
   ·
    rw [if_pos c6] at H
    have c6b0 : decide (0 ≤ x6_1) = true := decide_eq_true c6
    clear c6
    by_cases c7 : 0 ≤ x6_1
    ·
     rw [if_pos c7] at H
     have c7b0 : decide (0 ≤ x6_1) = true := decide_eq_true c7
     clear c7
     by_cases c8 : x6_1 < (l1.length : Int)
     ·
      rw [if_pos c8] at H
      have c8b0 : decide (x6_1 < (l1.length : Int)) = true := decide_eq_true c8
      clear c8
      by_cases c9 : x5_1.length < 17592186044416
      ·
       rw [if_pos c9] at H
       have LMc9 := Aside0.mk c9
       clear c9
       obtain ⟨y272, hy272⟩ : ∃ y_ : List Int, y_ = (x5_1 ++ [rd l1 x6_1]) := ⟨_, rfl⟩
       replace H : (platbookref03_Addr.l0 k1 a0 l1 y272 (wrap64 (x6_1 - 1))) = some (r1, r2, r3) := by first | (rw [hy272]; with_reducible exact H) | (have H2_ := (Option.bind_some _ _).symm.trans H; rw [hy272]; with_reducible exact H2_) | (have H2_ := (Option.bind_some _ _).symm.trans H; with_reducible exact H2_) | with_reducible exact H | (rw [hy272]; exact H) | exact H
       have Ny272 := Aside0.mk hy272
       clear hy272
       have H' := Aside0.mk H
       clear H
       have p271 : 0 ≤ (x6_1 : Int) := of_decide_eq_true (by first | (with_reducible assumption) | assumption)
       have q271 : x6_1 < (l1.length : Int) := of_decide_eq_true (by first | (with_reducible assumption) | assumption)
       obtain ⟨ad271, e271, hx271_0⟩ := Kd.at_int HR1.out x6_1 p271 q271
       cases e271
       replace hx271_0 := (HB.out.cell (World.block_lt_of_cell? w _ hx271_0)).trans hx271_0
       replace p271 := eq_true p271
       replace q271 := eq_true q271
       go_wp2_with (first | ((with_reducible refine gate_builtin (b := .append) (xs := #[.tmp 15, .tmp 20]) rfl ?_); at_builtin; refine Kd.R_append (Kd.int .i64) (w0 := w) w.heap.size rfl (.tmp 15) (.tmp 20) 52 3 (.int .i64 0) 8 rfl Tryz.underlying52 info3 rfl (by decide) (by omega) u5 x5_1 (rd l1 x6_1) [.int .i64 (rd l1 x6_1)] (fun _ => True) (fun _ => False) rfl rfl ?aP (fun _ hk => hk.elim) ?aF ?aO ?aB ?aS ?aL ?_; (case aP => exact rfl); (case aB => exact (pb_ HB)); (case aF => exact (fun _ _ => trivial)); (case aO => exact (by (with_reducible repeat (first | apply Kd.R_alloc | apply Kd.R_drewN | apply Kd.R_drew)); exact HO_5.out)); (case aS => exact (below_size (pb_ HB))); (case aL => have := LMc9.out; omega); intro v273 w10 ho hb hg hat; rw [← Ny272.out] at ho; have HO274 := Aside0.mk (ho); replace BK267 := Aside0.mk (blk_grown (g := gb267) (o := .cells #[.bool false, .int .u64 0, .int .u64 0] 26 (0, 0)) (pk_ BK267) hg (Kd.R_ne HO_5.out BK267.out (by decide))); replace HB := Aside0.mk (hb); clear HO_5; clear ho hb hg hat))
       go_roundg k1
       case measure => have := HK1.out; omega
       case rel => exact ⟨(y272), (wrap64 (x6_1 - 1)), (by first | rfl | (simp; done) | (simp [*]; done)), H', ⟨by have := HK1.out; omega⟩, ⟨by (with_reducible repeat (first | apply Kd.R_alloc | apply Kd.R_drewN | apply Kd.R_drew)); exact HO274.out⟩, ⟨by refine pw_ ?_; exact BK267.out⟩, ⟨pb_ HB⟩⟩
      ·
       rw [if_neg c9] at H
       exact absurd H (by simp)
     ·
      rw [if_neg c8] at H
      exact absurd H (by simp)
    ·
     rw [if_neg c7] at H
     exact absurd H (by simp)
   ·
    rw [if_neg c6] at H
    have c6b0 : decide (0 ≤ x6_1) = false := decide_eq_false c6
    clear c6
    replace H := Option.bind_eq_some_iff.mp H
    obtain ⟨⟨t275, t276⟩, A110, H⟩ := H
    replace H : (some (a0, t275, t276)) = some (r1, r2, r3) := H
    have A11 := Aside0.mk A110
    clear A110
    simp only [Option.some.injEq, Prod.mk.injEq] at H
    obtain ⟨rfl, rfl, rfl⟩ := H
    obtain ⟨Ao12, co12, eo12⟩ := Kd.R_slice HO_5.out
    subst eo12
    go_wp2_with (first | ((with_reducible refine gate_callee (f := 170) rfl ?_); refine gl_ (some 24) Tryz.func170 #[.slice Ao12 x5_1.length co12] ?_; (with_reducible refine (platbookref01_Num.calls k1 _ _ x5_1 t275 t276 _ ?side1 ?side2 A11.out).mono ?_); (case side1 => repeat (first | exact (Kd.R_reads' HO_5.out).2.2 | (with_reducible refine Kd.C_alloc ?_ _) | (with_reducible refine Kd.C_drewN ?_ _) | (with_reducible refine Kd.C_drew ?_))); (case side2 => exact (Kd.R_reads' HO_5.out).2.1); rintro e w13 ⟨rfl, hb⟩; refine ⟨_, rfl, ?_⟩; replace HO_5 := Aside0.mk (Kd.R_below (by (with_reducible repeat (first | apply Kd.R_alloc | apply Kd.R_drewN | apply Kd.R_drew)); exact HO_5.out) hb); replace BK267 := bb_ BK267 hb; replace HB := bs_ HB hb; (try clear hb); (try clear hb2); (try clear hk); (try clear hi); obtain ⟨hcz14_0, hcz14_1, hcz14_2, hfz14_0, hfz14_1, hfz14_2⟩ := c3_ BK267))
    refine bodyPost_ret (results_cell_row rfl _ _ gb267 26 #[.bool a0, .int .u64 t275, .int .u64 t276] (0, 0) _ rfl (by refine pw_ ?_; refine blk_put (cs := #[.bool a0, .int .u64 t275, .int .u64 0]) ?_ 2 _ rfl; refine pw_ ?_; refine blk_put (cs := #[.bool a0, .int .u64 0, .int .u64 0]) ?_ 1 _ rfl; refine pw_ ?_; refine blk_put (cs := #[.bool false, .int .u64 0, .int .u64 0]) ?_ 0 _ rfl; refine pw_ ?_; exact BK267.out) Tryz.underlying26 rfl (by kernel_rfl)) rfl ?_
    exact ⟨by first | rfl | (simp [errW_none, errW_some] <;> rfl) | (simp [*, errW_none, errW_some] <;> rfl), pb_ HB⟩

end Go.Proofs.YtpfilldnfpcpkaaGreatDoor.PPo

namespace Go.Proofs.YtpfilldnfpcpkaaGreatDoor.PPo
open Go.RowKit Go.Proofs.YtpfilldnfpcpkaaGreatDoorW.PrintWords Go.Proofs.YtpfilldnfpcpkaaGreatDoorW.PrintLast Go.Proofs.YtpfilldnfpcpkaaGreatDoorW.PrintMore
attribute [local go_sem] max2_int min2_int max_two min_two max_three min_three max_four min_four   -- for this text's walks alone

attribute [local go_sem high] eqA26
def platbookref03_Filled.l0 : Nat → Int → List Int → Int → Bool → Int → Int → Option (Bool × Int × Int)
 | 0, _, _, _, _, _, _ => none
 | k + 1, x2, x7, x8, x278000, x278001, x278002 => if x8 < (x7.length : Int) then (if 0 ≤ x8 then (platbookref03_Filled.l0 k x2 (x7.set (x8 : Int).toNat x2) (wrap64 (x8 + 1)) x278000 x278001 x278002) else (none)) else ((platbookref03_Addr.f k x278000 x7).bind fun bt283 => (some (bt283.1, bt283.2.1, bt283.2.2)))
def platbookref03_Filled.f (k : Nat) (a0_0 : Bool) (a0_1 : Int) (a0_2 : Int) (a1 : Int) (a2 : Int) : Option (Bool × Int × Int) := (platbookref03_Row.f k a0_0 a0_1 a0_2).bind fun t279 => (platbookref03_Filled.l0 k a2 t279 a1 a0_0 a0_1 a0_2)
set_option maxHeartbeats 8000000 in
set_option maxRecDepth 100000 in
theorem platbookref03_Filled.calls (k : Nat) (a0_0 : Bool) (a0_1 : Int) (a0_2 : Int) (a1 : Int) (a2 : Int) (r1 : Bool) (r2 : Int) (r3 : Int) (w : World) (h : platbookref03_Filled.f k a0_0 a0_1 a0_2 a1 a2 = some (r1, r2, r3)) :
  Calls Tryz.prog 108 #[.agg #[.bool a0_0, .int .u64 a0_1, .int .u64 a0_2], .int .i64 a1, .int .i64 a2] w fun e w' => e = .returned (.agg #[.bool r1, .int .u64 r2, .int .u64 r3]) ∧ Below w.heap.size w w' := by
 have hu26 := Tryz.underlying26
 have HB := Aside0.mk (Below.refl w.heap.size w)
 have H : ((platbookref03_Row.f k a0_0 a0_1 a0_2).bind fun t279 => (platbookref03_Filled.l0 k a2 t279 a1 a0_0 a0_1 a0_2)) = some (r1, r2, r3) := h
 clear h
 replace H := Option.bind_eq_some_iff.mp H
 obtain ⟨t279, A40, H⟩ := H
 replace H : (platbookref03_Filled.l0 k a2 t279 a1 a0_0 a0_1 a0_2) = some (r1, r2, r3) := H
 have A4 := Aside0.mk A40
 clear A40
 have H' := Aside0.mk H
 clear H
 go_enter Tryz.func108, Tryz.ntmps108
 go_wp2_with (first | ((with_reducible refine gate_dst (N := 3) rfl ?_); refine bx_ 3 #[.bool a0_0, .int .u64 a0_1, .int .u64 a0_2] 26 ?_; intro gb277 hg w5 hbox hb; have BK277 := Aside0.mk (hbox); have GW277 := gw_ HB hg; have GE277 := gw_ HB hg; replace HB := bs_ HB hb; clear hb hbox hg) | ((with_reducible refine gate_dst (N := 6) rfl ?_); refine bx_ 6 #[.bool false, .int .u64 0, .int .u64 0] 26 ?_; intro gb278 hg w6 hbox hb; have BK278 := Aside0.mk (hbox); have GW278 := gw_ HB hg; have GE278 := gw_ HB hg; have NB277_278 := nl_ BK277 hg; have NB278_277 := ng_ BK277 hg; replace BK277 := bb_ BK277 hb; replace HB := bs_ HB hb; clear hb hbox hg; have hnb7 := NB277_278.out; have hnc7 := NB278_277.out; obtain ⟨hcz8_0, hcz8_1, hcz8_2, hfz8_0, hfz8_1, hfz8_2⟩ := c3_ BK277) | ((with_reducible refine gate_callee (f := 107) rfl ?_); refine gl_ (some 10) Tryz.func107 #[.agg #[.bool a0_0, .int .u64 a0_1, .int .u64 a0_2]] ?_; (with_reducible refine (platbookref03_Row.calls k a0_0 a0_1 a0_2 t279 _ A4.out).mono ?_); rintro e w9 ⟨v280, rfl, ho0, hb⟩; refine ⟨_, rfl, ?_⟩; have HO281 := Aside0.mk (Kd.R_lower ho0 (below_size (pb_ HB))); replace BK277 := bb_ BK277 hb; replace BK278 := bb_ BK278 hb; replace HB := bs_ HB hb; (try clear hb); (try clear hb2); (try clear hk); (try clear hi); (try clear ho0)))
 go_loopg [8] k (fun kq v8 w' => ∃ (x7_1 : List Int) (x8_1 : Int), v8 = .int .i64 x8_1 ∧ Aside0 (platbookref03_Filled.l0 kq a2 x7_1 x8_1 a0_0 a0_1 a0_2 = some (r1, r2, r3)) ∧ Aside0 (kq ≤ k) ∧ Aside0 (Kd.R (Kd.int .i64) 3 w' w.heap.size (fun _ => True) v280 x7_1) ∧ Aside0 (w'.heap[gb277]? = some (.cells #[.bool a0_0, .int .u64 a0_1, .int .u64 a0_2] 26 (0, 0))) ∧ Aside0 (w'.heap[gb278]? = some (.cells #[.bool false, .int .u64 0, .int .u64 0] 26 (0, 0))) ∧ Aside0 (Below w.heap.size w w'))
 case atStart => exact ⟨(t279), (a1), (by first | rfl | (simp; done) | (simp [*]; done)), H', ⟨Nat.le_refl _⟩, ⟨by (with_reducible repeat (first | apply Kd.R_alloc | apply Kd.R_drewN | apply Kd.R_drew)); exact HO281.out⟩, ⟨by refine pw_ ?_; exact BK277.out⟩, ⟨by refine pw_ ?_; exact BK278.out⟩, ⟨pb_ HB⟩⟩
 case round =>
  clear H'
  try clear c1
  try clear p2
  try clear c7
  try clear hcz8_0
  try clear hcz8_1
  try clear hcz8_2
  try clear hfz8_0
  try clear hfz8_1
  try clear hfz8_2
  obtain ⟨x7_1, x8_1, rfl, HA, HK1, HO_7, BK277, BK278, HB⟩ := hrel
  cases gk with
  | zero => exact absurd HA.out (by simp [platbookref03_Filled.l0])
  | succ k1 =>
   have H := HA.out
   clear HA
   simp only [platbookref03_Filled.l0] at H
   by_cases c10 : x8_1 < (x7_1.length : Int)
   ·
    rw [if_pos c10] at H
    have c10b0 : decide (x8_1 < (x7_1.length : Int)) = true := decide_eq_true c10
    clear c10
    by_cases c11 : 0 ≤ x8_1
    ·
     rw [if_pos c11] at H
     have c11b0 : decide (0 ≤ x8_1) = true := decide_eq_true c11
     clear c11
     obtain ⟨y282, hy282⟩ : ∃ y_ : List Int, y_ = (x7_1.set (x8_1 : Int).toNat a2) := ⟨_, rfl⟩
     replace H : (platbookref03_Filled.l0 k1 a2 y282 (wrap64 (x8_1 + 1)) a0_0 a0_1 a0_2) = some (r1, r2, r3) := by first | (rw [hy282]; with_reducible exact H) | (have H2_ := (Option.bind_some _ _).symm.trans H; rw [hy282]; with_reducible exact H2_) | (have H2_ := (Option.bind_some _ _).symm.trans H; with_reducible exact H2_) | with_reducible exact H | (rw [hy282]; exact H) | exact H
     have Ny282 := Aside0.mk hy282
     clear hy282
     have H' := Aside0.mk H
     clear H
     obtain ⟨Ao13, co13, eo13⟩ := Kd.R_slice HO_7.out
     subst eo13
     have p12 : 0 ≤ (x8_1 : Int) := of_decide_eq_true (by first | (with_reducible assumption) | assumption)
     have q12 : (x8_1 : Int) < ((x7_1.length : Int) : Int) := of_decide_eq_true (by first | (with_reducible assumption) | assumption)
     obtain ⟨go12, co12, eo12, gb12, gl12, cl12, HG12⟩ := Kd.R_form HO_7.out (by omega)
     (first | cases eo12 | (injection eo12 with ea_ en_ ec_; (first | subst ea_ | (injection ea_ with ea_; subst ea_)); subst ec_; clear en_))
     have GB12 := Aside0.mk gb12
     have GG12 := Aside0.mk HG12
     clear gb12 gl12 HG12
     obtain ⟨hx12_0, hf12_0⟩ := Kd.R_celln 0 HO_7.out (x8_1 : Int) p12 q12
     replace p12 := eq_true p12
     replace q12 := eq_true q12
     have HP14 := Kd.R_putg HO_7.out (x8_1 : Int) a2
     go_wp2_with (first | ((with_reducible refine gate_store (t := 3) (p := 21) rfl ?_); refine store_event (t := 3) (p := 21) (v := ?vo_w15) (w1 := (wr.setCell ⟨go12, (x8_1 : Int).toNat, none⟩ (.int .i64 a2))) ?hg ?ho ?hn ?hr ?_; (case ho => rfl); (case hg => rfl); (case hn => rfl); (case hr => first | (go_simp; done) | (go_simp; rfl)); intro w15 hw; have hg : wr.grownBy w15 (some go12) := (by rw [hw]; exact HP14.2); have hp_ : Kd.R (Kd.int .i64) 3 w15 w.heap.size (fun _ => True) (.slice (some ⟨go12, 0, none⟩) x7_1.length co13) y282 := (by rw [hw, Ny282.out]; exact HP14.1); clear HP14; have n0_ := Aside0.mk (hp_); have n1_ := Aside0.mk (blk_grown (g := gb277) (o := .cells #[.bool a0_0, .int .u64 a0_1, .int .u64 a0_2] 26 (0, 0)) (pk_ BK277) hg (Kd.R_ne HO_7.out BK277.out (by decide))); have n2_ := Aside0.mk (blk_grown (g := gb278) (o := .cells #[.bool false, .int .u64 0, .int .u64 0] 26 (0, 0)) (pk_ BK278) hg (Kd.R_ne HO_7.out BK278.out (by decide))); have n3_ := Aside0.mk ((by rw [hw]; exact below_set (HB.out) GB12.out : Below w.heap.size w w15)); clear HO_7; clear BK277; clear BK278; clear HB; have HO_7 := n0_; have BK277 := n1_; have BK278 := n2_; have HB := n3_; clear n0_ n1_ n2_ n3_; clear hg hw hp_))
     go_roundg k1
     case measure => have := HK1.out; omega
     case rel => exact ⟨(y282), (wrap64 (x8_1 + 1)), (by first | rfl | (simp; done) | (simp [*]; done)), H', ⟨by have := HK1.out; omega⟩, ⟨by (with_reducible repeat (first | apply Kd.R_alloc | apply Kd.R_drewN | apply Kd.R_drew)); exact HO_7.out⟩, ⟨by refine pw_ ?_; exact BK277.out⟩, ⟨by refine pw_ ?_; exact BK278.out⟩, ⟨pb_ HB⟩⟩
    ·
     rw [if_neg c11] at H
     exact absurd H (by simp)
   ·
    rw [if_neg c10] at H
    have c10b0 : decide (x8_1 < (x7_1.length : Int)) = false := decide_eq_false c10
    clear c10
    replace H := Option.bind_eq_some_iff.mp H
    obtain ⟨⟨t283, t284, t285⟩, A160, H⟩ := H
    replace H : (some (t283, t284, t285)) = some (r1, r2, r3) := H
    have A16 := Aside0.mk A160
    clear A160
    simp only [Option.some.injEq, Prod.mk.injEq] at H
    obtain ⟨rfl, rfl, rfl⟩ := H
    obtain ⟨Ao17, co17, eo17⟩ := Kd.R_slice HO_7.out
    subst eo17
    have hnb18 := NB277_278.out
    have hnc18 := NB278_277.out
    obtain ⟨hcz19_0, hcz19_1, hcz19_2, hfz19_0, hfz19_1, hfz19_2⟩ := c3_ BK277
    go_wp2_with (first | ((with_reducible refine gate_callee (f := 146) rfl ?_); refine gl_ (some 25) Tryz.func146 #[.bool a0_0, .slice Ao17 x7_1.length co17] ?_; (with_reducible refine (platbookref03_Addr.calls k1 a0_0 _ _ x7_1 t283 t284 t285 _ ?side1 ?side2 A16.out).mono ?_); (case side1 => repeat (first | exact (Kd.R_reads' HO_7.out).2.2 | (with_reducible refine Kd.C_alloc ?_ _) | (with_reducible refine Kd.C_drewN ?_ _) | (with_reducible refine Kd.C_drew ?_))); (case side2 => exact (Kd.R_reads' HO_7.out).2.1); rintro e w20 ⟨rfl, hb⟩; refine ⟨_, rfl, ?_⟩; replace HO_7 := Aside0.mk (Kd.R_below (by (with_reducible repeat (first | apply Kd.R_alloc | apply Kd.R_drewN | apply Kd.R_drew)); exact HO_7.out) hb); replace BK277 := bb_ BK277 hb; replace BK278 := bb_ BK278 hb; replace HB := bs_ HB hb; (try clear hb); (try clear hb2); (try clear hk); (try clear hi); obtain ⟨hcz21_0, hcz21_1, hcz21_2, hfz21_0, hfz21_1, hfz21_2⟩ := c3_ BK278))
    refine bodyPost_ret (results_cell_row rfl _ _ gb278 26 #[.bool t283, .int .u64 t284, .int .u64 t285] (0, 0) _ rfl (by refine pw_ ?_; refine blk_put (cs := #[.bool t283, .int .u64 t284, .int .u64 0]) ?_ 2 _ rfl; refine pw_ ?_; refine blk_put (cs := #[.bool t283, .int .u64 0, .int .u64 0]) ?_ 1 _ rfl; refine pw_ ?_; refine blk_put (cs := #[.bool false, .int .u64 0, .int .u64 0]) ?_ 0 _ rfl; refine pw_ ?_; exact BK278.out) Tryz.underlying26 rfl (by kernel_rfl)) rfl ?_
    exact ⟨by first | rfl | (simp [errW_none, errW_some] <;> rfl) | (simp [*, errW_none, errW_some] <;> rfl), pb_ HB⟩

def platbookref03_Right.f (k : Nat) (a0_0 : Bool) (a0_1 : Int) (a0_2 : Int) (a0_3 : Int) : Option (Bool) := (platbookref02_Right.f a0_0 a0_1 a0_2).bind fun t287 => (if t287 = true then (if a0_3 < 0 then (some false) else ((platbookref02_Width.f a0_0 a0_1 a0_2).bind fun t288 => (if a0_3 > t288 then (some false) else ((platbookref03_Filled.f k a0_0 a0_1 a0_2 a0_3 0).bind fun bt289 => (some (bt289.1 == a0_0 && ((bt289.2.1 == a0_1 && (bt289.2.2 == a0_2))))))))) else (some false))
def platbookref03_Right.T1 : Bool × List (List Nat × List Nat) := (true, [([], []), ([0], [0]), ([1], [1]), ([2], [2]), ([3, 2], [3]), ([4], [4]), ([5, 4], [4, 5]), ([6, 4], [4, 6]), ([4, 7], [4, 7]), ([8, 4], [8]), ([9], [9]), ([10, 9], [9, 10]), ([9], [9]), ([12, 9], [9, 12]), ([13, 9, 9], [9, 13]), ([11, 14, 9], [9, 11, 14]), ([9, 15], [9, 15])])
def platbookref03_Right.B1 : List Nat := [0, 1, 3, 7, 15, 31, 63, 127, 255, 511, 1023, 2047, 1023, 5119, 13311, 32767, 65535]
theorem platbookref03_Right.tab1 : rtab .any (opsOf Tryz.f55 1) = platbookref03_Right.T1 := by kernel_rfl
theorem platbookref03_Right.bits1 : waitsOk platbookref03_Right.T1.2 platbookref03_Right.B1 = true := by kernel_rfl
def platbookref03_Right.T3 : Bool × List (List Nat × List Nat) := (true, [([], []), ([0], [0]), ([], []), ([2], [2]), ([1, 3], [1, 3]), ([], []), ([5], [5]), ([4, 6], [4, 6]), ([7, 4, 0, 1, 2, 3, 4, 5, 6, 7], [7])])
def platbookref03_Right.B3 : List Nat := [0, 1, 0, 4, 15, 0, 32, 127, 255]
theorem platbookref03_Right.tab3 : rtab .any (opsOf Tryz.f55 3) = platbookref03_Right.T3 := by kernel_rfl
theorem platbookref03_Right.bits3 : waitsOk platbookref03_Right.T3.2 platbookref03_Right.B3 = true := by kernel_rfl
set_option maxHeartbeats 8000000 in
set_option maxRecDepth 100000 in
theorem platbookref03_Right.calls (k : Nat) (a0_0 : Bool) (a0_1 : Int) (a0_2 : Int) (a0_3 : Int) (r : Bool) (w : World) (h : platbookref03_Right.f k a0_0 a0_1 a0_2 a0_3 = some r) :
  Calls Tryz.prog 55 #[.agg #[.bool a0_0, .int .u64 a0_1, .int .u64 a0_2, .int .i64 a0_3]] w fun e w' => e = .returned (.bool r) ∧ Below w.heap.size w w' := by
 have hu28 := Tryz.underlying28
 have hu26 := Tryz.underlying26
 have HB := Aside0.mk (Below.refl w.heap.size w)
 have H : ((platbookref02_Right.f a0_0 a0_1 a0_2).bind fun t287 => (if t287 = true then (if a0_3 < 0 then (some false) else ((platbookref02_Width.f a0_0 a0_1 a0_2).bind fun t288 => (if a0_3 > t288 then (some false) else ((platbookref03_Filled.f k a0_0 a0_1 a0_2 a0_3 0).bind fun bt289 => (some (bt289.1 == a0_0 && ((bt289.2.1 == a0_1 && (bt289.2.2 == a0_2))))))))) else (some false))) = some r := h
 clear h
 replace H := Option.bind_eq_some_iff.mp H
 obtain ⟨t287, A20, H⟩ := H
 replace H : (if t287 = true then (if a0_3 < 0 then (some false) else ((platbookref02_Width.f a0_0 a0_1 a0_2).bind fun t288 => (if a0_3 > t288 then (some false) else ((platbookref03_Filled.f k a0_0 a0_1 a0_2 a0_3 0).bind fun bt289 => (some (bt289.1 == a0_0 && ((bt289.2.1 == a0_1 && (bt289.2.2 == a0_2))))))))) else (some false)) = some r := H
 have A2 := Aside0.mk A20
 clear A20
 by_cases c3 : t287 = true
 ·
  subst c3
  rw [if_pos rfl] at H
  by_cases c4 : a0_3 < 0
  ·
   rw [if_pos c4] at H
   have c4b0 : decide (a0_3 < 0) = true := decide_eq_true c4
   clear c4
   obtain rfl := Option.some.inj H
   go_enter Tryz.func55, Tryz.ntmps55
   try go_wp2_with (first | ((with_reducible refine gate_dst (N := 1) rfl ?_); refine bx_ 1 #[.bool a0_0, .int .u64 a0_1, .int .u64 a0_2, .int .i64 a0_3] 28 ?_; intro gb286 hg w5 hbox hb; have BK286 := Aside0.mk (hbox); have GW286 := gw_ HB hg; have GE286 := gw_ HB hg; replace HB := bs_ HB hb; clear hb hbox hg))
   replace BK286 := Aside0.mk (blk_drew BK286.out)
   replace HB := Aside0.mk (below_drew1 HB.out)
   refine start_ (n := 17) (S := fun w' => w'.cell? ⟨gb286, 0, none⟩ = some (.bool a0_0) ∧ w'.cell? ⟨gb286, 1, none⟩ = some (.int .u64 a0_1) ∧ w'.cell? ⟨gb286, 2, none⟩ = some (.int .u64 a0_2) ∧ w'.cell? ⟨gb286, 3, none⟩ = some (.int .i64 a0_3)) (ds := []) (bm_ 17 0) (by kernel_rfl) rfl rfl ⟨kc_ BK286 0, kc_ BK286 1, kc_ BK286 2, kc_ BK286 3⟩ (fun hHeld => ?_); refine with_tabW platbookref03_Right.tab1 platbookref03_Right.bits1 (fun HT_ HW_ => ?_)
   generalize w5.drew = w6 at BK286 HB hHeld ⊢
   refine pu_ 0 (some 3) (bm_ 17 1) rfl HT_ ⟨by rfl, by intro w'; go_simp; with_reducible rfl⟩ ?_
   refine ta_ 1 (some 4) (bm_ 17 3) rfl HT_ HW_ ⟨by rfl, by rintro w' ⟨s0, s1, s2, s3⟩; go_simp; with_reducible rfl⟩ hHeld ?_
   refine one_ (i := 2) (N := some 5) (bm_ 17 7) rfl rfl (one_of HT_.out (by kernel_rfl)) (by decide) (fun K hK => ?_)
   refine gr_ Tryz.func105 #[.agg #[.bool a0_0, .int .u64 a0_1, .int .u64 a0_2]] ?_
   with_reducible refine (platbookref02_Right.calls a0_0 a0_1 a0_2 true _ A2.out).mono ?_
   rintro e w7 ⟨rfl, hb⟩
   refine ⟨_, rfl, ?_⟩
   replace BK286 := bb_ BK286 hb
   replace HB := bs_ HB hb
   (try clear hb)
   (try clear hb2)
   (try clear hk)
   (try clear hi)
   refine hK.out _ _ ⟨kc_ BK286 0, kc_ BK286 1, kc_ BK286 2, kc_ BK286 3⟩ (fun hHeld => ?_)
   clear hK K
   refine norm_ (a' := ?_) ?_ ?_
   rotate_left
   ·
    show Act.put _ (some 5) _ = _
    simp only [Act.put, List.setIfInBounds_toArray, List.set_cons_zero, List.set_cons_succ, i64_w, i32_w]
    rfl
   refine pu_ 3 (some 6) (bm_ 17 15) rfl HT_ ⟨by rfl, by intro w'; go_simp; with_reducible rfl⟩ ?_
   refine pu_ 4 (some 7) (bm_ 17 31) rfl HT_ ⟨by rfl, by intro w'; go_simp; with_reducible rfl⟩ ?_
   refine pu_ 5 (some 8) (bm_ 17 63) rfl HT_ ⟨by rfl, by intro w'; go_simp; with_reducible rfl⟩ ?_
   refine ta_ 6 (some 9) (bm_ 17 127) rfl HT_ HW_ ⟨by rfl, by rintro w' ⟨s0, s1, s2, s3⟩; go_simp; with_reducible rfl⟩ hHeld ?_
   refine pu_ 7 (some 10) (bm_ 17 255) rfl HT_ ⟨by rfl, by intro w'; go_simp; with_reducible rfl⟩ ?_
   refine pu_ 8 (some 11) (bm_ 17 511) rfl HT_ ⟨by rfl, by intro w'; go_simp; with_reducible rfl⟩ ?_
   refine pu_ 9 (some 12) (bm_ 17 1023) rfl HT_ ⟨by rfl, by intro w'; go_simp; with_reducible rfl⟩ ?_
   refine pure_ (i := 10) (N := some 13) (v := undef) (a' := ?_) (bm_ 17 2047) rfl rfl (any_of HT_.out (by kernel_rfl)) (fun _ _ _ h => h) (Or.inr ⟨by rfl, rfl⟩) ?_ ?_
   rotate_left
   ·
    simp only [Act.put, List.setIfInBounds_toArray, List.set_cons_zero, List.set_cons_succ, i64_w, i32_w]
    rfl
   refine pure_ (i := 11) (N := some 14) (v := undef) (a' := ?_) (bm_ 17 4095) rfl rfl (any_of HT_.out (by kernel_rfl)) (fun _ _ _ h => h) (Or.inr ⟨by rfl, rfl⟩) ?_ ?_
   rotate_left
   ·
    simp only [Act.put, List.setIfInBounds_toArray, List.set_cons_zero, List.set_cons_succ, i64_w, i32_w]
    rfl
   refine pure_ (i := 12) (N := some 15) (v := undef) (a' := ?_) (bm_ 17 8191) rfl rfl (any_of HT_.out (by kernel_rfl)) (fun _ _ _ h => h) (Or.inr ⟨by rfl, rfl⟩) ?_ ?_
   rotate_left
   ·
    simp only [Act.put, List.setIfInBounds_toArray, List.set_cons_zero, List.set_cons_succ, i64_w, i32_w]
    rfl
   refine pure_ (i := 13) (N := some 16) (v := undef) (a' := ?_) (bm_ 17 16383) rfl rfl (any_of HT_.out (by kernel_rfl)) (fun _ _ _ h => h) (Or.inr ⟨by rfl, rfl⟩) ?_ ?_
   rotate_left
   ·
    simp only [Act.put, List.setIfInBounds_toArray, List.set_cons_zero, List.set_cons_succ, i64_w, i32_w]
    rfl
   refine pure_ (i := 14) (N := some 17) (v := undef) (a' := ?_) (bm_ 17 32767) rfl rfl (any_of HT_.out (by kernel_rfl)) (fun _ _ _ h => h) (Or.inr ⟨by rfl, rfl⟩) ?_ ?_
   rotate_left
   ·
    simp only [Act.put, List.setIfInBounds_toArray, List.set_cons_zero, List.set_cons_succ, i64_w, i32_w]
    rfl
   refine pure_ (i := 15) (N := some 18) (v := undef) (a' := ?_) (bm_ 17 65535) rfl rfl (any_of HT_.out (by kernel_rfl)) (fun _ _ _ h => h) (Or.inr ⟨by rfl, rfl⟩) ?_ ?_
   rotate_left
   ·
    simp only [Act.put, List.setIfInBounds_toArray, List.set_cons_zero, List.set_cons_succ, i64_w, i32_w]
    rfl
   refine pu_ 16 (some 19) (bm_ 17 131071) rfl HT_ ⟨by rfl, by intro w'; go_simp; with_reducible rfl⟩ ?_
   refine done_ (done_of HT_.out (by kernel_rfl)) ?_
   try go_wp2
   go_ret
   exact ⟨by first | rfl | (simp [errW_none, errW_some] <;> rfl) | (simp [*, errW_none, errW_some] <;> rfl), pb_ HB⟩
  ·
   rw [if_neg c4] at H
   have c4b0 : decide (a0_3 < 0) = false := decide_eq_false c4
   clear c4
   replace H := Option.bind_eq_some_iff.mp H
   obtain ⟨t288, A80, H⟩ := H
   replace H : (if a0_3 > t288 then (some false) else ((platbookref03_Filled.f k a0_0 a0_1 a0_2 a0_3 0).bind fun bt289 => (some (bt289.1 == a0_0 && ((bt289.2.1 == a0_1 && (bt289.2.2 == a0_2))))))) = some r := H
   have A8 := Aside0.mk A80
   clear A80
   by_cases c9 : a0_3 > t288
   ·
    rw [if_pos c9] at H
    have c9b0 : decide (t288 < a0_3) = true := decide_eq_true c9
    clear c9
    obtain rfl := Option.some.inj H
    go_enter Tryz.func55, Tryz.ntmps55
    try go_wp2_with (first | ((with_reducible refine gate_dst (N := 1) rfl ?_); refine bx_ 1 #[.bool a0_0, .int .u64 a0_1, .int .u64 a0_2, .int .i64 a0_3] 28 ?_; intro gb286 hg w10 hbox hb; have BK286 := Aside0.mk (hbox); have GW286 := gw_ HB hg; have GE286 := gw_ HB hg; replace HB := bs_ HB hb; clear hb hbox hg))
    replace BK286 := Aside0.mk (blk_drew BK286.out)
    replace HB := Aside0.mk (below_drew1 HB.out)
    refine start_ (n := 17) (S := fun w' => w'.cell? ⟨gb286, 0, none⟩ = some (.bool a0_0) ∧ w'.cell? ⟨gb286, 1, none⟩ = some (.int .u64 a0_1) ∧ w'.cell? ⟨gb286, 2, none⟩ = some (.int .u64 a0_2) ∧ w'.cell? ⟨gb286, 3, none⟩ = some (.int .i64 a0_3)) (ds := []) (bm_ 17 0) (by kernel_rfl) rfl rfl ⟨kc_ BK286 0, kc_ BK286 1, kc_ BK286 2, kc_ BK286 3⟩ (fun hHeld => ?_); refine with_tabW platbookref03_Right.tab1 platbookref03_Right.bits1 (fun HT_ HW_ => ?_)
    generalize w10.drew = w11 at BK286 HB hHeld ⊢
    refine pu_ 0 (some 3) (bm_ 17 1) rfl HT_ ⟨by rfl, by intro w'; go_simp; with_reducible rfl⟩ ?_
    refine ta_ 1 (some 4) (bm_ 17 3) rfl HT_ HW_ ⟨by rfl, by rintro w' ⟨s0, s1, s2, s3⟩; go_simp; with_reducible rfl⟩ hHeld ?_
    refine one_ (i := 2) (N := some 5) (bm_ 17 7) rfl rfl (one_of HT_.out (by kernel_rfl)) (by decide) (fun K hK => ?_)
    refine gr_ Tryz.func105 #[.agg #[.bool a0_0, .int .u64 a0_1, .int .u64 a0_2]] ?_
    with_reducible refine (platbookref02_Right.calls a0_0 a0_1 a0_2 true _ A2.out).mono ?_
    rintro e w12 ⟨rfl, hb⟩
    refine ⟨_, rfl, ?_⟩
    replace BK286 := bb_ BK286 hb
    replace HB := bs_ HB hb
    (try clear hb)
    (try clear hb2)
    (try clear hk)
    (try clear hi)
    refine hK.out _ _ ⟨kc_ BK286 0, kc_ BK286 1, kc_ BK286 2, kc_ BK286 3⟩ (fun hHeld => ?_)
    clear hK K
    refine norm_ (a' := ?_) ?_ ?_
    rotate_left
    ·
     show Act.put _ (some 5) _ = _
     simp only [Act.put, List.setIfInBounds_toArray, List.set_cons_zero, List.set_cons_succ, i64_w, i32_w]
     rfl
    refine pu_ 3 (some 6) (bm_ 17 15) rfl HT_ ⟨by rfl, by intro w'; go_simp; with_reducible rfl⟩ ?_
    refine pu_ 4 (some 7) (bm_ 17 31) rfl HT_ ⟨by rfl, by intro w'; go_simp; with_reducible rfl⟩ ?_
    refine pu_ 5 (some 8) (bm_ 17 63) rfl HT_ ⟨by rfl, by intro w'; go_simp; with_reducible rfl⟩ ?_
    refine ta_ 6 (some 9) (bm_ 17 127) rfl HT_ HW_ ⟨by rfl, by rintro w' ⟨s0, s1, s2, s3⟩; go_simp; with_reducible rfl⟩ hHeld ?_
    refine pu_ 7 (some 10) (bm_ 17 255) rfl HT_ ⟨by rfl, by intro w'; go_simp; with_reducible rfl⟩ ?_
    refine pu_ 8 (some 11) (bm_ 17 511) rfl HT_ ⟨by rfl, by intro w'; go_simp; with_reducible rfl⟩ ?_
    refine pu_ 9 (some 12) (bm_ 17 1023) rfl HT_ ⟨by rfl, by intro w'; go_simp; with_reducible rfl⟩ ?_
    refine pu_ 10 (some 13) (bm_ 17 2047) rfl HT_ ⟨by rfl, by intro w'; go_simp; with_reducible rfl⟩ ?_
    refine pu_ 12 (some 15) (bm_ 17 6143) rfl HT_ ⟨by rfl, by intro w'; go_simp; with_reducible rfl⟩ ?_
    refine ta_ 11 (some 14) (bm_ 17 8191) rfl HT_ HW_ ⟨by rfl, by rintro w' ⟨s0, s1, s2, s3⟩; go_simp; with_reducible rfl⟩ hHeld ?_
    refine ta_ 13 (some 16) (bm_ 17 16383) rfl HT_ HW_ ⟨by rfl, by rintro w' ⟨s0, s1, s2, s3⟩; go_simp; with_reducible rfl⟩ hHeld ?_
    refine one_ (i := 14) (N := some 17) (bm_ 17 32767) rfl rfl (one_of HT_.out (by kernel_rfl)) (by decide) (fun K hK => ?_)
    refine gr_ Tryz.func67 #[.agg #[.bool a0_0, .int .u64 a0_1, .int .u64 a0_2]] ?_
    with_reducible refine (platbookref02_Width.calls a0_0 a0_1 a0_2 t288 _ A8.out).mono ?_
    rintro e w13 ⟨rfl, hb⟩
    refine ⟨_, rfl, ?_⟩
    replace BK286 := bb_ BK286 hb
    replace HB := bs_ HB hb
    (try clear hb)
    (try clear hb2)
    (try clear hk)
    (try clear hi)
    refine hK.out _ _ ⟨kc_ BK286 0, kc_ BK286 1, kc_ BK286 2, kc_ BK286 3⟩ (fun hHeld => ?_)
    clear hK K
    refine norm_ (a' := ?_) ?_ ?_
    rotate_left
    ·
     show Act.put _ (some 17) _ = _
     simp only [Act.put, List.setIfInBounds_toArray, List.set_cons_zero, List.set_cons_succ, i64_w, i32_w]
     rfl
    refine pu_ 15 (some 18) (bm_ 17 65535) rfl HT_ ⟨by rfl, by intro w'; go_simp; with_reducible rfl⟩ ?_
    refine pu_ 16 (some 19) (bm_ 17 131071) rfl HT_ ⟨by rfl, by intro w'; go_simp; with_reducible rfl⟩ ?_
    refine done_ (done_of HT_.out (by kernel_rfl)) ?_
    try go_wp2
    go_ret
    exact ⟨by first | rfl | (simp [errW_none, errW_some] <;> rfl) | (simp [*, errW_none, errW_some] <;> rfl), pb_ HB⟩
   ·
    rw [if_neg c9] at H
    have c9b0 : decide (t288 < a0_3) = false := decide_eq_false c9
    clear c9
    replace H := Option.bind_eq_some_iff.mp H
    obtain ⟨⟨t289, t290, t291⟩, A140, H⟩ := H
    replace H : (some (t289 == a0_0 && ((t290 == a0_1 && (t291 == a0_2))))) = some r := H
    have A14 := Aside0.mk A140
    clear A140
    obtain rfl := Option.some.inj H
    go_enter Tryz.func55, Tryz.ntmps55
    try go_wp2_with (first | ((with_reducible refine gate_dst (N := 1) rfl ?_); refine bx_ 1 #[.bool a0_0, .int .u64 a0_1, .int .u64 a0_2, .int .i64 a0_3] 28 ?_; intro gb286 hg w15 hbox hb; have BK286 := Aside0.mk (hbox); have GW286 := gw_ HB hg; have GE286 := gw_ HB hg; replace HB := bs_ HB hb; clear hb hbox hg))
    replace BK286 := Aside0.mk (blk_drew BK286.out)
    replace HB := Aside0.mk (below_drew1 HB.out)
    refine start_ (n := 17) (S := fun w' => w'.cell? ⟨gb286, 0, none⟩ = some (.bool a0_0) ∧ w'.cell? ⟨gb286, 1, none⟩ = some (.int .u64 a0_1) ∧ w'.cell? ⟨gb286, 2, none⟩ = some (.int .u64 a0_2) ∧ w'.cell? ⟨gb286, 3, none⟩ = some (.int .i64 a0_3)) (ds := []) (bm_ 17 0) (by kernel_rfl) rfl rfl ⟨kc_ BK286 0, kc_ BK286 1, kc_ BK286 2, kc_ BK286 3⟩ (fun hHeld => ?_); refine with_tabW platbookref03_Right.tab1 platbookref03_Right.bits1 (fun HT_ HW_ => ?_)
    generalize w15.drew = w16 at BK286 HB hHeld ⊢
    refine pu_ 0 (some 3) (bm_ 17 1) rfl HT_ ⟨by rfl, by intro w'; go_simp; with_reducible rfl⟩ ?_
    refine ta_ 1 (some 4) (bm_ 17 3) rfl HT_ HW_ ⟨by rfl, by rintro w' ⟨s0, s1, s2, s3⟩; go_simp; with_reducible rfl⟩ hHeld ?_
    refine one_ (i := 2) (N := some 5) (bm_ 17 7) rfl rfl (one_of HT_.out (by kernel_rfl)) (by decide) (fun K hK => ?_)
    refine gr_ Tryz.func105 #[.agg #[.bool a0_0, .int .u64 a0_1, .int .u64 a0_2]] ?_
    with_reducible refine (platbookref02_Right.calls a0_0 a0_1 a0_2 true _ A2.out).mono ?_
    rintro e w17 ⟨rfl, hb⟩
    refine ⟨_, rfl, ?_⟩
    replace BK286 := bb_ BK286 hb
    replace HB := bs_ HB hb
    (try clear hb)
    (try clear hb2)
    (try clear hk)
    (try clear hi)
    refine hK.out _ _ ⟨kc_ BK286 0, kc_ BK286 1, kc_ BK286 2, kc_ BK286 3⟩ (fun hHeld => ?_)
    clear hK K
    refine norm_ (a' := ?_) ?_ ?_
    rotate_left
    ·
     show Act.put _ (some 5) _ = _
     simp only [Act.put, List.setIfInBounds_toArray, List.set_cons_zero, List.set_cons_succ, i64_w, i32_w]
     rfl
    refine pu_ 3 (some 6) (bm_ 17 15) rfl HT_ ⟨by rfl, by intro w'; go_simp; with_reducible rfl⟩ ?_
    refine pu_ 4 (some 7) (bm_ 17 31) rfl HT_ ⟨by rfl, by intro w'; go_simp; with_reducible rfl⟩ ?_
    refine pu_ 5 (some 8) (bm_ 17 63) rfl HT_ ⟨by rfl, by intro w'; go_simp; with_reducible rfl⟩ ?_
    refine ta_ 6 (some 9) (bm_ 17 127) rfl HT_ HW_ ⟨by rfl, by rintro w' ⟨s0, s1, s2, s3⟩; go_simp; with_reducible rfl⟩ hHeld ?_
    refine pu_ 7 (some 10) (bm_ 17 255) rfl HT_ ⟨by rfl, by intro w'; go_simp; with_reducible rfl⟩ ?_
    refine pu_ 8 (some 11) (bm_ 17 511) rfl HT_ ⟨by rfl, by intro w'; go_simp; with_reducible rfl⟩ ?_
    refine pu_ 9 (some 12) (bm_ 17 1023) rfl HT_ ⟨by rfl, by intro w'; go_simp; with_reducible rfl⟩ ?_
    refine pu_ 10 (some 13) (bm_ 17 2047) rfl HT_ ⟨by rfl, by intro w'; go_simp; with_reducible rfl⟩ ?_
    refine pu_ 12 (some 15) (bm_ 17 6143) rfl HT_ ⟨by rfl, by intro w'; go_simp; with_reducible rfl⟩ ?_
    refine ta_ 11 (some 14) (bm_ 17 8191) rfl HT_ HW_ ⟨by rfl, by rintro w' ⟨s0, s1, s2, s3⟩; go_simp; with_reducible rfl⟩ hHeld ?_
    refine ta_ 13 (some 16) (bm_ 17 16383) rfl HT_ HW_ ⟨by rfl, by rintro w' ⟨s0, s1, s2, s3⟩; go_simp; with_reducible rfl⟩ hHeld ?_
    refine one_ (i := 14) (N := some 17) (bm_ 17 32767) rfl rfl (one_of HT_.out (by kernel_rfl)) (by decide) (fun K hK => ?_)
    refine gr_ Tryz.func67 #[.agg #[.bool a0_0, .int .u64 a0_1, .int .u64 a0_2]] ?_
    with_reducible refine (platbookref02_Width.calls a0_0 a0_1 a0_2 t288 _ A8.out).mono ?_
    rintro e w18 ⟨rfl, hb⟩
    refine ⟨_, rfl, ?_⟩
    replace BK286 := bb_ BK286 hb
    replace HB := bs_ HB hb
    (try clear hb)
    (try clear hb2)
    (try clear hk)
    (try clear hi)
    refine hK.out _ _ ⟨kc_ BK286 0, kc_ BK286 1, kc_ BK286 2, kc_ BK286 3⟩ (fun hHeld => ?_)
    clear hK K
    refine norm_ (a' := ?_) ?_ ?_
    rotate_left
    ·
     show Act.put _ (some 17) _ = _
     simp only [Act.put, List.setIfInBounds_toArray, List.set_cons_zero, List.set_cons_succ, i64_w, i32_w]
     rfl
    refine pu_ 15 (some 18) (bm_ 17 65535) rfl HT_ ⟨by rfl, by intro w'; go_simp; with_reducible rfl⟩ ?_
    refine pu_ 16 (some 19) (bm_ 17 131071) rfl HT_ ⟨by rfl, by intro w'; go_simp; with_reducible rfl⟩ ?_
    refine done_ (done_of HT_.out (by kernel_rfl)) ?_
    try go_wp2
    replace BK286 := Aside0.mk (blk_drew BK286.out)
    replace HB := Aside0.mk (below_drew1 HB.out)
    refine start_ (n := 9) (S := fun w' => w'.cell? ⟨gb286, 0, none⟩ = some (.bool a0_0) ∧ w'.cell? ⟨gb286, 1, none⟩ = some (.int .u64 a0_1) ∧ w'.cell? ⟨gb286, 2, none⟩ = some (.int .u64 a0_2) ∧ w'.cell? ⟨gb286, 3, none⟩ = some (.int .i64 a0_3)) (ds := []) (bm_ 9 0) (by kernel_rfl) rfl rfl ⟨kc_ BK286 0, kc_ BK286 1, kc_ BK286 2, kc_ BK286 3⟩ (fun hHeld => ?_); refine with_tabW platbookref03_Right.tab3 platbookref03_Right.bits3 (fun HT_ HW_ => ?_)
    generalize w18.drew = w19 at BK286 HB hHeld ⊢
    refine pu_ 0 (some 20) (bm_ 9 1) rfl HT_ ⟨by rfl, by intro w'; go_simp; with_reducible rfl⟩ ?_
    refine pu_ 2 (some 22) (bm_ 9 5) rfl HT_ ⟨by rfl, by intro w'; go_simp; with_reducible rfl⟩ ?_
    refine pu_ 5 (some 25) (bm_ 9 37) rfl HT_ ⟨by rfl, by intro w'; go_simp; with_reducible rfl⟩ ?_
    refine ta_ 1 (some 21) (bm_ 9 39) rfl HT_ HW_ ⟨by rfl, by rintro w' ⟨s0, s1, s2, s3⟩; go_simp; with_reducible rfl⟩ hHeld ?_
    refine ta_ 3 (some 23) (bm_ 9 47) rfl HT_ HW_ ⟨by rfl, by rintro w' ⟨s0, s1, s2, s3⟩; go_simp; with_reducible rfl⟩ hHeld ?_
    refine ta_ 6 (some 26) (bm_ 9 111) rfl HT_ HW_ ⟨by rfl, by rintro w' ⟨s0, s1, s2, s3⟩; go_simp; with_reducible rfl⟩ hHeld ?_
    refine one_ (i := 4) (N := some 24) (bm_ 9 127) rfl rfl (one_of HT_.out (by kernel_rfl)) (by decide) (fun K hK => ?_)
    refine gr_ Tryz.func108 #[.agg #[.bool a0_0, .int .u64 a0_1, .int .u64 a0_2], .int .i64 a0_3, .int .i64 0] ?_
    with_reducible refine (platbookref03_Filled.calls k a0_0 a0_1 a0_2 a0_3 0 t289 t290 t291 _ A14.out).mono ?_
    rintro e w20 ⟨rfl, hb⟩
    refine ⟨_, rfl, ?_⟩
    replace BK286 := bb_ BK286 hb
    replace HB := bs_ HB hb
    (try clear hb)
    (try clear hb2)
    (try clear hk)
    (try clear hi)
    refine hK.out _ _ ⟨kc_ BK286 0, kc_ BK286 1, kc_ BK286 2, kc_ BK286 3⟩ (fun hHeld => ?_)
    clear hK K
    refine norm_ (a' := ?_) ?_ ?_
    rotate_left
    ·
     show Act.put _ (some 24) _ = _
     simp only [Act.put, List.setIfInBounds_toArray, List.set_cons_zero, List.set_cons_succ, i64_w, i32_w]
     rfl
    refine pu_ 7 (some 27) (bm_ 9 255) rfl HT_ ⟨by rfl, by intro w'; go_simp; with_reducible rfl⟩ ?_
    refine pu_ 8 (some 2) (bm_ 9 511) rfl HT_ ⟨by rfl, by intro w'; go_simp; with_reducible rfl⟩ ?_
    refine done_ (done_of HT_.out (by kernel_rfl)) ?_
    try go_wp2
    go_ret
    exact ⟨by first | rfl | (simp [errW_none, errW_some] <;> rfl) | (simp [*, errW_none, errW_some] <;> rfl), pb_ HB⟩
 ·
  replace c3 := Bool.eq_false_iff.mpr c3
  subst c3
  have H1 : (some false) = some r := by rw [if_neg (show ¬ (false = true) by decide)] at H; exact H
  clear H
  have H := H1
  clear H1
  obtain rfl := Option.some.inj H
  go_enter Tryz.func55, Tryz.ntmps55
  try go_wp2_with (first | ((with_reducible refine gate_dst (N := 1) rfl ?_); refine bx_ 1 #[.bool a0_0, .int .u64 a0_1, .int .u64 a0_2, .int .i64 a0_3] 28 ?_; intro gb286 hg w21 hbox hb; have BK286 := Aside0.mk (hbox); have GW286 := gw_ HB hg; have GE286 := gw_ HB hg; replace HB := bs_ HB hb; clear hb hbox hg))
  replace BK286 := Aside0.mk (blk_drew BK286.out)
  replace HB := Aside0.mk (below_drew1 HB.out)
  refine start_ (n := 17) (S := fun w' => w'.cell? ⟨gb286, 0, none⟩ = some (.bool a0_0) ∧ w'.cell? ⟨gb286, 1, none⟩ = some (.int .u64 a0_1) ∧ w'.cell? ⟨gb286, 2, none⟩ = some (.int .u64 a0_2) ∧ w'.cell? ⟨gb286, 3, none⟩ = some (.int .i64 a0_3)) (ds := []) (bm_ 17 0) (by kernel_rfl) rfl rfl ⟨kc_ BK286 0, kc_ BK286 1, kc_ BK286 2, kc_ BK286 3⟩ (fun hHeld => ?_); refine with_tabW platbookref03_Right.tab1 platbookref03_Right.bits1 (fun HT_ HW_ => ?_)
  generalize w21.drew = w22 at BK286 HB hHeld ⊢
  refine pu_ 0 (some 3) (bm_ 17 1) rfl HT_ ⟨by rfl, by intro w'; go_simp; with_reducible rfl⟩ ?_
  refine ta_ 1 (some 4) (bm_ 17 3) rfl HT_ HW_ ⟨by rfl, by rintro w' ⟨s0, s1, s2, s3⟩; go_simp; with_reducible rfl⟩ hHeld ?_
  refine one_ (i := 2) (N := some 5) (bm_ 17 7) rfl rfl (one_of HT_.out (by kernel_rfl)) (by decide) (fun K hK => ?_)
  refine gr_ Tryz.func105 #[.agg #[.bool a0_0, .int .u64 a0_1, .int .u64 a0_2]] ?_
  with_reducible refine (platbookref02_Right.calls a0_0 a0_1 a0_2 false _ A2.out).mono ?_
  rintro e w23 ⟨rfl, hb⟩
  refine ⟨_, rfl, ?_⟩
  replace BK286 := bb_ BK286 hb
  replace HB := bs_ HB hb
  (try clear hb)
  (try clear hb2)
  (try clear hk)
  (try clear hi)
  refine hK.out _ _ ⟨kc_ BK286 0, kc_ BK286 1, kc_ BK286 2, kc_ BK286 3⟩ (fun hHeld => ?_)
  clear hK K
  refine norm_ (a' := ?_) ?_ ?_
  rotate_left
  ·
   show Act.put _ (some 5) _ = _
   simp only [Act.put, List.setIfInBounds_toArray, List.set_cons_zero, List.set_cons_succ, i64_w, i32_w]
   rfl
  refine pu_ 3 (some 6) (bm_ 17 15) rfl HT_ ⟨by rfl, by intro w'; go_simp; with_reducible rfl⟩ ?_
  refine pu_ 4 (some 7) (bm_ 17 31) rfl HT_ ⟨by rfl, by intro w'; go_simp; with_reducible rfl⟩ ?_
  refine pure_ (i := 5) (N := some 8) (v := undef) (a' := ?_) (bm_ 17 63) rfl rfl (any_of HT_.out (by kernel_rfl)) (fun _ _ _ h => h) (Or.inr ⟨by rfl, rfl⟩) ?_ ?_
  rotate_left
  ·
   simp only [Act.put, List.setIfInBounds_toArray, List.set_cons_zero, List.set_cons_succ, i64_w, i32_w]
   rfl
  refine pure_ (i := 6) (N := some 9) (v := undef) (a' := ?_) (bm_ 17 127) rfl rfl (any_of HT_.out (by kernel_rfl)) (fun _ _ _ h => h) (Or.inr ⟨by rfl, rfl⟩) ?_ ?_
  rotate_left
  ·
   simp only [Act.put, List.setIfInBounds_toArray, List.set_cons_zero, List.set_cons_succ, i64_w, i32_w]
   rfl
  refine pure_ (i := 7) (N := some 10) (v := undef) (a' := ?_) (bm_ 17 255) rfl rfl (any_of HT_.out (by kernel_rfl)) (fun _ _ _ h => h) (Or.inr ⟨by rfl, rfl⟩) ?_ ?_
  rotate_left
  ·
   simp only [Act.put, List.setIfInBounds_toArray, List.set_cons_zero, List.set_cons_succ, i64_w, i32_w]
   rfl
  refine pu_ 8 (some 11) (bm_ 17 511) rfl HT_ ⟨by rfl, by intro w'; go_simp; with_reducible rfl⟩ ?_
  refine pu_ 9 (some 12) (bm_ 17 1023) rfl HT_ ⟨by rfl, by intro w'; go_simp; with_reducible rfl⟩ ?_
  refine pure_ (i := 10) (N := some 13) (v := undef) (a' := ?_) (bm_ 17 2047) rfl rfl (any_of HT_.out (by kernel_rfl)) (fun _ _ _ h => h) (Or.inr ⟨by rfl, rfl⟩) ?_ ?_
  rotate_left
  ·
   simp only [Act.put, List.setIfInBounds_toArray, List.set_cons_zero, List.set_cons_succ, i64_w, i32_w]
   rfl
  refine pure_ (i := 11) (N := some 14) (v := undef) (a' := ?_) (bm_ 17 4095) rfl rfl (any_of HT_.out (by kernel_rfl)) (fun _ _ _ h => h) (Or.inr ⟨by rfl, rfl⟩) ?_ ?_
  rotate_left
  ·
   simp only [Act.put, List.setIfInBounds_toArray, List.set_cons_zero, List.set_cons_succ, i64_w, i32_w]
   rfl
  refine pure_ (i := 12) (N := some 15) (v := undef) (a' := ?_) (bm_ 17 8191) rfl rfl (any_of HT_.out (by kernel_rfl)) (fun _ _ _ h => h) (Or.inr ⟨by rfl, rfl⟩) ?_ ?_
  rotate_left
  ·
   simp only [Act.put, List.setIfInBounds_toArray, List.set_cons_zero, List.set_cons_succ, i64_w, i32_w]
   rfl
  refine pure_ (i := 13) (N := some 16) (v := undef) (a' := ?_) (bm_ 17 16383) rfl rfl (any_of HT_.out (by kernel_rfl)) (fun _ _ _ h => h) (Or.inr ⟨by rfl, rfl⟩) ?_ ?_
  rotate_left
  ·
   simp only [Act.put, List.setIfInBounds_toArray, List.set_cons_zero, List.set_cons_succ, i64_w, i32_w]
   rfl
  refine pure_ (i := 14) (N := some 17) (v := undef) (a' := ?_) (bm_ 17 32767) rfl rfl (any_of HT_.out (by kernel_rfl)) (fun _ _ _ h => h) (Or.inr ⟨by rfl, rfl⟩) ?_ ?_
  rotate_left
  ·
   simp only [Act.put, List.setIfInBounds_toArray, List.set_cons_zero, List.set_cons_succ, i64_w, i32_w]
   rfl
  refine pure_ (i := 15) (N := some 18) (v := undef) (a' := ?_) (bm_ 17 65535) rfl rfl (any_of HT_.out (by kernel_rfl)) (fun _ _ _ h => h) (Or.inr ⟨by rfl, rfl⟩) ?_ ?_
  rotate_left
  ·
   simp only [Act.put, List.setIfInBounds_toArray, List.set_cons_zero, List.set_cons_succ, i64_w, i32_w]
   rfl
  refine pu_ 16 (some 19) (bm_ 17 131071) rfl HT_ ⟨by rfl, by intro w'; go_simp; with_reducible rfl⟩ ?_
  refine done_ (done_of HT_.out (by kernel_rfl)) ?_
  try go_wp2
  go_ret
  exact ⟨by first | rfl | (simp [errW_none, errW_some] <;> rfl) | (simp [*, errW_none, errW_some] <;> rfl), pb_ HB⟩

def platbookref03_Alike.l0 : Nat → List Int → List Int → Int → Option (Int)
 | 0, _, _, _ => none
 | k + 1, x0, x1, x5 => if x5 < (x0.length : Int) then (if x5 < (x1.length : Int) then (if 0 ≤ x5 then (if (rd x0 x5) = (rd x1 x5) then (platbookref03_Alike.l0 k x0 x1 (wrap64 (x5 + 1))) else (some x5)) else (none)) else (some x5)) else (some x5)
def platbookref03_Alike.f (k : Nat) (l0 : List Int) (l1 : List Int) : Option (Int) := platbookref03_Alike.l0 k l0 l1 0
set_option maxHeartbeats 8000000 in
set_option maxRecDepth 100000 in
theorem platbookref03_Alike.calls (k : Nat) (A0 : Option Addr) (c0 : Nat) (l0 : List Int) (A1 : Option Addr) (c1 : Nat) (l1 : List Int) (r : Int) (w : World) (hr0 : Kd.C (Kd.int .i64) w A0 l0.length l0) (hc0 : l0.length ≤ c0) (hr1 : Kd.C (Kd.int .i64) w A1 l1.length l1) (hc1 : l1.length ≤ c1) (h : platbookref03_Alike.f k l0 l1 = some r) :
  Calls Tryz.prog 106 #[.slice A0 l0.length c0, .slice A1 l1.length c1] w fun e w' => e = .returned (.int .i64 r) ∧ Drawn0 w w' := by
 have HR0 := Aside0.mk hr0
 have HC0 := Aside0.mk hc0
 clear hr0 hc0
 have HR1 := Aside0.mk hr1
 have HC1 := Aside0.mk hc1
 clear hr1 hc1
 have H : (platbookref03_Alike.l0 k l0 l1 0) = some r := h
 clear h
 have H' := Aside0.mk H
 clear H
 go_enter Tryz.func106, Tryz.ntmps106
 go_wp2
 repeat (go_quiet (fail); try go_wp2)
 go_loopg [5] k (fun kq v5 w' => ∃ (x5_1 : Int), v5 = .int .i64 x5_1 ∧ Aside0 (platbookref03_Alike.l0 kq l0 l1 x5_1 = some r) ∧ Aside0 (kq ≤ k) ∧ Drawn0 w w')
 case atStart => exact ⟨(0), (by first | rfl | (simp; done) | (simp [*]; done)), H', ⟨Nat.le_refl _⟩, by repeat (first | exact Drawn0.refl _ | apply Drawn0.step)⟩
 case round =>
  clear H'
  try clear c1
  try clear p2
  obtain ⟨x5_1, rfl, HA, HK1, ⟨m1, rfl⟩⟩ := hrel
  cases gk with
  | zero => exact absurd HA.out (by simp [platbookref03_Alike.l0])
  | succ k1 =>
   have H := HA.out
   clear HA
   simp only [platbookref03_Alike.l0] at H
   by_cases c3 : x5_1 < (l0.length : Int)
   ·
    rw [if_pos c3] at H
    have c3b0 : decide (x5_1 < (l0.length : Int)) = true := decide_eq_true c3
    clear c3
    by_cases c4 : x5_1 < (l1.length : Int)
    ·
     rw [if_pos c4] at H
     have c4b0 : decide (x5_1 < (l1.length : Int)) = true := decide_eq_true c4
     clear c4
     by_cases c5 : 0 ≤ x5_1
     ·
      rw [if_pos c5] at H
      have c5b0 : decide (0 ≤ x5_1) = true := decide_eq_true c5
      clear c5
      by_cases c6 : (rd l0 x5_1) = (rd l1 x5_1)
      ·
       rw [if_pos c6] at H
       have c6b0 : ((rd l0 x5_1) == (rd l1 x5_1)) = true := beq_iff_eq.mpr c6
       have c6b1 : ((rd l0 x5_1) != (rd l1 x5_1)) = false := bne_eq_false_iff_eq.mpr c6
       clear c6
       have H' := Aside0.mk H
       clear H
       have p292 : 0 ≤ (x5_1 : Int) := of_decide_eq_true (by first | (with_reducible assumption) | assumption)
       have q292 : x5_1 < (l0.length : Int) := of_decide_eq_true (by first | (with_reducible assumption) | assumption)
       obtain ⟨ad292, e292, hx292_0⟩ := Kd.at_int HR0.out x5_1 p292 q292
       cases e292
       replace p292 := eq_true p292
       replace q292 := eq_true q292
       have p293 : 0 ≤ (x5_1 : Int) := of_decide_eq_true (by first | (with_reducible assumption) | assumption)
       have q293 : x5_1 < (l1.length : Int) := of_decide_eq_true (by first | (with_reducible assumption) | assumption)
       obtain ⟨ad293, e293, hx293_0⟩ := Kd.at_int HR1.out x5_1 p293 q293
       cases e293
       replace p293 := eq_true p293
       replace q293 := eq_true q293
       go_wp2
       repeat (go_quiet (fail); try go_wp2)
       go_roundg k1
       case measure => have := HK1.out; omega
       case rel => exact ⟨(wrap64 (x5_1 + 1)), (by first | rfl | (simp; done) | (simp [*]; done)), H', ⟨by have := HK1.out; omega⟩, by repeat (first | exact Drawn0.refl _ | apply Drawn0.step)⟩
      ·
       rw [if_neg c6] at H
       have c6b0 : ((rd l0 x5_1) == (rd l1 x5_1)) = false := beq_eq_false_iff_ne.mpr c6
       have c6b1 : ((rd l0 x5_1) != (rd l1 x5_1)) = true := bne_iff_ne.mpr c6
       obtain rfl := Option.some.inj H
       have p292 : 0 ≤ (x5_1 : Int) := of_decide_eq_true (by first | (with_reducible assumption) | assumption)
       have q292 : x5_1 < (l0.length : Int) := of_decide_eq_true (by first | (with_reducible assumption) | assumption)
       obtain ⟨ad292, e292, hx292_0⟩ := Kd.at_int HR0.out x5_1 p292 q292
       cases e292
       replace p292 := eq_true p292
       replace q292 := eq_true q292
       have p293 : 0 ≤ (x5_1 : Int) := of_decide_eq_true (by first | (with_reducible assumption) | assumption)
       have q293 : x5_1 < (l1.length : Int) := of_decide_eq_true (by first | (with_reducible assumption) | assumption)
       obtain ⟨ad293, e293, hx293_0⟩ := Kd.at_int HR1.out x5_1 p293 q293
       cases e293
       replace p293 := eq_true p293
       replace q293 := eq_true q293
       go_wp2
       repeat (go_quiet (fail); try go_wp2)
       go_ret
       exact ⟨by first | rfl | (simp; done) | (simp [*]; done), by repeat (first | exact Drawn0.refl _ | apply Drawn0.step)⟩
     ·
      rw [if_neg c5] at H
      exact absurd H (by simp)
    ·
     rw [if_neg c4] at H
     have c4b0 : decide (x5_1 < (l1.length : Int)) = false := decide_eq_false c4
     clear c4
     obtain rfl := Option.some.inj H
     go_wp2
     repeat (go_quiet (fail); try go_wp2)
     go_ret
     exact ⟨by first | rfl | (simp; done) | (simp [*]; done), by repeat (first | exact Drawn0.refl _ | apply Drawn0.step)⟩
   ·
    rw [if_neg c3] at H
    have c3b0 : decide (x5_1 < (l0.length : Int)) = false := decide_eq_false c3
    clear c3
    obtain rfl := Option.some.inj H
    go_wp2
    repeat (go_quiet (fail); try go_wp2)
    go_ret
    exact ⟨by first | rfl | (simp; done) | (simp [*]; done), by repeat (first | exact Drawn0.refl _ | apply Drawn0.step)⟩

end Go.Proofs.YtpfilldnfpcpkaaGreatDoor.PPo

namespace Go.Proofs.YtpfilldnfpcpkaaGreatDoor.PPo
open Go.RowKit Go.Proofs.YtpfilldnfpcpkaaGreatDoorW.PrintWords Go.Proofs.YtpfilldnfpcpkaaGreatDoorW.PrintLast Go.Proofs.YtpfilldnfpcpkaaGreatDoorW.PrintMore
attribute [local go_sem] max2_int min2_int max_two min_two max_three min_three max_four min_four   -- for this text's walks alone

def platbookref03_Has.j0 : Nat → Bool → Bool → Int → Int → Int → Bool → Int → Int → Option (Bool)
 | 0, _, _, _, _, _, _, _, _ => none
 | k + 1, x20, x295000, x295001, x295002, x295003, x296000, x296001, x296002 => if x20 = true then (some false) else ((platbookref03_Row.f k x295000 x295001 x295002).bind fun t298 => ((platbookref03_Row.f k x296000 x296001 x296002).bind fun t301 => ((platbookref03_Alike.f k t298 t301).bind fun t304 => (some (decide (t304 ≥ x295003))))))
def platbookref03_Has.f (k : Nat) (a0_0 : Bool) (a0_1 : Int) (a0_2 : Int) (a0_3 : Int) (a1_0 : Bool) (a1_1 : Int) (a1_2 : Int) : Option (Bool) := (platbookref03_Right.f k a0_0 a0_1 a0_2 a0_3).bind fun t296 => (if t296 = true then ((platbookref02_Right.f a1_0 a1_1 a1_2).bind fun t297 => (if t297 = true then (platbookref03_Has.j0 k (a1_0 != a0_0) a0_0 a0_1 a0_2 a0_3 a1_0 a1_1 a1_2) else (platbookref03_Has.j0 k true a0_0 a0_1 a0_2 a0_3 a1_0 a1_1 a1_2))) else (platbookref03_Has.j0 k true a0_0 a0_1 a0_2 a0_3 a1_0 a1_1 a1_2))
def platbookref03_Has.T3 : Bool × List (List Nat × List Nat) := (true, [([], []), ([0], [0]), ([1], [1]), ([], []), ([3, 2], [3]), ([2, 4, 4], [2, 4]), ([], []), ([6], [6]), ([5, 7], [5, 7]), ([8, 5, 0, 1, 2, 3, 4, 5, 6, 7, 8], [8])])
def platbookref03_Has.B3 : List Nat := [0, 1, 3, 0, 15, 31, 0, 64, 255, 511]
theorem platbookref03_Has.tab3 : rtab .any (opsOf Tryz.f53 3) = platbookref03_Has.T3 := by kernel_rfl
theorem platbookref03_Has.bits3 : waitsOk platbookref03_Has.T3.2 platbookref03_Has.B3 = true := by kernel_rfl
set_option maxHeartbeats 8000000 in
set_option maxRecDepth 100000 in
theorem platbookref03_Has.calls (k : Nat) (a0_0 : Bool) (a0_1 : Int) (a0_2 : Int) (a0_3 : Int) (a1_0 : Bool) (a1_1 : Int) (a1_2 : Int) (r : Bool) (w : World) (h : platbookref03_Has.f k a0_0 a0_1 a0_2 a0_3 a1_0 a1_1 a1_2 = some r) :
  Calls Tryz.prog 53 #[.agg #[.bool a0_0, .int .u64 a0_1, .int .u64 a0_2, .int .i64 a0_3], .agg #[.bool a1_0, .int .u64 a1_1, .int .u64 a1_2]] w fun e w' => e = .returned (.bool r) ∧ Below w.heap.size w w' := by
 have hu28 := Tryz.underlying28
 have hu26 := Tryz.underlying26
 have HB := Aside0.mk (Below.refl w.heap.size w)
 have H : ((platbookref03_Right.f k a0_0 a0_1 a0_2 a0_3).bind fun t296 => (if t296 = true then ((platbookref02_Right.f a1_0 a1_1 a1_2).bind fun t297 => (if t297 = true then (platbookref03_Has.j0 k (a1_0 != a0_0) a0_0 a0_1 a0_2 a0_3 a1_0 a1_1 a1_2) else (platbookref03_Has.j0 k true a0_0 a0_1 a0_2 a0_3 a1_0 a1_1 a1_2))) else (platbookref03_Has.j0 k true a0_0 a0_1 a0_2 a0_3 a1_0 a1_1 a1_2))) = some r := h
 clear h
 have HC3 := Aside0.mk H
 clear H
 go_enter Tryz.func53, Tryz.ntmps53
 go_upto_region 1 with (first | ((with_reducible refine gate_dst (N := 2) rfl ?_); refine bx_ 2 #[.bool a0_0, .int .u64 a0_1, .int .u64 a0_2, .int .i64 a0_3] 28 ?_; intro gb294 hg w4 hbox hb; have BK294 := Aside0.mk (hbox); have GW294 := gw_ HB hg; have GE294 := gw_ HB hg; replace HB := bs_ HB hb; clear hb hbox hg) | ((with_reducible refine gate_dst (N := 3) rfl ?_); refine bx_ 3 #[.bool a1_0, .int .u64 a1_1, .int .u64 a1_2] 26 ?_; intro gb295 hg w5 hbox hb; have BK295 := Aside0.mk (hbox); have GW295 := gw_ HB hg; have GE295 := gw_ HB hg; have NB294_295 := nl_ BK294 hg; have NB295_294 := ng_ BK294 hg; replace BK294 := bb_ BK294 hb; replace HB := bs_ HB hb; clear hb hbox hg))
 (try simp only [Act.put, List.setIfInBounds_toArray, List.set_cons_zero, List.set_cons_succ])
 go_cut [20] (fun v20 wc => ∃ (kq : Nat) (x20_2 : Bool), v20 = .bool x20_2 ∧ Aside0 (platbookref03_Has.j0 kq x20_2 a0_0 a0_1 a0_2 a0_3 a1_0 a1_1 a1_2 = some r) ∧ Aside0 (kq ≤ k) ∧ Aside0 (wc.heap[gb294]? = some (.cells #[.bool a0_0, .int .u64 a0_1, .int .u64 a0_2, .int .i64 a0_3] 28 (0, 0))) ∧ Aside0 (wc.heap[gb295]? = some (.cells #[.bool a1_0, .int .u64 a1_1, .int .u64 a1_2] 26 (0, 0))) ∧ Aside0 (Below w.heap.size w wc))
 case first =>
  have H := HC3.out
  clear HC3
  replace H := Option.bind_eq_some_iff.mp H
  obtain ⟨t296, A60, H⟩ := H
  replace H : (if t296 = true then ((platbookref02_Right.f a1_0 a1_1 a1_2).bind fun t297 => (if t297 = true then (platbookref03_Has.j0 k (a1_0 != a0_0) a0_0 a0_1 a0_2 a0_3 a1_0 a1_1 a1_2) else (platbookref03_Has.j0 k true a0_0 a0_1 a0_2 a0_3 a1_0 a1_1 a1_2))) else (platbookref03_Has.j0 k true a0_0 a0_1 a0_2 a0_3 a1_0 a1_1 a1_2)) = some r := H
  have A6 := Aside0.mk A60
  clear A60
  by_cases c7 : t296 = true
  ·
   subst c7
   rw [if_pos rfl] at H
   replace H := Option.bind_eq_some_iff.mp H
   obtain ⟨t297, A80, H⟩ := H
   replace H : (if t297 = true then (platbookref03_Has.j0 k (a1_0 != a0_0) a0_0 a0_1 a0_2 a0_3 a1_0 a1_1 a1_2) else (platbookref03_Has.j0 k true a0_0 a0_1 a0_2 a0_3 a1_0 a1_1 a1_2)) = some r := H
   have A8 := Aside0.mk A80
   clear A80
   by_cases c9 : t297 = true
   ·
    subst c9
    rw [if_pos rfl] at H
    have H' := Aside0.mk H
    clear H
    have hnb10 := NB294_295.out
    have hnc10 := NB295_294.out
    obtain ⟨hcz11_0, hcz11_1, hcz11_2, hcz11_3, hfz11_0, hfz11_1, hfz11_2, hfz11_3⟩ := c4_ BK294
    go_wp2_with (first | ((with_reducible refine gate_callee (f := 55) rfl ?_); refine gl_ (some 6) Tryz.func55 #[.agg #[.bool a0_0, .int .u64 a0_1, .int .u64 a0_2, .int .i64 a0_3]] ?_; (with_reducible refine (platbookref03_Right.calls k a0_0 a0_1 a0_2 a0_3 true _ A6.out).mono ?_); rintro e w12 ⟨rfl, hb⟩; refine ⟨_, rfl, ?_⟩; replace BK294 := bb_ BK294 hb; replace BK295 := bb_ BK295 hb; replace HB := bs_ HB hb; (try clear hb); (try clear hb2); (try clear hk); (try clear hi); obtain ⟨hcz13_0, hcz13_1, hcz13_2, hfz13_0, hfz13_1, hfz13_2⟩ := c3_ BK295) | (go_at_call 105; (with_reducible refine (platbookref02_Right.calls a1_0 a1_1 a1_2 true _ A8.out).mono ?_); rintro e w14 ⟨rfl, hb⟩; replace BK294 := bb_ BK294 hb; replace BK295 := bb_ BK295 hb; replace HB := bs_ HB hb; (try clear hb); (try clear hb2); (try clear hk); (try clear hi); obtain ⟨hcz15_0, hcz15_1, hcz15_2, hfz15_0, hfz15_1, hfz15_2⟩ := c3_ BK295; obtain ⟨hcz16_0, hcz16_1, hcz16_2, hcz16_3, hfz16_0, hfz16_1, hfz16_2, hfz16_3⟩ := c4_ BK294))
    go_meet
    case rel => exact ⟨_, ((a1_0 != a0_0)), (by first | rfl | (simp; done) | (simp [*]; done)), H', ⟨by first | omega | exact Nat.le_refl _⟩, ⟨by refine pw_ ?_; exact BK294.out⟩, ⟨by refine pw_ ?_; exact BK295.out⟩, ⟨pb_ HB⟩⟩
   ·
    replace c9 := Bool.eq_false_iff.mpr c9
    subst c9
    have H1 : (platbookref03_Has.j0 k true a0_0 a0_1 a0_2 a0_3 a1_0 a1_1 a1_2) = some r := by rw [if_neg (show ¬ (false = true) by decide)] at H; exact H
    clear H
    have H := H1
    clear H1
    have H' := Aside0.mk H
    clear H
    have hnb17 := NB294_295.out
    have hnc17 := NB295_294.out
    obtain ⟨hcz18_0, hcz18_1, hcz18_2, hcz18_3, hfz18_0, hfz18_1, hfz18_2, hfz18_3⟩ := c4_ BK294
    go_wp2_with (first | ((with_reducible refine gate_callee (f := 55) rfl ?_); refine gl_ (some 6) Tryz.func55 #[.agg #[.bool a0_0, .int .u64 a0_1, .int .u64 a0_2, .int .i64 a0_3]] ?_; (with_reducible refine (platbookref03_Right.calls k a0_0 a0_1 a0_2 a0_3 true _ A6.out).mono ?_); rintro e w19 ⟨rfl, hb⟩; refine ⟨_, rfl, ?_⟩; replace BK294 := bb_ BK294 hb; replace BK295 := bb_ BK295 hb; replace HB := bs_ HB hb; (try clear hb); (try clear hb2); (try clear hk); (try clear hi); obtain ⟨hcz20_0, hcz20_1, hcz20_2, hfz20_0, hfz20_1, hfz20_2⟩ := c3_ BK295) | (go_at_call 105; (with_reducible refine (platbookref02_Right.calls a1_0 a1_1 a1_2 false _ A8.out).mono ?_); rintro e w21 ⟨rfl, hb⟩; replace BK294 := bb_ BK294 hb; replace BK295 := bb_ BK295 hb; replace HB := bs_ HB hb; (try clear hb); (try clear hb2); (try clear hk); (try clear hi)))
    go_meet
    case rel => exact ⟨_, (true), (by first | rfl | (simp; done) | (simp [*]; done)), H', ⟨by first | omega | exact Nat.le_refl _⟩, ⟨by refine pw_ ?_; exact BK294.out⟩, ⟨by refine pw_ ?_; exact BK295.out⟩, ⟨pb_ HB⟩⟩
  ·
   replace c7 := Bool.eq_false_iff.mpr c7
   subst c7
   have H1 : (platbookref03_Has.j0 k true a0_0 a0_1 a0_2 a0_3 a1_0 a1_1 a1_2) = some r := by rw [if_neg (show ¬ (false = true) by decide)] at H; exact H
   clear H
   have H := H1
   clear H1
   have H' := Aside0.mk H
   clear H
   have hnb22 := NB294_295.out
   have hnc22 := NB295_294.out
   obtain ⟨hcz23_0, hcz23_1, hcz23_2, hcz23_3, hfz23_0, hfz23_1, hfz23_2, hfz23_3⟩ := c4_ BK294
   go_wp2_with (first | ((with_reducible refine gate_callee (f := 55) rfl ?_); refine gl_ (some 6) Tryz.func55 #[.agg #[.bool a0_0, .int .u64 a0_1, .int .u64 a0_2, .int .i64 a0_3]] ?_; (with_reducible refine (platbookref03_Right.calls k a0_0 a0_1 a0_2 a0_3 false _ A6.out).mono ?_); rintro e w24 ⟨rfl, hb⟩; refine ⟨_, rfl, ?_⟩; replace BK294 := bb_ BK294 hb; replace BK295 := bb_ BK295 hb; replace HB := bs_ HB hb; (try clear hb); (try clear hb2); (try clear hk); (try clear hi)))
   go_meet
   case rel => exact ⟨_, (true), (by first | rfl | (simp; done) | (simp [*]; done)), H', ⟨by first | omega | exact Nat.le_refl _⟩, ⟨by refine pw_ ?_; exact BK294.out⟩, ⟨by refine pw_ ?_; exact BK295.out⟩, ⟨pb_ HB⟩⟩
 case rest =>
  clear HC3
  try clear c1
  try clear c2
  try clear p2
  try clear c5
  try clear c7
  try clear c9
  try clear c10
  try clear c17
  try clear c22
  try clear hcz11_0
  try clear hcz11_1
  try clear hcz11_2
  try clear hcz11_3
  try clear hcz13_0
  try clear hcz13_1
  try clear hcz13_2
  try clear hcz15_0
  try clear hcz15_1
  try clear hcz15_2
  try clear hcz16_0
  try clear hcz16_1
  try clear hcz16_2
  try clear hcz16_3
  try clear hcz18_0
  try clear hcz18_1
  try clear hcz18_2
  try clear hcz18_3
  try clear hcz20_0
  try clear hcz20_1
  try clear hcz20_2
  try clear hcz23_0
  try clear hcz23_1
  try clear hcz23_2
  try clear hcz23_3
  try clear hfz11_0
  try clear hfz11_1
  try clear hfz11_2
  try clear hfz11_3
  try clear hfz13_0
  try clear hfz13_1
  try clear hfz13_2
  try clear hfz15_0
  try clear hfz15_1
  try clear hfz15_2
  try clear hfz16_0
  try clear hfz16_1
  try clear hfz16_2
  try clear hfz16_3
  try clear hfz18_0
  try clear hfz18_1
  try clear hfz18_2
  try clear hfz18_3
  try clear hfz20_0
  try clear hfz20_1
  try clear hfz20_2
  try clear hfz23_0
  try clear hfz23_1
  try clear hfz23_2
  try clear hfz23_3
  obtain ⟨kq, x20_2, rfl, HA, HJ2, BK294, BK295, HB⟩ := hcut
  cases kq with
  | zero => exact absurd HA.out (by simp [platbookref03_Has.j0])
  | succ kj2 =>
   have H := HA.out
   clear HA
   simp only [platbookref03_Has.j0] at H
   by_cases c25 : x20_2 = true
   ·
    subst c25
    rw [if_pos rfl] at H
    obtain rfl := Option.some.inj H
    go_wp2
    go_ret
    exact ⟨by first | rfl | (simp [errW_none, errW_some] <;> rfl) | (simp [*, errW_none, errW_some] <;> rfl), pb_ HB⟩
   ·
    replace c25 := Bool.eq_false_iff.mpr c25
    subst c25
    have H1 : ((platbookref03_Row.f kj2 a0_0 a0_1 a0_2).bind fun t298 => ((platbookref03_Row.f kj2 a1_0 a1_1 a1_2).bind fun t301 => ((platbookref03_Alike.f kj2 t298 t301).bind fun t304 => (some (decide (t304 ≥ a0_3)))))) = some r := by rw [if_neg (show ¬ (false = true) by decide)] at H; exact H
    clear H
    have H := H1
    clear H1
    replace H := Option.bind_eq_some_iff.mp H
    obtain ⟨t298, A260, H⟩ := H
    replace H : ((platbookref03_Row.f kj2 a1_0 a1_1 a1_2).bind fun t301 => ((platbookref03_Alike.f kj2 t298 t301).bind fun t304 => (some (decide (t304 ≥ a0_3))))) = some r := H
    have A26 := Aside0.mk A260
    clear A260
    replace H := Option.bind_eq_some_iff.mp H
    obtain ⟨t301, A270, H⟩ := H
    replace H : ((platbookref03_Alike.f kj2 t298 t301).bind fun t304 => (some (decide (t304 ≥ a0_3)))) = some r := H
    have A27 := Aside0.mk A270
    clear A270
    replace H := Option.bind_eq_some_iff.mp H
    obtain ⟨t304, A280, H⟩ := H
    replace H : (some (decide (t304 ≥ a0_3))) = some r := H
    have A28 := Aside0.mk A280
    clear A280
    obtain rfl := Option.some.inj H
    try go_wp2
    replace BK294 := Aside0.mk (blk_drew BK294.out)
    replace BK295 := Aside0.mk (blk_drew BK295.out)
    replace HB := Aside0.mk (below_drew1 HB.out)
    refine start_ (n := 10) (S := fun w' => w'.cell? ⟨gb294, 0, none⟩ = some (.bool a0_0) ∧ w'.cell? ⟨gb294, 1, none⟩ = some (.int .u64 a0_1) ∧ w'.cell? ⟨gb294, 2, none⟩ = some (.int .u64 a0_2) ∧ w'.cell? ⟨gb294, 3, none⟩ = some (.int .i64 a0_3) ∧ w'.cell? ⟨gb295, 0, none⟩ = some (.bool a1_0) ∧ w'.cell? ⟨gb295, 1, none⟩ = some (.int .u64 a1_1) ∧ w'.cell? ⟨gb295, 2, none⟩ = some (.int .u64 a1_2)) (ds := []) (bm_ 10 0) (by kernel_rfl) rfl rfl ⟨kc_ BK294 0, kc_ BK294 1, kc_ BK294 2, kc_ BK294 3, kc_ BK295 0, kc_ BK295 1, kc_ BK295 2⟩ (fun hHeld => ?_); refine with_tabW platbookref03_Has.tab3 platbookref03_Has.bits3 (fun HT_ HW_ => ?_)
    generalize wc.drew = w29 at BK294 BK295 HB hHeld ⊢
    refine pu_ 0 (some 21) (bm_ 10 1) rfl HT_ ⟨by rfl, by intro w'; go_simp; with_reducible rfl⟩ ?_
    refine pu_ 6 (some 27) (bm_ 10 65) rfl HT_ ⟨by rfl, by intro w'; go_simp; with_reducible rfl⟩ ?_
    refine ta_ 1 (some 22) (bm_ 10 67) rfl HT_ HW_ ⟨by rfl, by rintro w' ⟨s0, s1, s2, s3, s4, s5, s6⟩; go_simp; with_reducible rfl⟩ hHeld ?_
    refine ta_ 3 (some 24) (bm_ 10 75) rfl HT_ HW_ ⟨by rfl, by rintro w' ⟨s0, s1, s2, s3, s4, s5, s6⟩; go_simp; with_reducible rfl⟩ hHeld ?_
    refine ta_ 7 (some 28) (bm_ 10 203) rfl HT_ HW_ ⟨by rfl, by rintro w' ⟨s0, s1, s2, s3, s4, s5, s6⟩; go_simp; with_reducible rfl⟩ hHeld ?_
    refine one_ (i := 2) (N := some 23) (bm_ 10 207) rfl rfl (one_of HT_.out (by kernel_rfl)) (by decide) (fun K hK => ?_)
    refine gr_ Tryz.func107 #[.agg #[.bool a0_0, .int .u64 a0_1, .int .u64 a0_2]] ?_
    with_reducible refine (platbookref03_Row.calls kj2 a0_0 a0_1 a0_2 t298 _ A26.out).mono ?_
    rintro e w30 ⟨v299, rfl, ho0, hb⟩
    refine ⟨_, rfl, ?_⟩
    have HO300 := Aside0.mk (Kd.R_lower ho0 (below_size (pb_ HB)))
    replace BK294 := bb_ BK294 hb
    replace BK295 := bb_ BK295 hb
    replace HB := bs_ HB hb
    (try clear hb)
    (try clear hb2)
    (try clear hk)
    (try clear hi)
    (try clear ho0)
    refine hK.out _ _ ⟨kc_ BK294 0, kc_ BK294 1, kc_ BK294 2, kc_ BK294 3, kc_ BK295 0, kc_ BK295 1, kc_ BK295 2⟩ (fun hHeld => ?_)
    clear hK K
    refine norm_ (a' := ?_) ?_ ?_
    rotate_left
    ·
     show Act.put _ (some 23) _ = _
     simp only [Act.put, List.setIfInBounds_toArray, List.set_cons_zero, List.set_cons_succ, i64_w, i32_w]
     rfl
    refine one_ (i := 4) (N := some 25) (bm_ 10 223) rfl rfl (one_of HT_.out (by kernel_rfl)) (by decide) (fun K hK => ?_)
    refine gr_ Tryz.func107 #[.agg #[.bool a1_0, .int .u64 a1_1, .int .u64 a1_2]] ?_
    with_reducible refine (platbookref03_Row.calls kj2 a1_0 a1_1 a1_2 t301 _ A27.out).mono ?_
    rintro e w31 ⟨v302, rfl, ho0, hb⟩
    refine ⟨_, rfl, ?_⟩
    have HO303 := Aside0.mk (Kd.R_lower (Kd.R_new' ho0 (Kd.R_lt (by (with_reducible repeat (first | apply Kd.R_alloc | apply Kd.R_drewN | apply Kd.R_drew)); exact HO300.out))) (below_size (pb_ HB)))
    replace HO300 := Aside0.mk (Kd.R_elder' (by (with_reducible repeat (first | apply Kd.R_alloc | apply Kd.R_drewN | apply Kd.R_drew)); exact HO300.out) (Kd.R_base ho0) hb)
    replace BK294 := bb_ BK294 hb
    replace BK295 := bb_ BK295 hb
    replace HB := bs_ HB hb
    (try clear hb)
    (try clear hb2)
    (try clear hk)
    (try clear hi)
    (try clear ho0)
    obtain ⟨Ao32, co32, eo32⟩ := Kd.R_slice HO300.out
    (first | subst eo32 | (injection eo32 with f1_ f2_ f3_; have f4_ := f1_.symm; have f5_ := f3_.symm; clear f1_ f2_ f3_; subst f4_; subst f5_))
    obtain ⟨Ao33, co33, eo33⟩ := Kd.R_slice HO303.out
    (first | subst eo33 | (injection eo33 with f1_ f2_ f3_; have f4_ := f1_.symm; have f5_ := f3_.symm; clear f1_ f2_ f3_; subst f4_; subst f5_))
    refine hK.out _ _ ⟨kc_ BK294 0, kc_ BK294 1, kc_ BK294 2, kc_ BK294 3, kc_ BK295 0, kc_ BK295 1, kc_ BK295 2⟩ (fun hHeld => ?_)
    clear hK K
    refine norm_ (a' := ?_) ?_ ?_
    rotate_left
    ·
     show Act.put _ (some 25) _ = _
     simp only [Act.put, List.setIfInBounds_toArray, List.set_cons_zero, List.set_cons_succ, i64_w, i32_w]
     rfl
    refine one_ (i := 5) (N := some 26) (bm_ 10 255) rfl rfl (one_of HT_.out (by kernel_rfl)) (by decide) (fun K hK => ?_)
    refine gr_ Tryz.func106 #[.slice Ao32 t298.length co32, .slice Ao33 t301.length co33] ?_
    with_reducible refine (platbookref03_Alike.calls kj2 _ _ t298 _ _ t301 t304 _ ?side1 ?side2 ?side3 ?side4 A28.out).mono ?_
    (case side1 => repeat (first | exact (Kd.R_reads' HO300.out).2.2 | (with_reducible refine Kd.C_alloc ?_ _) | (with_reducible refine Kd.C_drewN ?_ _) | (with_reducible refine Kd.C_drew ?_)))
    (case side2 => exact (Kd.R_reads' HO300.out).2.1)
    (case side3 => repeat (first | exact (Kd.R_reads' HO303.out).2.2 | (with_reducible refine Kd.C_alloc ?_ _) | (with_reducible refine Kd.C_drewN ?_ _) | (with_reducible refine Kd.C_drew ?_)))
    (case side4 => exact (Kd.R_reads' HO303.out).2.1)
    rintro e w' ⟨rfl, ⟨nd, rfl⟩⟩
    refine ⟨_, rfl, ?_⟩
    refine hK.out _ _ ⟨kc_ BK294 0, kc_ BK294 1, kc_ BK294 2, kc_ BK294 3, kc_ BK295 0, kc_ BK295 1, kc_ BK295 2⟩ (fun hHeld => ?_)
    clear hK K
    refine norm_ (a' := ?_) ?_ ?_
    rotate_left
    ·
     show Act.put _ (some 26) _ = _
     simp only [Act.put, List.setIfInBounds_toArray, List.set_cons_zero, List.set_cons_succ, i64_w, i32_w]
     rfl
    refine pu_ 8 (some 29) (bm_ 10 511) rfl HT_ ⟨by rfl, by intro w'; go_simp; with_reducible rfl⟩ ?_
    refine pu_ 9 (some 4) (bm_ 10 1023) rfl HT_ ⟨by rfl, by intro w'; go_simp; with_reducible rfl⟩ ?_
    refine done_ (done_of HT_.out (by kernel_rfl)) ?_
    try go_wp2
    go_ret
    exact ⟨by first | rfl | (simp [errW_none, errW_some] <;> rfl) | (simp [*, errW_none, errW_some] <;> rfl), pb_ HB⟩

def platbookref03_Overlap.f (k : Nat) (a0_0 : Bool) (a0_1 : Int) (a0_2 : Int) (a0_3 : Int) (a1_0 : Bool) (a1_1 : Int) (a1_2 : Int) (a1_3 : Int) : Option (Bool) := (platbookref03_Right.f k a0_0 a0_1 a0_2 a0_3).bind fun t307 => (if t307 = true then ((platbookref03_Right.f k a1_0 a1_1 a1_2 a1_3).bind fun t308 => (if t308 = true then ((platbookref03_Has.f k a1_0 a1_1 a1_2 a1_3 a0_0 a0_1 a0_2).bind fun t309 => (if t309 = true then (some true) else ((platbookref03_Has.f k a0_0 a0_1 a0_2 a0_3 a1_0 a1_1 a1_2).bind fun t310 => (some t310)))) else (some false))) else (some false))
set_option maxHeartbeats 8000000 in
set_option maxRecDepth 100000 in
theorem platbookref03_Overlap.calls (k : Nat) (a0_0 : Bool) (a0_1 : Int) (a0_2 : Int) (a0_3 : Int) (a1_0 : Bool) (a1_1 : Int) (a1_2 : Int) (a1_3 : Int) (r : Bool) (w : World) (h : platbookref03_Overlap.f k a0_0 a0_1 a0_2 a0_3 a1_0 a1_1 a1_2 a1_3 = some r) :
  Calls Tryz.prog 48 #[.agg #[.bool a0_0, .int .u64 a0_1, .int .u64 a0_2, .int .i64 a0_3], .agg #[.bool a1_0, .int .u64 a1_1, .int .u64 a1_2, .int .i64 a1_3]] w fun e w' => e = .returned (.bool r) ∧ Below w.heap.size w w' := by
 have hu28 := Tryz.underlying28
 have hu26 := Tryz.underlying26
 have HB := Aside0.mk (Below.refl w.heap.size w)
 have H : ((platbookref03_Right.f k a0_0 a0_1 a0_2 a0_3).bind fun t307 => (if t307 = true then ((platbookref03_Right.f k a1_0 a1_1 a1_2 a1_3).bind fun t308 => (if t308 = true then ((platbookref03_Has.f k a1_0 a1_1 a1_2 a1_3 a0_0 a0_1 a0_2).bind fun t309 => (if t309 = true then (some true) else ((platbookref03_Has.f k a0_0 a0_1 a0_2 a0_3 a1_0 a1_1 a1_2).bind fun t310 => (some t310)))) else (some false))) else (some false))) = some r := h
 clear h
 replace H := Option.bind_eq_some_iff.mp H
 obtain ⟨t307, A30, H⟩ := H
 replace H : (if t307 = true then ((platbookref03_Right.f k a1_0 a1_1 a1_2 a1_3).bind fun t308 => (if t308 = true then ((platbookref03_Has.f k a1_0 a1_1 a1_2 a1_3 a0_0 a0_1 a0_2).bind fun t309 => (if t309 = true then (some true) else ((platbookref03_Has.f k a0_0 a0_1 a0_2 a0_3 a1_0 a1_1 a1_2).bind fun t310 => (some t310)))) else (some false))) else (some false)) = some r := H
 have A3 := Aside0.mk A30
 clear A30
 by_cases c4 : t307 = true
 ·
  subst c4
  rw [if_pos rfl] at H
  replace H := Option.bind_eq_some_iff.mp H
  obtain ⟨t308, A50, H⟩ := H
  replace H : (if t308 = true then ((platbookref03_Has.f k a1_0 a1_1 a1_2 a1_3 a0_0 a0_1 a0_2).bind fun t309 => (if t309 = true then (some true) else ((platbookref03_Has.f k a0_0 a0_1 a0_2 a0_3 a1_0 a1_1 a1_2).bind fun t310 => (some t310)))) else (some false)) = some r := H
  have A5 := Aside0.mk A50
  clear A50
  by_cases c6 : t308 = true
  ·
   subst c6
   rw [if_pos rfl] at H
   replace H := Option.bind_eq_some_iff.mp H
   obtain ⟨t309, A70, H⟩ := H
   replace H : (if t309 = true then (some true) else ((platbookref03_Has.f k a0_0 a0_1 a0_2 a0_3 a1_0 a1_1 a1_2).bind fun t310 => (some t310))) = some r := H
   have A7 := Aside0.mk A70
   clear A70
   by_cases c8 : t309 = true
   ·
    subst c8
    rw [if_pos rfl] at H
    obtain rfl := Option.some.inj H
    go_enter Tryz.func48, Tryz.ntmps48
    go_wp2_with (first | ((with_reducible refine gate_dst (N := 2) rfl ?_); refine bx_ 2 #[.bool a0_0, .int .u64 a0_1, .int .u64 a0_2, .int .i64 a0_3] 28 ?_; intro gb305 hg w9 hbox hb; have BK305 := Aside0.mk (hbox); have GW305 := gw_ HB hg; have GE305 := gw_ HB hg; replace HB := bs_ HB hb; clear hb hbox hg) | ((with_reducible refine gate_dst (N := 3) rfl ?_); refine bx_ 3 #[.bool a1_0, .int .u64 a1_1, .int .u64 a1_2, .int .i64 a1_3] 28 ?_; intro gb306 hg w10 hbox hb; have BK306 := Aside0.mk (hbox); have GW306 := gw_ HB hg; have GE306 := gw_ HB hg; have NB305_306 := nl_ BK305 hg; have NB306_305 := ng_ BK305 hg; replace BK305 := bb_ BK305 hb; replace HB := bs_ HB hb; clear hb hbox hg; have hnb11 := NB305_306.out; have hnc11 := NB306_305.out; obtain ⟨hcz12_0, hcz12_1, hcz12_2, hcz12_3, hfz12_0, hfz12_1, hfz12_2, hfz12_3⟩ := c4_ BK305) | ((with_reducible refine gate_callee (f := 55) rfl ?_); refine gl_ (some 6) Tryz.func55 #[.agg #[.bool a0_0, .int .u64 a0_1, .int .u64 a0_2, .int .i64 a0_3]] ?_; (with_reducible refine (platbookref03_Right.calls k a0_0 a0_1 a0_2 a0_3 true _ A3.out).mono ?_); rintro e w13 ⟨rfl, hb⟩; refine ⟨_, rfl, ?_⟩; replace BK305 := bb_ BK305 hb; replace BK306 := bb_ BK306 hb; replace HB := bs_ HB hb; (try clear hb); (try clear hb2); (try clear hk); (try clear hi); obtain ⟨hcz14_0, hcz14_1, hcz14_2, hcz14_3, hfz14_0, hfz14_1, hfz14_2, hfz14_3⟩ := c4_ BK306) | (go_at_call 55; (with_reducible refine (platbookref03_Right.calls k a1_0 a1_1 a1_2 a1_3 true _ A5.out).mono ?_); rintro e w15 ⟨rfl, hb⟩; replace BK305 := bb_ BK305 hb; replace BK306 := bb_ BK306 hb; replace HB := bs_ HB hb; (try clear hb); (try clear hb2); (try clear hk); (try clear hi); obtain ⟨hcz16_0, hcz16_1, hcz16_2, hcz16_3, hfz16_0, hfz16_1, hfz16_2, hfz16_3⟩ := c4_ BK306; obtain ⟨hcz17_0, hcz17_1, hcz17_2, hcz17_3, hfz17_0, hfz17_1, hfz17_2, hfz17_3⟩ := c4_ BK305) | (go_at_call 53; (with_reducible refine (platbookref03_Has.calls k a1_0 a1_1 a1_2 a1_3 a0_0 a0_1 a0_2 true _ A7.out).mono ?_); rintro e w18 ⟨rfl, hb⟩; replace BK305 := bb_ BK305 hb; replace BK306 := bb_ BK306 hb; replace HB := bs_ HB hb; (try clear hb); (try clear hb2); (try clear hk); (try clear hi)))
    go_ret
    exact ⟨by first | rfl | (simp [errW_none, errW_some] <;> rfl) | (simp [*, errW_none, errW_some] <;> rfl), pb_ HB⟩
   ·
    replace c8 := Bool.eq_false_iff.mpr c8
    subst c8
    have H1 : ((platbookref03_Has.f k a0_0 a0_1 a0_2 a0_3 a1_0 a1_1 a1_2).bind fun t310 => (some t310)) = some r := by rw [if_neg (show ¬ (false = true) by decide)] at H; exact H
    clear H
    have H := H1
    clear H1
    replace H := Option.bind_eq_some_iff.mp H
    obtain ⟨t310, A190, H⟩ := H
    replace H : (some t310) = some r := H
    have A19 := Aside0.mk A190
    clear A190
    obtain rfl := Option.some.inj H
    go_enter Tryz.func48, Tryz.ntmps48
    go_wp2_with (first | ((with_reducible refine gate_dst (N := 2) rfl ?_); refine bx_ 2 #[.bool a0_0, .int .u64 a0_1, .int .u64 a0_2, .int .i64 a0_3] 28 ?_; intro gb305 hg w20 hbox hb; have BK305 := Aside0.mk (hbox); have GW305 := gw_ HB hg; have GE305 := gw_ HB hg; replace HB := bs_ HB hb; clear hb hbox hg) | ((with_reducible refine gate_dst (N := 3) rfl ?_); refine bx_ 3 #[.bool a1_0, .int .u64 a1_1, .int .u64 a1_2, .int .i64 a1_3] 28 ?_; intro gb306 hg w21 hbox hb; have BK306 := Aside0.mk (hbox); have GW306 := gw_ HB hg; have GE306 := gw_ HB hg; have NB305_306 := nl_ BK305 hg; have NB306_305 := ng_ BK305 hg; replace BK305 := bb_ BK305 hb; replace HB := bs_ HB hb; clear hb hbox hg; have hnb22 := NB305_306.out; have hnc22 := NB306_305.out; obtain ⟨hcz23_0, hcz23_1, hcz23_2, hcz23_3, hfz23_0, hfz23_1, hfz23_2, hfz23_3⟩ := c4_ BK305) | ((with_reducible refine gate_callee (f := 55) rfl ?_); refine gl_ (some 6) Tryz.func55 #[.agg #[.bool a0_0, .int .u64 a0_1, .int .u64 a0_2, .int .i64 a0_3]] ?_; (with_reducible refine (platbookref03_Right.calls k a0_0 a0_1 a0_2 a0_3 true _ A3.out).mono ?_); rintro e w24 ⟨rfl, hb⟩; refine ⟨_, rfl, ?_⟩; replace BK305 := bb_ BK305 hb; replace BK306 := bb_ BK306 hb; replace HB := bs_ HB hb; (try clear hb); (try clear hb2); (try clear hk); (try clear hi); obtain ⟨hcz25_0, hcz25_1, hcz25_2, hcz25_3, hfz25_0, hfz25_1, hfz25_2, hfz25_3⟩ := c4_ BK306) | (go_at_call 55; (with_reducible refine (platbookref03_Right.calls k a1_0 a1_1 a1_2 a1_3 true _ A5.out).mono ?_); rintro e w26 ⟨rfl, hb⟩; replace BK305 := bb_ BK305 hb; replace BK306 := bb_ BK306 hb; replace HB := bs_ HB hb; (try clear hb); (try clear hb2); (try clear hk); (try clear hi); obtain ⟨hcz27_0, hcz27_1, hcz27_2, hcz27_3, hfz27_0, hfz27_1, hfz27_2, hfz27_3⟩ := c4_ BK306; obtain ⟨hcz28_0, hcz28_1, hcz28_2, hcz28_3, hfz28_0, hfz28_1, hfz28_2, hfz28_3⟩ := c4_ BK305) | (go_at_call 53; (with_reducible refine (platbookref03_Has.calls k a1_0 a1_1 a1_2 a1_3 a0_0 a0_1 a0_2 false _ A7.out).mono ?_); rintro e w29 ⟨rfl, hb⟩; replace BK305 := bb_ BK305 hb; replace BK306 := bb_ BK306 hb; replace HB := bs_ HB hb; (try clear hb); (try clear hb2); (try clear hk); (try clear hi); obtain ⟨hcz30_0, hcz30_1, hcz30_2, hcz30_3, hfz30_0, hfz30_1, hfz30_2, hfz30_3⟩ := c4_ BK305; obtain ⟨hcz31_0, hcz31_1, hcz31_2, hcz31_3, hfz31_0, hfz31_1, hfz31_2, hfz31_3⟩ := c4_ BK306) | (go_at_call 53; (with_reducible refine (platbookref03_Has.calls k a0_0 a0_1 a0_2 a0_3 a1_0 a1_1 a1_2 t310 _ A19.out).mono ?_); rintro e w32 ⟨rfl, hb⟩; replace BK305 := bb_ BK305 hb; replace BK306 := bb_ BK306 hb; replace HB := bs_ HB hb; (try clear hb); (try clear hb2); (try clear hk); (try clear hi)))
    go_ret
    exact ⟨by first | rfl | (simp [errW_none, errW_some] <;> rfl) | (simp [*, errW_none, errW_some] <;> rfl), pb_ HB⟩
  ·
   replace c6 := Bool.eq_false_iff.mpr c6
   subst c6
   have H1 : (some false) = some r := by rw [if_neg (show ¬ (false = true) by decide)] at H; exact H
   clear H
   have H := H1
   clear H1
   obtain rfl := Option.some.inj H
   go_enter Tryz.func48, Tryz.ntmps48
   go_wp2_with (first | ((with_reducible refine gate_dst (N := 2) rfl ?_); refine bx_ 2 #[.bool a0_0, .int .u64 a0_1, .int .u64 a0_2, .int .i64 a0_3] 28 ?_; intro gb305 hg w33 hbox hb; have BK305 := Aside0.mk (hbox); have GW305 := gw_ HB hg; have GE305 := gw_ HB hg; replace HB := bs_ HB hb; clear hb hbox hg) | ((with_reducible refine gate_dst (N := 3) rfl ?_); refine bx_ 3 #[.bool a1_0, .int .u64 a1_1, .int .u64 a1_2, .int .i64 a1_3] 28 ?_; intro gb306 hg w34 hbox hb; have BK306 := Aside0.mk (hbox); have GW306 := gw_ HB hg; have GE306 := gw_ HB hg; have NB305_306 := nl_ BK305 hg; have NB306_305 := ng_ BK305 hg; replace BK305 := bb_ BK305 hb; replace HB := bs_ HB hb; clear hb hbox hg; have hnb35 := NB305_306.out; have hnc35 := NB306_305.out; obtain ⟨hcz36_0, hcz36_1, hcz36_2, hcz36_3, hfz36_0, hfz36_1, hfz36_2, hfz36_3⟩ := c4_ BK305) | ((with_reducible refine gate_callee (f := 55) rfl ?_); refine gl_ (some 6) Tryz.func55 #[.agg #[.bool a0_0, .int .u64 a0_1, .int .u64 a0_2, .int .i64 a0_3]] ?_; (with_reducible refine (platbookref03_Right.calls k a0_0 a0_1 a0_2 a0_3 true _ A3.out).mono ?_); rintro e w37 ⟨rfl, hb⟩; refine ⟨_, rfl, ?_⟩; replace BK305 := bb_ BK305 hb; replace BK306 := bb_ BK306 hb; replace HB := bs_ HB hb; (try clear hb); (try clear hb2); (try clear hk); (try clear hi); obtain ⟨hcz38_0, hcz38_1, hcz38_2, hcz38_3, hfz38_0, hfz38_1, hfz38_2, hfz38_3⟩ := c4_ BK306) | (go_at_call 55; (with_reducible refine (platbookref03_Right.calls k a1_0 a1_1 a1_2 a1_3 false _ A5.out).mono ?_); rintro e w39 ⟨rfl, hb⟩; replace BK305 := bb_ BK305 hb; replace BK306 := bb_ BK306 hb; replace HB := bs_ HB hb; (try clear hb); (try clear hb2); (try clear hk); (try clear hi)))
   go_ret
   exact ⟨by first | rfl | (simp [errW_none, errW_some] <;> rfl) | (simp [*, errW_none, errW_some] <;> rfl), pb_ HB⟩
 ·
  replace c4 := Bool.eq_false_iff.mpr c4
  subst c4
  have H1 : (some false) = some r := by rw [if_neg (show ¬ (false = true) by decide)] at H; exact H
  clear H
  have H := H1
  clear H1
  obtain rfl := Option.some.inj H
  go_enter Tryz.func48, Tryz.ntmps48
  go_wp2_with (first | ((with_reducible refine gate_dst (N := 2) rfl ?_); refine bx_ 2 #[.bool a0_0, .int .u64 a0_1, .int .u64 a0_2, .int .i64 a0_3] 28 ?_; intro gb305 hg w40 hbox hb; have BK305 := Aside0.mk (hbox); have GW305 := gw_ HB hg; have GE305 := gw_ HB hg; replace HB := bs_ HB hb; clear hb hbox hg) | ((with_reducible refine gate_dst (N := 3) rfl ?_); refine bx_ 3 #[.bool a1_0, .int .u64 a1_1, .int .u64 a1_2, .int .i64 a1_3] 28 ?_; intro gb306 hg w41 hbox hb; have BK306 := Aside0.mk (hbox); have GW306 := gw_ HB hg; have GE306 := gw_ HB hg; have NB305_306 := nl_ BK305 hg; have NB306_305 := ng_ BK305 hg; replace BK305 := bb_ BK305 hb; replace HB := bs_ HB hb; clear hb hbox hg; have hnb42 := NB305_306.out; have hnc42 := NB306_305.out; obtain ⟨hcz43_0, hcz43_1, hcz43_2, hcz43_3, hfz43_0, hfz43_1, hfz43_2, hfz43_3⟩ := c4_ BK305) | ((with_reducible refine gate_callee (f := 55) rfl ?_); refine gl_ (some 6) Tryz.func55 #[.agg #[.bool a0_0, .int .u64 a0_1, .int .u64 a0_2, .int .i64 a0_3]] ?_; (with_reducible refine (platbookref03_Right.calls k a0_0 a0_1 a0_2 a0_3 false _ A3.out).mono ?_); rintro e w44 ⟨rfl, hb⟩; refine ⟨_, rfl, ?_⟩; replace BK305 := bb_ BK305 hb; replace BK306 := bb_ BK306 hb; replace HB := bs_ HB hb; (try clear hb); (try clear hb2); (try clear hk); (try clear hi)))
  go_ret
  exact ⟨by first | rfl | (simp [errW_none, errW_some] <;> rfl) | (simp [*, errW_none, errW_some] <;> rfl), pb_ HB⟩

def platbookref04_Cuts.f (k : Nat) (a0_0 : Bool) (a0_1 : Int) (a0_2 : Int) (a0_3 : Int) (a1 : Int) : Option (Bool) := (platbookref03_Right.f k a0_0 a0_1 a0_2 a0_3).bind fun t340 => (if t340 = true then (if a1 ≥ a0_3 then ((platbookref02_Width.f a0_0 a0_1 a0_2).bind fun t341 => (some (decide (a1 ≤ t341)))) else (some false)) else (some false))
set_option maxHeartbeats 8000000 in
set_option maxRecDepth 100000 in
theorem platbookref04_Cuts.calls (k : Nat) (a0_0 : Bool) (a0_1 : Int) (a0_2 : Int) (a0_3 : Int) (a1 : Int) (r : Bool) (w : World) (h : platbookref04_Cuts.f k a0_0 a0_1 a0_2 a0_3 a1 = some r) :
  Calls Tryz.prog 54 #[.agg #[.bool a0_0, .int .u64 a0_1, .int .u64 a0_2, .int .i64 a0_3], .int .i64 a1] w fun e w' => e = .returned (.bool r) ∧ Below w.heap.size w w' := by
 have hu28 := Tryz.underlying28
 have hu26 := Tryz.underlying26
 have HB := Aside0.mk (Below.refl w.heap.size w)
 have H : ((platbookref03_Right.f k a0_0 a0_1 a0_2 a0_3).bind fun t340 => (if t340 = true then (if a1 ≥ a0_3 then ((platbookref02_Width.f a0_0 a0_1 a0_2).bind fun t341 => (some (decide (a1 ≤ t341)))) else (some false)) else (some false))) = some r := h
 clear h
 replace H := Option.bind_eq_some_iff.mp H
 obtain ⟨t340, A30, H⟩ := H
 replace H : (if t340 = true then (if a1 ≥ a0_3 then ((platbookref02_Width.f a0_0 a0_1 a0_2).bind fun t341 => (some (decide (a1 ≤ t341)))) else (some false)) else (some false)) = some r := H
 have A3 := Aside0.mk A30
 clear A30
 by_cases c4 : t340 = true
 ·
  subst c4
  rw [if_pos rfl] at H
  by_cases c5 : a1 ≥ a0_3
  ·
   rw [if_pos c5] at H
   have c5b0 : decide (a0_3 ≤ a1) = true := decide_eq_true c5
   clear c5
   replace H := Option.bind_eq_some_iff.mp H
   obtain ⟨t341, A60, H⟩ := H
   replace H : (some (decide (a1 ≤ t341))) = some r := H
   have A6 := Aside0.mk A60
   clear A60
   obtain rfl := Option.some.inj H
   go_enter Tryz.func54, Tryz.ntmps54
   go_wp2_with (first | ((with_reducible refine gate_dst (N := 2) rfl ?_); refine bx_ 2 #[.bool a0_0, .int .u64 a0_1, .int .u64 a0_2, .int .i64 a0_3] 28 ?_; intro gb339 hg w7 hbox hb; have BK339 := Aside0.mk (hbox); have GW339 := gw_ HB hg; have GE339 := gw_ HB hg; replace HB := bs_ HB hb; clear hb hbox hg; obtain ⟨hcz8_0, hcz8_1, hcz8_2, hcz8_3, hfz8_0, hfz8_1, hfz8_2, hfz8_3⟩ := c4_ BK339) | ((with_reducible refine gate_callee (f := 55) rfl ?_); refine gl_ (some 6) Tryz.func55 #[.agg #[.bool a0_0, .int .u64 a0_1, .int .u64 a0_2, .int .i64 a0_3]] ?_; (with_reducible refine (platbookref03_Right.calls k a0_0 a0_1 a0_2 a0_3 true _ A3.out).mono ?_); rintro e w9 ⟨rfl, hb⟩; refine ⟨_, rfl, ?_⟩; replace BK339 := bb_ BK339 hb; replace HB := bs_ HB hb; (try clear hb); (try clear hb2); (try clear hk); (try clear hi); obtain ⟨hcz10_0, hcz10_1, hcz10_2, hcz10_3, hfz10_0, hfz10_1, hfz10_2, hfz10_3⟩ := c4_ BK339) | (go_at_call 67; (with_reducible refine (platbookref02_Width.calls a0_0 a0_1 a0_2 t341 _ A6.out).mono ?_); rintro e w11 ⟨rfl, hb⟩; replace BK339 := bb_ BK339 hb; replace HB := bs_ HB hb; (try clear hb); (try clear hb2); (try clear hk); (try clear hi)))
   go_ret
   exact ⟨by first | rfl | (simp [errW_none, errW_some] <;> rfl) | (simp [*, errW_none, errW_some] <;> rfl), pb_ HB⟩
  ·
   rw [if_neg c5] at H
   have c5b0 : decide (a0_3 ≤ a1) = false := decide_eq_false c5
   clear c5
   obtain rfl := Option.some.inj H
   go_enter Tryz.func54, Tryz.ntmps54
   go_wp2_with (first | ((with_reducible refine gate_dst (N := 2) rfl ?_); refine bx_ 2 #[.bool a0_0, .int .u64 a0_1, .int .u64 a0_2, .int .i64 a0_3] 28 ?_; intro gb339 hg w12 hbox hb; have BK339 := Aside0.mk (hbox); have GW339 := gw_ HB hg; have GE339 := gw_ HB hg; replace HB := bs_ HB hb; clear hb hbox hg; obtain ⟨hcz13_0, hcz13_1, hcz13_2, hcz13_3, hfz13_0, hfz13_1, hfz13_2, hfz13_3⟩ := c4_ BK339) | ((with_reducible refine gate_callee (f := 55) rfl ?_); refine gl_ (some 6) Tryz.func55 #[.agg #[.bool a0_0, .int .u64 a0_1, .int .u64 a0_2, .int .i64 a0_3]] ?_; (with_reducible refine (platbookref03_Right.calls k a0_0 a0_1 a0_2 a0_3 true _ A3.out).mono ?_); rintro e w14 ⟨rfl, hb⟩; refine ⟨_, rfl, ?_⟩; replace BK339 := bb_ BK339 hb; replace HB := bs_ HB hb; (try clear hb); (try clear hb2); (try clear hk); (try clear hi); obtain ⟨hcz15_0, hcz15_1, hcz15_2, hcz15_3, hfz15_0, hfz15_1, hfz15_2, hfz15_3⟩ := c4_ BK339))
   go_ret
   exact ⟨by first | rfl | (simp [errW_none, errW_some] <;> rfl) | (simp [*, errW_none, errW_some] <;> rfl), pb_ HB⟩
 ·
  replace c4 := Bool.eq_false_iff.mpr c4
  subst c4
  have H1 : (some false) = some r := by rw [if_neg (show ¬ (false = true) by decide)] at H; exact H
  clear H
  have H := H1
  clear H1
  obtain rfl := Option.some.inj H
  go_enter Tryz.func54, Tryz.ntmps54
  go_wp2_with (first | ((with_reducible refine gate_dst (N := 2) rfl ?_); refine bx_ 2 #[.bool a0_0, .int .u64 a0_1, .int .u64 a0_2, .int .i64 a0_3] 28 ?_; intro gb339 hg w16 hbox hb; have BK339 := Aside0.mk (hbox); have GW339 := gw_ HB hg; have GE339 := gw_ HB hg; replace HB := bs_ HB hb; clear hb hbox hg; obtain ⟨hcz17_0, hcz17_1, hcz17_2, hcz17_3, hfz17_0, hfz17_1, hfz17_2, hfz17_3⟩ := c4_ BK339) | ((with_reducible refine gate_callee (f := 55) rfl ?_); refine gl_ (some 6) Tryz.func55 #[.agg #[.bool a0_0, .int .u64 a0_1, .int .u64 a0_2, .int .i64 a0_3]] ?_; (with_reducible refine (platbookref03_Right.calls k a0_0 a0_1 a0_2 a0_3 false _ A3.out).mono ?_); rintro e w18 ⟨rfl, hb⟩; refine ⟨_, rfl, ?_⟩; replace BK339 := bb_ BK339 hb; replace HB := bs_ HB hb; (try clear hb); (try clear hb2); (try clear hk); (try clear hi)))
  go_ret
  exact ⟨by first | rfl | (simp [errW_none, errW_some] <;> rfl) | (simp [*, errW_none, errW_some] <;> rfl), pb_ HB⟩

def platbookref04_Count.l0 : Nat → Int → Int → Int → Int → Option (Int × Int × Bool)
 | 0, _, _, _, _ => none
 | k + 1, x0, x5, x344000, x344001 => if x5 < x0 then ((platbookref01_Add.f x344000 x344001 x344000 x344001).bind fun bt344 => (platbookref04_Count.l0 k x0 (wrap64 (x5 + 1)) bt344.1 bt344.2.1)) else (some (x344000, x344001, true))
def platbookref04_Count.f (k : Nat) (a0 : Int) : Option (Int × Int × Bool) := if a0 = 128 then (some (0, 0, false)) else (platbookref04_Count.l0 k a0 0 0 1)
set_option maxHeartbeats 8000000 in
set_option maxRecDepth 100000 in
theorem platbookref04_Count.calls (k : Nat) (a0 : Int) (r1 : Int) (r2 : Int) (r3 : Bool) (w : World) (h : platbookref04_Count.f k a0 = some (r1, r2, r3)) :
  Calls Tryz.prog 143 #[.int .i64 a0] w fun e w' => e = .returned (.tuple #[.agg #[.int .u64 r1, .int .u64 r2], .bool r3]) ∧ Below w.heap.size w w' := by
 have hu24 := Tryz.underlying24
 have HB := Aside0.mk (Below.refl w.heap.size w)
 have H : (if a0 = 128 then (some (0, 0, false)) else (platbookref04_Count.l0 k a0 0 0 1)) = some (r1, r2, r3) := h
 clear h
 by_cases c2 : a0 = 128
 ·
  rw [if_pos c2] at H
  have c2b0 : (a0 == 128) = true := beq_iff_eq.mpr c2
  have c2b1 : (a0 != 128) = false := bne_eq_false_iff_eq.mpr c2
  clear c2
  simp only [Option.some.injEq, Prod.mk.injEq] at H
  obtain ⟨rfl, rfl, rfl⟩ := H
  go_enter Tryz.func143, Tryz.ntmps143
  go_wp2_with (first | ((with_reducible refine gate_dst (N := 2) rfl ?_); refine bx_ 2 #[.int .u64 0, .int .u64 0] 24 ?_; intro gb342 hg w3 hbox hb; have BK342 := Aside0.mk (hbox); have GW342 := gw_ HB hg; have GE342 := gw_ HB hg; replace HB := bs_ HB hb; clear hb hbox hg; obtain ⟨hcz4_0, hcz4_1, hfz4_0, hfz4_1⟩ := c2_ BK342))
  refine bodyPost_ret (results_ct rfl _ _ gb342 24 #[.int .u64 0, .int .u64 0] (0, 0) _ rfl (by refine pw_ ?_; refine blk_put (cs := #[.int .u64 0, .int .u64 0]) ?_ 1 _ rfl; refine pw_ ?_; refine blk_put (cs := #[.int .u64 0, .int .u64 0]) ?_ 0 _ rfl; refine pw_ ?_; exact BK342.out) Tryz.underlying24 rfl (by kernel_rfl)) rfl ?_
  exact ⟨by first | rfl | (simp [errW_none, errW_some] <;> rfl) | (simp [*, errW_none, errW_some] <;> rfl), pb_ HB⟩
 ·
  rw [if_neg c2] at H
  have c2b0 : (a0 == 128) = false := beq_eq_false_iff_ne.mpr c2
  have c2b1 : (a0 != 128) = true := bne_iff_ne.mpr c2
  have H' := Aside0.mk H
  clear H
  go_enter Tryz.func143, Tryz.ntmps143
  go_wp2_with (first | ((with_reducible refine gate_dst (N := 2) rfl ?_); refine bx_ 2 #[.int .u64 0, .int .u64 0] 24 ?_; intro gb342 hg w5 hbox hb; have BK342 := Aside0.mk (hbox); have GW342 := gw_ HB hg; have GE342 := gw_ HB hg; replace HB := bs_ HB hb; clear hb hbox hg) | ((with_reducible refine gate_dst (N := 4) rfl ?_); refine bx_ 4 #[.int .u64 0, .int .u64 0] 24 ?_; intro gb343 hg w6 hbox hb; have BK343 := Aside0.mk (hbox); have GW343 := gw_ HB hg; have GE343 := gw_ HB hg; have NB342_343 := nl_ BK342 hg; have NB343_342 := ng_ BK342 hg; replace BK342 := bb_ BK342 hb; replace HB := bs_ HB hb; clear hb hbox hg; have hnb7 := NB343_342.out; have hnc7 := NB342_343.out; obtain ⟨hcz8_0, hcz8_1, hfz8_0, hfz8_1⟩ := c2_ BK343))
  go_loopg [5] k (fun kq v5 w' => ∃ (x5_1 : Int) (x344000_1 : Int) (x344001_1 : Int), v5 = .int .i64 x5_1 ∧ Aside0 (platbookref04_Count.l0 kq a0 x5_1 x344000_1 x344001_1 = some (r1, r2, r3)) ∧ Aside0 (kq ≤ k) ∧ Aside0 (w'.heap[gb342]? = some (.cells #[.int .u64 0, .int .u64 0] 24 (0, 0))) ∧ Aside0 (w'.heap[gb343]? = some (.cells #[.int .u64 x344000_1, .int .u64 x344001_1] 24 (0, 0))) ∧ Aside0 (Below w.heap.size w w'))
  case atStart => exact ⟨(0), (0), (1), (by first | rfl | (simp; done) | (simp [*]; done)), H', ⟨Nat.le_refl _⟩, ⟨by refine pw_ ?_; refine blk_far ?_ NB342_343.out _; refine pw_ ?_; refine blk_far ?_ NB342_343.out _; refine pw_ ?_; exact BK342.out⟩, ⟨by refine pw_ ?_; refine blk_put (cs := #[.int .u64 0, .int .u64 0]) ?_ 1 _ rfl; refine pw_ ?_; refine blk_put (cs := #[.int .u64 0, .int .u64 0]) ?_ 0 _ rfl; refine pw_ ?_; exact BK343.out⟩, ⟨pb_ HB⟩⟩
  case round =>
   clear H'
   try clear c1
   try clear c2
   try clear c2b0
   try clear c2b1
   try clear p2
   try clear c7
   try clear hcz4_0
   try clear hcz4_1
   try clear hcz8_0
   try clear hcz8_1
   try clear hfz4_0
   try clear hfz4_1
   try clear hfz8_0
   try clear hfz8_1
   obtain ⟨x5_1, x344000_1, x344001_1, rfl, HA, HK1, BK342, BK343, HB⟩ := hrel
   cases gk with
   | zero => exact absurd HA.out (by simp [platbookref04_Count.l0])
   | succ k1 =>
    have H := HA.out
    clear HA
    simp only [platbookref04_Count.l0] at H
    by_cases c9 : x5_1 < a0
    ·
     rw [if_pos c9] at H
     have c9b0 : decide (x5_1 < a0) = true := decide_eq_true c9
     clear c9
     replace H := Option.bind_eq_some_iff.mp H
     obtain ⟨⟨t344, t345, t346⟩, A100, H⟩ := H
     replace H : (platbookref04_Count.l0 k1 a0 (wrap64 (x5_1 + 1)) t344 t345) = some (r1, r2, r3) := H
     have A10 := Aside0.mk A100
     clear A100
     have H' := Aside0.mk H
     clear H
     have hnb11 := NB343_342.out
     have hnc11 := NB342_343.out
     obtain ⟨hcz12_0, hcz12_1, hfz12_0, hfz12_1⟩ := c2_ BK343
     go_wp2_with (first | ((with_reducible refine gate_callee (f := 169) rfl ?_); refine gl_ (some 18) Tryz.func169 #[.agg #[.int .u64 x344000_1, .int .u64 x344001_1], .agg #[.int .u64 x344000_1, .int .u64 x344001_1]] ?_; (with_reducible refine (platbookref01_Add.calls x344000_1 x344001_1 x344000_1 x344001_1 t344 t345 t346 _ A10.out).mono ?_); rintro e w13 ⟨rfl, hb⟩; refine ⟨_, rfl, ?_⟩; replace BK342 := bb_ BK342 hb; replace BK343 := bb_ BK343 hb; replace HB := bs_ HB hb; (try clear hb); (try clear hb2); (try clear hk); (try clear hi); obtain ⟨hcz14_0, hcz14_1, hfz14_0, hfz14_1⟩ := c2_ BK343))
     go_roundg k1
     case measure => have := HK1.out; omega
     case rel => exact ⟨(wrap64 (x5_1 + 1)), (t344), (t345), (by first | rfl | (simp; done) | (simp [*]; done)), H', ⟨by have := HK1.out; omega⟩, ⟨by refine pw_ ?_; refine blk_far ?_ NB342_343.out _; refine pw_ ?_; refine blk_far ?_ NB342_343.out _; refine pw_ ?_; exact BK342.out⟩, ⟨by refine pw_ ?_; refine blk_put (cs := #[.int .u64 t344, .int .u64 x344001_1]) ?_ 1 _ rfl; refine pw_ ?_; refine blk_put (cs := #[.int .u64 x344000_1, .int .u64 x344001_1]) ?_ 0 _ rfl; refine pw_ ?_; exact BK343.out⟩, ⟨pb_ HB⟩⟩
    ·
     rw [if_neg c9] at H
     have c9b0 : decide (x5_1 < a0) = false := decide_eq_false c9
     clear c9
     simp only [Option.some.injEq, Prod.mk.injEq] at H
     obtain ⟨rfl, rfl, rfl⟩ := H
     have hnb15 := NB343_342.out
     have hnc15 := NB342_343.out
     obtain ⟨hcz16_0, hcz16_1, hfz16_0, hfz16_1⟩ := c2_ BK343
     obtain ⟨hcz17_0, hcz17_1, hfz17_0, hfz17_1⟩ := c2_ BK342
     go_wp2
     refine bodyPost_ret (results_ct rfl _ _ gb342 24 #[.int .u64 x344000_1, .int .u64 x344001_1] (0, 0) _ rfl (by refine pw_ ?_; refine blk_put (cs := #[.int .u64 x344000_1, .int .u64 0]) ?_ 1 _ rfl; refine pw_ ?_; refine blk_put (cs := #[.int .u64 0, .int .u64 0]) ?_ 0 _ rfl; refine pw_ ?_; exact BK342.out) Tryz.underlying24 rfl (by kernel_rfl)) rfl ?_
     exact ⟨by first | rfl | (simp [errW_none, errW_some] <;> rfl) | (simp [*, errW_none, errW_some] <;> rfl), pb_ HB⟩

end Go.Proofs.YtpfilldnfpcpkaaGreatDoor.PPo

namespace Go.Proofs.YtpfilldnfpcpkaaGreatDoor.PPo
open Go.RowKit Go.Proofs.YtpfilldnfpcpkaaGreatDoorW.PrintWords Go.Proofs.YtpfilldnfpcpkaaGreatDoorW.PrintLast Go.Proofs.YtpfilldnfpcpkaaGreatDoorW.PrintMore
attribute [local go_sem] max2_int min2_int max_two min_two max_three min_three max_four min_four   -- for this text's walks alone

attribute [local go_sem high] eqA28
def platbooklaw07_small.f (k : Nat) (a0_0 : Bool) (a0_1 : Int) (a0_2 : Int) (a0_3 : Int) (a1 : Int) : Option (Bool) := (platbookref04_Cuts.f k a0_0 a0_1 a0_2 a0_3 a1).bind fun t389 => (if t389 = true then (some (decide ((wrap64 (a1 - a0_3)) ≤ 8))) else (some false))
set_option maxHeartbeats 8000000 in
set_option maxRecDepth 100000 in
theorem platbooklaw07_small.calls (k : Nat) (a0_0 : Bool) (a0_1 : Int) (a0_2 : Int) (a0_3 : Int) (a1 : Int) (r : Bool) (w : World) (h : platbooklaw07_small.f k a0_0 a0_1 a0_2 a0_3 a1 = some r) :
  Calls Tryz.prog 36 #[.agg #[.bool a0_0, .int .u64 a0_1, .int .u64 a0_2, .int .i64 a0_3], .int .i64 a1] w fun e w' => e = .returned (.bool r) ∧ Below w.heap.size w w' := by
 have hu28 := Tryz.underlying28
 have HB := Aside0.mk (Below.refl w.heap.size w)
 have H : ((platbookref04_Cuts.f k a0_0 a0_1 a0_2 a0_3 a1).bind fun t389 => (if t389 = true then (some (decide ((wrap64 (a1 - a0_3)) ≤ 8))) else (some false))) = some r := h
 clear h
 replace H := Option.bind_eq_some_iff.mp H
 obtain ⟨t389, A30, H⟩ := H
 replace H : (if t389 = true then (some (decide ((wrap64 (a1 - a0_3)) ≤ 8))) else (some false)) = some r := H
 have A3 := Aside0.mk A30
 clear A30
 by_cases c4 : t389 = true
 ·
  subst c4
  rw [if_pos rfl] at H
  obtain rfl := Option.some.inj H
  go_enter Tryz.func36, Tryz.ntmps36
  go_wp2_with (first | ((with_reducible refine gate_dst (N := 2) rfl ?_); refine bx_ 2 #[.bool a0_0, .int .u64 a0_1, .int .u64 a0_2, .int .i64 a0_3] 28 ?_; intro gb388 hg w5 hbox hb; have BK388 := Aside0.mk (hbox); have GW388 := gw_ HB hg; have GE388 := gw_ HB hg; replace HB := bs_ HB hb; clear hb hbox hg; obtain ⟨hcz6_0, hcz6_1, hcz6_2, hcz6_3, hfz6_0, hfz6_1, hfz6_2, hfz6_3⟩ := c4_ BK388) | ((with_reducible refine gate_callee (f := 54) rfl ?_); refine gl_ (some 7) Tryz.func54 #[.agg #[.bool a0_0, .int .u64 a0_1, .int .u64 a0_2, .int .i64 a0_3], .int .i64 a1] ?_; (with_reducible refine (platbookref04_Cuts.calls k a0_0 a0_1 a0_2 a0_3 a1 true _ A3.out).mono ?_); rintro e w7 ⟨rfl, hb⟩; refine ⟨_, rfl, ?_⟩; replace BK388 := bb_ BK388 hb; replace HB := bs_ HB hb; (try clear hb); (try clear hb2); (try clear hk); (try clear hi); obtain ⟨hcz8_0, hcz8_1, hcz8_2, hcz8_3, hfz8_0, hfz8_1, hfz8_2, hfz8_3⟩ := c4_ BK388))
  go_ret
  exact ⟨by first | rfl | (simp [errW_none, errW_some] <;> rfl) | (simp [*, errW_none, errW_some] <;> rfl), pb_ HB⟩
 ·
  replace c4 := Bool.eq_false_iff.mpr c4
  subst c4
  have H1 : (some false) = some r := by rw [if_neg (show ¬ (false = true) by decide)] at H; exact H
  clear H
  have H := H1
  clear H1
  obtain rfl := Option.some.inj H
  go_enter Tryz.func36, Tryz.ntmps36
  go_wp2_with (first | ((with_reducible refine gate_dst (N := 2) rfl ?_); refine bx_ 2 #[.bool a0_0, .int .u64 a0_1, .int .u64 a0_2, .int .i64 a0_3] 28 ?_; intro gb388 hg w9 hbox hb; have BK388 := Aside0.mk (hbox); have GW388 := gw_ HB hg; have GE388 := gw_ HB hg; replace HB := bs_ HB hb; clear hb hbox hg; obtain ⟨hcz10_0, hcz10_1, hcz10_2, hcz10_3, hfz10_0, hfz10_1, hfz10_2, hfz10_3⟩ := c4_ BK388) | ((with_reducible refine gate_callee (f := 54) rfl ?_); refine gl_ (some 7) Tryz.func54 #[.agg #[.bool a0_0, .int .u64 a0_1, .int .u64 a0_2, .int .i64 a0_3], .int .i64 a1] ?_; (with_reducible refine (platbookref04_Cuts.calls k a0_0 a0_1 a0_2 a0_3 a1 false _ A3.out).mono ?_); rintro e w11 ⟨rfl, hb⟩; refine ⟨_, rfl, ?_⟩; replace BK388 := bb_ BK388 hb; replace HB := bs_ HB hb; (try clear hb); (try clear hb2); (try clear hk); (try clear hi)))
  go_ret
  exact ⟨by first | rfl | (simp [errW_none, errW_some] <;> rfl) | (simp [*, errW_none, errW_some] <;> rfl), pb_ HB⟩

end Go.Proofs.YtpfilldnfpcpkaaGreatDoor.PPo

namespace Go.Proofs.YtpfilldnfpcpkaaGreatDoor.PPo
open Go.RowKit Go.Proofs.YtpfilldnfpcpkaaGreatDoorW.PrintWords Go.Proofs.YtpfilldnfpcpkaaGreatDoorW.PrintLast Go.Proofs.YtpfilldnfpcpkaaGreatDoorW.PrintMore
attribute [local go_sem] max2_int min2_int max_two min_two max_three min_three max_four min_four   -- for this text's walks alone

mutual
def platbookref04_Block.j0 : Nat → Int → Bool → Bool → Int → Int → Int → Int → Int → Option (Bool × Int × Int × Int × Int)
 | 0, _, _, _, _, _, _, _, _ => none
 | k + 1, x1, x32, x348000, x348001, x348002, x348003, x349000, x349001 => if x32 = true then (some (false, 0, 0, 0, 12)) else ((platbookref03_Row.f k x348000 x348001 x348002).bind fun t356 => ((platbookref01_Bits.f k x349000 x349001).bind fun t359 => (platbookref04_Block.l0 k x1 t356 t359 0 x348000 x348001 x348002 x348003)))
def platbookref04_Block.l0 : Nat → Int → List Int → List Int → Int → Bool → Int → Int → Int → Option (Bool × Int × Int × Int × Int)
 | 0, _, _, _, _, _, _, _, _ => none
 | k + 1, x1, x10, x11, x12, x348000, x348001, x348002, x348003 => if x12 < (wrap64 (x1 - x348003)) then (if 0 ≤ x12 then (if x12 < (x11.length : Int) then (if 0 ≤ (wrap64 ((wrap64 (x1 - 1)) - x12)) then (if (wrap64 ((wrap64 (x1 - 1)) - x12)) < (x10.length : Int) then (platbookref04_Block.l0 k x1 (x10.set ((wrap64 ((wrap64 (x1 - 1)) - x12)) : Int).toNat (rd x11 x12)) x11 (wrap64 (x12 + 1)) x348000 x348001 x348002 x348003) else (none)) else (none)) else (none)) else (none)) else ((platbookref03_Addr.f k x348000 x10).bind fun bt364 => (some (bt364.1, bt364.2.1, bt364.2.2, x1, 0)))
end
def platbookref04_Block.f (k : Nat) (a0_0 : Bool) (a0_1 : Int) (a0_2 : Int) (a0_3 : Int) (a1 : Int) (a2_0 : Int) (a2_1 : Int) : Option (Bool × Int × Int × Int × Int) := (platbookref04_Cuts.f k a0_0 a0_1 a0_2 a0_3 a1).bind fun t350 => (if t350 = true then ((platbookref04_Count.f k (wrap64 (a1 - a0_3))).bind fun bt351 => (if bt351.2.2 = true then ((platbookref01_Cmp.f a2_0 a2_1 bt351.1 bt351.2.1).bind fun t355 => (platbookref04_Block.j0 k a1 (decide (t355 ≥ 0)) a0_0 a0_1 a0_2 a0_3 a2_0 a2_1)) else (platbookref04_Block.j0 k a1 false a0_0 a0_1 a0_2 a0_3 a2_0 a2_1))) else (some (false, 0, 0, 0, 1)))
set_option maxHeartbeats 8000000 in
set_option maxRecDepth 100000 in
theorem platbookref04_Block.calls (k : Nat) (a0_0 : Bool) (a0_1 : Int) (a0_2 : Int) (a0_3 : Int) (a1 : Int) (a2_0 : Int) (a2_1 : Int) (r1 : Bool) (r2 : Int) (r3 : Int) (r4 : Int) (r5 : Int) (w : World) (h : platbookref04_Block.f k a0_0 a0_1 a0_2 a0_3 a1 a2_0 a2_1 = some (r1, r2, r3, r4, r5)) :
  Calls Tryz.prog 100 #[.agg #[.bool a0_0, .int .u64 a0_1, .int .u64 a0_2, .int .i64 a0_3], .int .i64 a1, .agg #[.int .u64 a2_0, .int .u64 a2_1]] w fun e w' => e = .returned (.tuple #[.agg #[.bool r1, .int .u64 r2, .int .u64 r3, .int .i64 r4], .int .i64 r5]) ∧ Below w.heap.size w w' := by
 have hu28 := Tryz.underlying28
 have hu24 := Tryz.underlying24
 have hu26 := Tryz.underlying26
 have HB := Aside0.mk (Below.refl w.heap.size w)
 have H : ((platbookref04_Cuts.f k a0_0 a0_1 a0_2 a0_3 a1).bind fun t350 => (if t350 = true then ((platbookref04_Count.f k (wrap64 (a1 - a0_3))).bind fun bt351 => (if bt351.2.2 = true then ((platbookref01_Cmp.f a2_0 a2_1 bt351.1 bt351.2.1).bind fun t355 => (platbookref04_Block.j0 k a1 (decide (t355 ≥ 0)) a0_0 a0_1 a0_2 a0_3 a2_0 a2_1)) else (platbookref04_Block.j0 k a1 false a0_0 a0_1 a0_2 a0_3 a2_0 a2_1))) else (some (false, 0, 0, 0, 1)))) = some (r1, r2, r3, r4, r5) := h
 clear h
 replace H := Option.bind_eq_some_iff.mp H
 obtain ⟨t350, A40, H⟩ := H
 replace H : (if t350 = true then ((platbookref04_Count.f k (wrap64 (a1 - a0_3))).bind fun bt351 => (if bt351.2.2 = true then ((platbookref01_Cmp.f a2_0 a2_1 bt351.1 bt351.2.1).bind fun t355 => (platbookref04_Block.j0 k a1 (decide (t355 ≥ 0)) a0_0 a0_1 a0_2 a0_3 a2_0 a2_1)) else (platbookref04_Block.j0 k a1 false a0_0 a0_1 a0_2 a0_3 a2_0 a2_1))) else (some (false, 0, 0, 0, 1))) = some (r1, r2, r3, r4, r5) := H
 have A4 := Aside0.mk A40
 clear A40
 by_cases c5 : t350 = true
 ·
  subst c5
  rw [if_pos rfl] at H
  replace H := Option.bind_eq_some_iff.mp H
  obtain ⟨⟨t351, t352, t353⟩, A60, H⟩ := H
  replace H : (if t353 = true then ((platbookref01_Cmp.f a2_0 a2_1 t351 t352).bind fun t355 => (platbookref04_Block.j0 k a1 (decide (t355 ≥ 0)) a0_0 a0_1 a0_2 a0_3 a2_0 a2_1)) else (platbookref04_Block.j0 k a1 false a0_0 a0_1 a0_2 a0_3 a2_0 a2_1)) = some (r1, r2, r3, r4, r5) := H
  have A6 := Aside0.mk A60
  clear A60
  have HC7 := Aside0.mk H
  clear H
  go_enter Tryz.func100, Tryz.ntmps100
  go_upto_region 4 with (first | ((with_reducible refine gate_dst (N := 3) rfl ?_); refine bx_ 3 #[.bool a0_0, .int .u64 a0_1, .int .u64 a0_2, .int .i64 a0_3] 28 ?_; intro gb347 hg w8 hbox hb; have BK347 := Aside0.mk (hbox); have GW347 := gw_ HB hg; have GE347 := gw_ HB hg; replace HB := bs_ HB hb; clear hb hbox hg) | ((with_reducible refine gate_dst (N := 5) rfl ?_); refine bx_ 5 #[.int .u64 a2_0, .int .u64 a2_1] 24 ?_; intro gb348 hg w9 hbox hb; have BK348 := Aside0.mk (hbox); have GW348 := gw_ HB hg; have GE348 := gw_ HB hg; have NB347_348 := nl_ BK347 hg; have NB348_347 := ng_ BK347 hg; replace BK347 := bb_ BK347 hb; replace HB := bs_ HB hb; clear hb hbox hg) | ((with_reducible refine gate_dst (N := 6) rfl ?_); refine bx_ 6 #[.bool false, .int .u64 0, .int .u64 0, .int .i64 0] 28 ?_; intro gb349 hg w10 hbox hb; have BK349 := Aside0.mk (hbox); have GW349 := gw_ HB hg; have GE349 := gw_ HB hg; have NB347_349 := nl_ BK347 hg; have NB349_347 := ng_ BK347 hg; have NB348_349 := nl_ BK348 hg; have NB349_348 := ng_ BK348 hg; replace BK347 := bb_ BK347 hb; replace BK348 := bb_ BK348 hb; replace HB := bs_ HB hb; clear hb hbox hg; have hnb11 := NB347_348.out; have hnc11 := NB348_347.out; have hnb12 := NB347_349.out; have hnc12 := NB349_347.out; obtain ⟨hcz13_0, hcz13_1, hcz13_2, hcz13_3, hfz13_0, hfz13_1, hfz13_2, hfz13_3⟩ := c4_ BK347) | ((with_reducible refine gate_callee (f := 54) rfl ?_); refine gl_ (some 15) Tryz.func54 #[.agg #[.bool a0_0, .int .u64 a0_1, .int .u64 a0_2, .int .i64 a0_3], .int .i64 a1] ?_; (with_reducible refine (platbookref04_Cuts.calls k a0_0 a0_1 a0_2 a0_3 a1 true _ A4.out).mono ?_); rintro e w14 ⟨rfl, hb⟩; refine ⟨_, rfl, ?_⟩; replace BK347 := bb_ BK347 hb; replace BK348 := bb_ BK348 hb; replace BK349 := bb_ BK349 hb; replace HB := bs_ HB hb; (try clear hb); (try clear hb2); (try clear hk); (try clear hi); obtain ⟨hcz15_0, hcz15_1, hcz15_2, hcz15_3, hfz15_0, hfz15_1, hfz15_2, hfz15_3⟩ := c4_ BK347) | ((with_reducible refine gate_callee (f := 143) rfl ?_); refine gl_ (some 23) Tryz.func143 #[.int .i64 (wrap64 (a1 - a0_3))] ?_; (with_reducible refine (platbookref04_Count.calls k (wrap64 (a1 - a0_3)) t351 t352 t353 _ A6.out).mono ?_); rintro e w16 ⟨rfl, hb⟩; refine ⟨_, rfl, ?_⟩; replace BK347 := bb_ BK347 hb; replace BK348 := bb_ BK348 hb; replace BK349 := bb_ BK349 hb; replace HB := bs_ HB hb; (try clear hb); (try clear hb2); (try clear hk); (try clear hi)) | ((with_reducible refine gate_dst (N := 8) rfl ?_); refine bx_ 8 #[.int .u64 0, .int .u64 0] 24 ?_; intro gb354 hg w17 hbox hb; have BK354 := Aside0.mk (hbox); have GW354 := gw_ HB hg; have GE354 := gw_ HB hg; have NB347_354 := nl_ BK347 hg; have NB354_347 := ng_ BK347 hg; have NB348_354 := nl_ BK348 hg; have NB354_348 := ng_ BK348 hg; have NB349_354 := nl_ BK349 hg; have NB354_349 := ng_ BK349 hg; replace BK347 := bb_ BK347 hb; replace BK348 := bb_ BK348 hb; replace BK349 := bb_ BK349 hb; replace HB := bs_ HB hb; clear hb hbox hg; have hnb18 := NB354_347.out; have hnc18 := NB347_354.out; have hnb19 := NB354_348.out; have hnc19 := NB348_354.out; have hnb20 := NB354_349.out; have hnc20 := NB349_354.out; obtain ⟨hcz21_0, hcz21_1, hfz21_0, hfz21_1⟩ := c2_ BK354))
  (try simp only [Act.put, List.setIfInBounds_toArray, List.set_cons_zero, List.set_cons_succ])
  go_cut [32] (fun v32 wc => ∃ (kq : Nat) (x32_6 : Bool), v32 = .bool x32_6 ∧ Aside0 (platbookref04_Block.j0 kq a1 x32_6 a0_0 a0_1 a0_2 a0_3 a2_0 a2_1 = some (r1, r2, r3, r4, r5)) ∧ Aside0 (kq ≤ k) ∧ Aside0 (wc.heap[gb347]? = some (.cells #[.bool a0_0, .int .u64 a0_1, .int .u64 a0_2, .int .i64 a0_3] 28 (0, 0))) ∧ Aside0 (wc.heap[gb348]? = some (.cells #[.int .u64 a2_0, .int .u64 a2_1] 24 (0, 0))) ∧ Aside0 (wc.heap[gb349]? = some (.cells #[.bool false, .int .u64 0, .int .u64 0, .int .i64 0] 28 (0, 0))) ∧ Aside0 (wc.heap[gb354]? = some (.cells #[.int .u64 t351, .int .u64 t352] 24 (0, 0))) ∧ Aside0 (Below w.heap.size w wc))
  case first =>
   have H := HC7.out
   clear HC7
   by_cases c22 : t353 = true
   ·
    subst c22
    rw [if_pos rfl] at H
    replace H := Option.bind_eq_some_iff.mp H
    obtain ⟨t355, A230, H⟩ := H
    replace H : (platbookref04_Block.j0 k a1 (decide (t355 ≥ 0)) a0_0 a0_1 a0_2 a0_3 a2_0 a2_1) = some (r1, r2, r3, r4, r5) := H
    have A23 := Aside0.mk A230
    clear A230
    have H' := Aside0.mk H
    clear H
    have hnb24 := NB348_347.out
    have hnc24 := NB347_348.out
    have hnb25 := NB348_349.out
    have hnc25 := NB349_348.out
    have hnb26 := NB348_354.out
    have hnc26 := NB354_348.out
    obtain ⟨hcz27_0, hcz27_1, hfz27_0, hfz27_1⟩ := c2_ BK348
    have hnb28 := NB354_347.out
    have hnc28 := NB347_354.out
    have hnb29 := NB354_349.out
    have hnc29 := NB349_354.out
    obtain ⟨hcz30_0, hcz30_1, hfz30_0, hfz30_1⟩ := c2_ BK354
    go_wp2_with (first | (go_at_call 144; (with_reducible refine (platbookref01_Cmp.calls a2_0 a2_1 t351 t352 t355 _ A23.out).mono ?_); rintro e w31 ⟨rfl, hb⟩; replace BK347 := Aside0.mk (blk_below (g := gb347) (o := .cells #[.bool a0_0, .int .u64 a0_1, .int .u64 a0_2, .int .i64 a0_3] 28 (0, 0)) (by refine pw_ ?_; refine blk_far ?_ NB347_354.out _; refine pw_ ?_; refine blk_far ?_ NB347_354.out _; refine pw_ ?_; exact BK347.out) hb); replace BK348 := Aside0.mk (blk_below (g := gb348) (o := .cells #[.int .u64 a2_0, .int .u64 a2_1] 24 (0, 0)) (by refine pw_ ?_; refine blk_far ?_ NB348_354.out _; refine pw_ ?_; refine blk_far ?_ NB348_354.out _; refine pw_ ?_; exact BK348.out) hb); replace BK349 := Aside0.mk (blk_below (g := gb349) (o := .cells #[.bool false, .int .u64 0, .int .u64 0, .int .i64 0] 28 (0, 0)) (by refine pw_ ?_; refine blk_far ?_ NB349_354.out _; refine pw_ ?_; refine blk_far ?_ NB349_354.out _; refine pw_ ?_; exact BK349.out) hb); replace BK354 := Aside0.mk (blk_below (g := gb354) (o := .cells #[.int .u64 t351, .int .u64 t352] 24 (0, 0)) (by refine pw_ ?_; refine blk_put (cs := #[.int .u64 t351, .int .u64 0]) ?_ 1 _ rfl; refine pw_ ?_; refine blk_put (cs := #[.int .u64 0, .int .u64 0]) ?_ 0 _ rfl; refine pw_ ?_; exact BK354.out) hb); replace HB := bs_ HB hb; (try clear hb); (try clear hb2); (try clear hk); (try clear hi)))
    go_meet
    case rel => exact ⟨_, (decide (t355 ≥ 0)), (by first | rfl | (simp; done) | (simp [*]; done)), H', ⟨by first | omega | exact Nat.le_refl _⟩, ⟨by refine pw_ ?_; exact BK347.out⟩, ⟨by refine pw_ ?_; exact BK348.out⟩, ⟨by refine pw_ ?_; exact BK349.out⟩, ⟨by refine pw_ ?_; exact BK354.out⟩, ⟨pb_ HB⟩⟩
   ·
    replace c22 := Bool.eq_false_iff.mpr c22
    subst c22
    have H1 : (platbookref04_Block.j0 k a1 false a0_0 a0_1 a0_2 a0_3 a2_0 a2_1) = some (r1, r2, r3, r4, r5) := by rw [if_neg (show ¬ (false = true) by decide)] at H; exact H
    clear H
    have H := H1
    clear H1
    have H' := Aside0.mk H
    clear H
    go_wp2
    go_meet
    case rel => exact ⟨_, (false), (by first | rfl | (simp; done) | (simp [*]; done)), H', ⟨by first | omega | exact Nat.le_refl _⟩, ⟨by refine pw_ ?_; refine blk_far ?_ NB347_354.out _; refine pw_ ?_; refine blk_far ?_ NB347_354.out _; refine pw_ ?_; exact BK347.out⟩, ⟨by refine pw_ ?_; refine blk_far ?_ NB348_354.out _; refine pw_ ?_; refine blk_far ?_ NB348_354.out _; refine pw_ ?_; exact BK348.out⟩, ⟨by refine pw_ ?_; refine blk_far ?_ NB349_354.out _; refine pw_ ?_; refine blk_far ?_ NB349_354.out _; refine pw_ ?_; exact BK349.out⟩, ⟨by refine pw_ ?_; refine blk_put (cs := #[.int .u64 t351, .int .u64 0]) ?_ 1 _ rfl; refine pw_ ?_; refine blk_put (cs := #[.int .u64 0, .int .u64 0]) ?_ 0 _ rfl; refine pw_ ?_; exact BK354.out⟩, ⟨pb_ HB⟩⟩
  case rest =>
   clear HC7
   try clear c1
   try clear c2
   try clear p2
   try clear c5
   try clear p6
   try clear c10
   try clear c11
   try clear c12
   try clear c14
   try clear c18
   try clear c19
   try clear c20
   try clear c22
   try clear c24
   try clear c25
   try clear c26
   try clear c28
   try clear c29
   try clear hcz13_0
   try clear hcz13_1
   try clear hcz13_2
   try clear hcz13_3
   try clear hcz15_0
   try clear hcz15_1
   try clear hcz15_2
   try clear hcz15_3
   try clear hcz21_0
   try clear hcz21_1
   try clear hcz27_0
   try clear hcz27_1
   try clear hcz30_0
   try clear hcz30_1
   try clear hfz13_0
   try clear hfz13_1
   try clear hfz13_2
   try clear hfz13_3
   try clear hfz15_0
   try clear hfz15_1
   try clear hfz15_2
   try clear hfz15_3
   try clear hfz21_0
   try clear hfz21_1
   try clear hfz27_0
   try clear hfz27_1
   try clear hfz30_0
   try clear hfz30_1
   obtain ⟨kq, x32_6, rfl, HA, HJ6, BK347, BK348, BK349, BK354, HB⟩ := hcut
   cases kq with
   | zero => exact absurd HA.out (by simp [platbookref04_Block.j0])
   | succ kj6 =>
    have H := HA.out
    clear HA
    simp only [platbookref04_Block.j0] at H
    by_cases c32 : x32_6 = true
    ·
     subst c32
     rw [if_pos rfl] at H
     simp only [Option.some.injEq, Prod.mk.injEq] at H
     obtain ⟨rfl, rfl, rfl, rfl, rfl⟩ := H
     have hnb33 := NB349_347.out
     have hnc33 := NB347_349.out
     have hnb34 := NB349_348.out
     have hnc34 := NB348_349.out
     have hnb35 := NB349_354.out
     have hnc35 := NB354_349.out
     obtain ⟨hcz36_0, hcz36_1, hcz36_2, hcz36_3, hfz36_0, hfz36_1, hfz36_2, hfz36_3⟩ := c4_ BK349
     go_wp2
     refine bodyPost_ret (results_ct rfl _ _ gb349 28 #[.bool false, .int .u64 0, .int .u64 0, .int .i64 0] (0, 0) _ rfl (by refine pw_ ?_; refine blk_put (cs := #[.bool false, .int .u64 0, .int .u64 0, .int .i64 0]) ?_ 3 _ rfl; refine pw_ ?_; refine blk_put (cs := #[.bool false, .int .u64 0, .int .u64 0, .int .i64 0]) ?_ 2 _ rfl; refine pw_ ?_; refine blk_put (cs := #[.bool false, .int .u64 0, .int .u64 0, .int .i64 0]) ?_ 1 _ rfl; refine pw_ ?_; refine blk_put (cs := #[.bool false, .int .u64 0, .int .u64 0, .int .i64 0]) ?_ 0 _ rfl; refine pw_ ?_; exact BK349.out) Tryz.underlying28 rfl (by kernel_rfl)) rfl ?_
     exact ⟨by first | rfl | (simp [errW_none, errW_some] <;> rfl) | (simp [*, errW_none, errW_some] <;> rfl), pb_ HB⟩
    ·
     replace c32 := Bool.eq_false_iff.mpr c32
     subst c32
     have H1 : ((platbookref03_Row.f kj6 a0_0 a0_1 a0_2).bind fun t356 => ((platbookref01_Bits.f kj6 a2_0 a2_1).bind fun t359 => (platbookref04_Block.l0 kj6 a1 t356 t359 0 a0_0 a0_1 a0_2 a0_3))) = some (r1, r2, r3, r4, r5) := by rw [if_neg (show ¬ (false = true) by decide)] at H; exact H
     clear H
     have H := H1
     clear H1
     replace H := Option.bind_eq_some_iff.mp H
     obtain ⟨t356, A370, H⟩ := H
     replace H : ((platbookref01_Bits.f kj6 a2_0 a2_1).bind fun t359 => (platbookref04_Block.l0 kj6 a1 t356 t359 0 a0_0 a0_1 a0_2 a0_3)) = some (r1, r2, r3, r4, r5) := H
     have A37 := Aside0.mk A370
     clear A370
     replace H := Option.bind_eq_some_iff.mp H
     obtain ⟨t359, A380, H⟩ := H
     replace H : (platbookref04_Block.l0 kj6 a1 t356 t359 0 a0_0 a0_1 a0_2 a0_3) = some (r1, r2, r3, r4, r5) := H
     have A38 := Aside0.mk A380
     clear A380
     have H' := Aside0.mk H
     clear H
     have hnb39 := NB347_348.out
     have hnc39 := NB348_347.out
     have hnb40 := NB347_349.out
     have hnc40 := NB349_347.out
     have hnb41 := NB347_354.out
     have hnc41 := NB354_347.out
     obtain ⟨hcz42_0, hcz42_1, hcz42_2, hcz42_3, hfz42_0, hfz42_1, hfz42_2, hfz42_3⟩ := c4_ BK347
     go_wp2_with (first | ((with_reducible refine gate_callee (f := 107) rfl ?_); refine gl_ (some 36) Tryz.func107 #[.agg #[.bool a0_0, .int .u64 a0_1, .int .u64 a0_2]] ?_; (with_reducible refine (platbookref03_Row.calls kj6 a0_0 a0_1 a0_2 t356 _ A37.out).mono ?_); rintro e w43 ⟨v357, rfl, ho0, hb⟩; refine ⟨_, rfl, ?_⟩; have HO358 := Aside0.mk (Kd.R_lower ho0 (below_size (pb_ HB))); replace BK347 := bb_ BK347 hb; replace BK348 := bb_ BK348 hb; replace BK349 := bb_ BK349 hb; replace BK354 := bb_ BK354 hb; replace HB := bs_ HB hb; (try clear hb); (try clear hb2); (try clear hk); (try clear hi); (try clear ho0); have hnb44 := NB348_349.out; have hnc44 := NB349_348.out; have hnb45 := NB348_354.out; have hnc45 := NB354_348.out; obtain ⟨hcz46_0, hcz46_1, hfz46_0, hfz46_1⟩ := c2_ BK348) | ((with_reducible refine gate_callee (f := 145) rfl ?_); refine gl_ (some 38) Tryz.func145 #[.agg #[.int .u64 a2_0, .int .u64 a2_1]] ?_; (with_reducible refine (platbookref01_Bits.calls kj6 a2_0 a2_1 t359 _ A38.out).mono ?_); rintro e w47 ⟨v360, rfl, ho0, hb⟩; refine ⟨_, rfl, ?_⟩; have HO361 := Aside0.mk (Kd.R_lower (Kd.R_new' ho0 (Kd.R_lt (by (with_reducible repeat (first | apply Kd.R_alloc | apply Kd.R_drewN | apply Kd.R_drew)); exact HO358.out))) (below_size (pb_ HB))); replace HO358 := Aside0.mk (Kd.R_elder' (by (with_reducible repeat (first | apply Kd.R_alloc | apply Kd.R_drewN | apply Kd.R_drew)); exact HO358.out) (Kd.R_base ho0) hb); replace BK347 := bb_ BK347 hb; replace BK348 := bb_ BK348 hb; replace BK349 := bb_ BK349 hb; replace BK354 := bb_ BK354 hb; replace HB := bs_ HB hb; (try clear hb); (try clear hb2); (try clear hk); (try clear hi); (try clear ho0)))
     go_loopg [12] kj6 (fun kq v12 w' => ∃ (x10_2 : List Int) (x12_2 : Int), v12 = .int .i64 x12_2 ∧ Aside0 (platbookref04_Block.l0 kq a1 x10_2 t359 x12_2 a0_0 a0_1 a0_2 a0_3 = some (r1, r2, r3, r4, r5)) ∧ Aside0 (kq ≤ kj6) ∧ Aside0 (Kd.R (Kd.int .i64) 3 w' w.heap.size (fun k_ => some k_ ≠ (v360 : Value).ownBlock) v357 x10_2) ∧ Aside0 (Kd.R (Kd.int .i64) 3 w' w.heap.size (fun k_ => some k_ ≠ (v357 : Value).ownBlock) v360 t359) ∧ Aside0 (w'.heap[gb347]? = some (.cells #[.bool a0_0, .int .u64 a0_1, .int .u64 a0_2, .int .i64 a0_3] 28 (0, 0))) ∧ Aside0 (w'.heap[gb348]? = some (.cells #[.int .u64 a2_0, .int .u64 a2_1] 24 (0, 0))) ∧ Aside0 (w'.heap[gb349]? = some (.cells #[.bool false, .int .u64 0, .int .u64 0, .int .i64 0] 28 (0, 0))) ∧ Aside0 (w'.heap[gb354]? = some (.cells #[.int .u64 t351, .int .u64 t352] 24 (0, 0))) ∧ Aside0 (Below w.heap.size w w'))
     case atStart => exact ⟨(t356), (0), (by first | rfl | (simp; done) | (simp [*]; done)), H', ⟨Nat.le_refl _⟩, ⟨by (with_reducible repeat (first | apply Kd.R_alloc | apply Kd.R_drewN | apply Kd.R_drew)); exact Kd.R_mono HO358.out (fun _ hk => hk.2)⟩, ⟨by (with_reducible repeat (first | apply Kd.R_alloc | apply Kd.R_drewN | apply Kd.R_drew)); exact Kd.R_mono HO361.out (fun _ hk => hk.2)⟩, ⟨by refine pw_ ?_; exact BK347.out⟩, ⟨by refine pw_ ?_; exact BK348.out⟩, ⟨by refine pw_ ?_; exact BK349.out⟩, ⟨by refine pw_ ?_; exact BK354.out⟩, ⟨pb_ HB⟩⟩
     case round =>
      clear H'
      try clear c1
      try clear c2
      try clear p2
      try clear c3
      try clear c4
      try clear c5
      try clear p6
      try clear c10
      try clear c11
      try clear c12
      try clear c14
      try clear c18
      try clear c19
      try clear c20
      try clear c22
      try clear c24
      try clear c25
      try clear c26
      try clear c28
      try clear c29
      try clear c32
      try clear c33
      try clear c34
      try clear c35
      try clear c39
      try clear c40
      try clear c41
      try clear c44
      try clear c45
      try clear hcz13_0
      try clear hcz13_1
      try clear hcz13_2
      try clear hcz13_3
      try clear hcz15_0
      try clear hcz15_1
      try clear hcz15_2
      try clear hcz15_3
      try clear hcz21_0
      try clear hcz21_1
      try clear hcz27_0
      try clear hcz27_1
      try clear hcz30_0
      try clear hcz30_1
      try clear hcz36_0
      try clear hcz36_1
      try clear hcz36_2
      try clear hcz36_3
      try clear hcz42_0
      try clear hcz42_1
      try clear hcz42_2
      try clear hcz42_3
      try clear hcz46_0
      try clear hcz46_1
      try clear hfz13_0
      try clear hfz13_1
      try clear hfz13_2
      try clear hfz13_3
      try clear hfz15_0
      try clear hfz15_1
      try clear hfz15_2
      try clear hfz15_3
      try clear hfz21_0
      try clear hfz21_1
      try clear hfz27_0
      try clear hfz27_1
      try clear hfz30_0
      try clear hfz30_1
      try clear hfz36_0
      try clear hfz36_1
      try clear hfz36_2
      try clear hfz36_3
      try clear hfz42_0
      try clear hfz42_1
      try clear hfz42_2
      try clear hfz42_3
      try clear hfz46_0
      try clear hfz46_1
      try clear p2
      try clear p6
      obtain ⟨x10_2, x12_2, rfl, HA, HK2, HO_10, HO_11, BK347, BK348, BK349, BK354, HB⟩ := hrel
      cases gk with
      | zero => exact absurd HA.out (by simp [platbookref04_Block.l0])
      | succ k2 =>
       have H := HA.out
       clear HA
       simp only [platbookref04_Block.l0] at H
       by_cases c48 : x12_2 < (wrap64 (a1 - a0_3))
       ·
        rw [if_pos c48] at H
        have c48b0 : decide (x12_2 < (wrap64 (a1 - a0_3))) = true := decide_eq_true c48
        clear c48
        by_cases c49 : 0 ≤ x12_2
        ·
         rw [if_pos c49] at H
         have c49b0 : decide (0 ≤ x12_2) = true := decide_eq_true c49
         clear c49
         by_cases c50 : x12_2 < (t359.length : Int)
         ·
          rw [if_pos c50] at H
          have c50b0 : decide (x12_2 < (t359.length : Int)) = true := decide_eq_true c50
          clear c50
          obtain ⟨ji51, hji51⟩ : ∃ j_ : Int, (wrap64 ((wrap64 (a1 - 1)) - x12_2)) = j_ := ⟨_, rfl⟩
          replace H : (if 0 ≤ (ji51) then (if (ji51) < (x10_2.length : Int) then (platbookref04_Block.l0 k2 a1 (x10_2.set ((ji51) : Int).toNat (rd t359 x12_2)) t359 (wrap64 (x12_2 + 1)) a0_0 a0_1 a0_2 a0_3) else (none)) else (none)) = some (r1, r2, r3, r4, r5) := by first | (rw [hji51] at H; exact H) | (simp only [hji51] at H ⊢; exact H)
          have hji51w : (IntKind.i64.wrap ((wrap64 (a1 - 1)) - x12_2)) = ji51 := (i64_w _).trans hji51
          by_cases c52 : 0 ≤ (ji51)
          ·
           rw [if_pos c52] at H
           have c52b0 : decide (0 ≤ (ji51)) = true := decide_eq_true c52
           clear c52
           by_cases c53 : (ji51) < (x10_2.length : Int)
           ·
            rw [if_pos c53] at H
            have c53b0 : decide ((ji51) < (x10_2.length : Int)) = true := decide_eq_true c53
            clear c53
            obtain ⟨y363, hy363⟩ : ∃ y_ : List Int, y_ = (x10_2.set ((ji51) : Int).toNat (rd t359 x12_2)) := ⟨_, rfl⟩
            replace H : (platbookref04_Block.l0 k2 a1 y363 t359 (wrap64 (x12_2 + 1)) a0_0 a0_1 a0_2 a0_3) = some (r1, r2, r3, r4, r5) := by first | (rw [hy363]; with_reducible exact H) | (have H2_ := (Option.bind_some _ _).symm.trans H; rw [hy363]; with_reducible exact H2_) | (have H2_ := (Option.bind_some _ _).symm.trans H; with_reducible exact H2_) | with_reducible exact H | (rw [hy363]; exact H) | exact H
            have Ny363 := Aside0.mk hy363
            clear hy363
            have H' := Aside0.mk H
            clear H
            have hnb55 := NB347_348.out
            have hnc55 := NB348_347.out
            have hnb56 := NB347_349.out
            have hnc56 := NB349_347.out
            have hnb57 := NB347_354.out
            have hnc57 := NB354_347.out
            obtain ⟨hcz58_0, hcz58_1, hcz58_2, hcz58_3, hfz58_0, hfz58_1, hfz58_2, hfz58_3⟩ := c4_ BK347
            obtain ⟨Ao59, co59, eo59⟩ := Kd.R_slice HO_11.out
            subst eo59
            have p362 : 0 ≤ (x12_2 : Int) := of_decide_eq_true (by first | (with_reducible assumption) | assumption)
            have q362 : x12_2 < (t359.length : Int) := of_decide_eq_true (by first | (with_reducible assumption) | assumption)
            obtain ⟨ad362, e362, hx362_0⟩ := Kd.at_int (Kd.R_reads' HO_11.out).2.2 x12_2 p362 q362
            cases e362
            replace p362 := eq_true p362
            replace q362 := eq_true q362
            have p54 : 0 ≤ ((ji51) : Int) := of_decide_eq_true (by first | (with_reducible assumption) | assumption)
            have q54 : ((ji51) : Int) < ((x10_2.length : Int) : Int) := of_decide_eq_true (by first | (with_reducible assumption) | assumption)
            obtain ⟨go54, co54, eo54, gb54, gl54, cl54, HG54⟩ := Kd.R_form HO_10.out (by omega)
            (first | cases eo54 | (injection eo54 with ea_ en_ ec_; (first | subst ea_ | (injection ea_ with ea_; subst ea_)); subst ec_; clear en_))
            have GB54 := Aside0.mk gb54
            have GG54 := Aside0.mk HG54
            clear gb54 gl54 HG54
            obtain ⟨hx54_0, hf54_0⟩ := Kd.R_celln 0 HO_10.out ((ji51) : Int) p54 q54
            replace p54 := eq_true p54
            replace q54 := eq_true q54
            have HP60 := Kd.R_putg HO_10.out ((ji51) : Int) (rd t359 x12_2)
            go_wp2_with (first | ((with_reducible refine gate_store (t := 3) (p := 56) rfl ?_); refine store_event (t := 3) (p := 56) (v := ?vo_w61) (w1 := (wr.setCell ⟨go54, ((ji51) : Int).toNat, none⟩ (.int .i64 (rd t359 x12_2)))) ?hg ?ho ?hn ?hr ?_; (case ho => rfl); (case hg => rfl); (case hn => rfl); (case hr => first | (go_simp; done) | (go_simp; rfl)); intro w61 hw; have hg : wr.grownBy w61 (some go54) := (by rw [hw]; exact HP60.2); have hp_ : Kd.R (Kd.int .i64) 3 w61 w.heap.size (fun k_ => some k_ ≠ (.slice (some ad362) t359.length co59 : Value).ownBlock) (.slice (some ⟨go54, 0, none⟩) x10_2.length co54) y363 := (by rw [hw, Ny363.out]; exact HP60.1); clear HP60; have n0_ := Aside0.mk (hp_); have n1_ := Aside0.mk (Kd.R_after (v := (.slice (some ⟨go54, 0, none⟩) x10_2.length co54)) (v1 := (.slice (some ⟨go54, 0, none⟩) x10_2.length co54)) (ok := (fun _ => True)) (by (with_reducible repeat (first | apply Kd.R_alloc | apply Kd.R_drewN | apply Kd.R_drew)); exact Kd.R_mono HO_11.out (fun _ hk => ⟨trivial, hk⟩)) hg (.inl rfl)); have n2_ := Aside0.mk (blk_grown (g := gb347) (o := .cells #[.bool a0_0, .int .u64 a0_1, .int .u64 a0_2, .int .i64 a0_3] 28 (0, 0)) (pk_ BK347) hg (Kd.R_ne HO_10.out BK347.out (by decide))); have n3_ := Aside0.mk (blk_grown (g := gb348) (o := .cells #[.int .u64 a2_0, .int .u64 a2_1] 24 (0, 0)) (pk_ BK348) hg (Kd.R_ne HO_10.out BK348.out (by decide))); have n4_ := Aside0.mk (blk_grown (g := gb349) (o := .cells #[.bool false, .int .u64 0, .int .u64 0, .int .i64 0] 28 (0, 0)) (pk_ BK349) hg (Kd.R_ne HO_10.out BK349.out (by decide))); have n5_ := Aside0.mk (blk_grown (g := gb354) (o := .cells #[.int .u64 t351, .int .u64 t352] 24 (0, 0)) (pk_ BK354) hg (Kd.R_ne HO_10.out BK354.out (by decide))); have n6_ := Aside0.mk ((by rw [hw]; exact below_set (HB.out) GB54.out : Below w.heap.size w w61)); clear HO_10; clear HO_11; clear BK347; clear BK348; clear BK349; clear BK354; clear HB; have HO_10 := n0_; have HO_11 := n1_; have BK347 := n2_; have BK348 := n3_; have BK349 := n4_; have BK354 := n5_; have HB := n6_; clear n0_ n1_ n2_ n3_ n4_ n5_ n6_; clear hg hw hp_))
            go_roundg k2
            case measure => have := HJ6.out; have := HK2.out; omega
            case rel => exact ⟨(y363), (wrap64 (x12_2 + 1)), (by first | rfl | (simp; done) | (simp [*]; done)), H', ⟨by have := HJ6.out; have := HK2.out; omega⟩, ⟨by (with_reducible repeat (first | apply Kd.R_alloc | apply Kd.R_drewN | apply Kd.R_drew)); exact HO_10.out⟩, ⟨by (with_reducible repeat (first | apply Kd.R_alloc | apply Kd.R_drewN | apply Kd.R_drew)); exact Kd.R_mono HO_11.out (fun _ hk => hk.2)⟩, ⟨by refine pw_ ?_; exact BK347.out⟩, ⟨by refine pw_ ?_; exact BK348.out⟩, ⟨by refine pw_ ?_; exact BK349.out⟩, ⟨by refine pw_ ?_; exact BK354.out⟩, ⟨pb_ HB⟩⟩
           ·
            rw [if_neg c53] at H
            exact absurd H (by simp)
          ·
           rw [if_neg c52] at H
           exact absurd H (by simp)
         ·
          rw [if_neg c50] at H
          exact absurd H (by simp)
        ·
         rw [if_neg c49] at H
         exact absurd H (by simp)
       ·
        rw [if_neg c48] at H
        have c48b0 : decide (x12_2 < (wrap64 (a1 - a0_3))) = false := decide_eq_false c48
        clear c48
        replace H := Option.bind_eq_some_iff.mp H
        obtain ⟨⟨t364, t365, t366⟩, A620, H⟩ := H
        replace H : (some (t364, t365, t366, a1, 0)) = some (r1, r2, r3, r4, r5) := H
        have A62 := Aside0.mk A620
        clear A620
        simp only [Option.some.injEq, Prod.mk.injEq] at H
        obtain ⟨rfl, rfl, rfl, rfl, rfl⟩ := H
        have hnb63 := NB347_348.out
        have hnc63 := NB348_347.out
        have hnb64 := NB347_349.out
        have hnc64 := NB349_347.out
        have hnb65 := NB347_354.out
        have hnc65 := NB354_347.out
        obtain ⟨hcz66_0, hcz66_1, hcz66_2, hcz66_3, hfz66_0, hfz66_1, hfz66_2, hfz66_3⟩ := c4_ BK347
        obtain ⟨Ao67, co67, eo67⟩ := Kd.R_slice HO_10.out
        subst eo67
        go_wp2_with (first | ((with_reducible refine gate_callee (f := 146) rfl ?_); refine gl_ (some 61) Tryz.func146 #[.bool a0_0, .slice Ao67 x10_2.length co67] ?_; (with_reducible refine (platbookref03_Addr.calls k2 a0_0 _ _ x10_2 t364 t365 t366 _ ?side1 ?side2 A62.out).mono ?_); (case side1 => repeat (first | exact (Kd.R_reads' HO_10.out).2.2 | (with_reducible refine Kd.C_alloc ?_ _) | (with_reducible refine Kd.C_drewN ?_ _) | (with_reducible refine Kd.C_drew ?_))); (case side2 => exact (Kd.R_reads' HO_10.out).2.1); rintro e w68 ⟨rfl, hb⟩; refine ⟨_, rfl, ?_⟩; replace HO_10 := Aside0.mk (Kd.R_below (by (with_reducible repeat (first | apply Kd.R_alloc | apply Kd.R_drewN | apply Kd.R_drew)); exact HO_10.out) hb); replace HO_11 := Aside0.mk (Kd.R_below (by (with_reducible repeat (first | apply Kd.R_alloc | apply Kd.R_drewN | apply Kd.R_drew)); exact HO_11.out) hb); replace BK347 := bb_ BK347 hb; replace BK348 := bb_ BK348 hb; replace BK349 := bb_ BK349 hb; replace BK354 := bb_ BK354 hb; replace HB := bs_ HB hb; (try clear hb); (try clear hb2); (try clear hk); (try clear hi); have hnb69 := NB349_348.out; have hnc69 := NB348_349.out; have hnb70 := NB349_354.out; have hnc70 := NB354_349.out; obtain ⟨hcz71_0, hcz71_1, hcz71_2, hcz71_3, hfz71_0, hfz71_1, hfz71_2, hfz71_3⟩ := c4_ BK349))
        refine bodyPost_ret (results_ct rfl _ _ gb349 28 #[.bool t364, .int .u64 t365, .int .u64 t366, .int .i64 a1] (0, 0) _ rfl (by refine pw_ ?_; refine blk_put (cs := #[.bool t364, .int .u64 t365, .int .u64 t366, .int .i64 0]) ?_ 3 _ rfl; refine pw_ ?_; refine blk_put (cs := #[.bool t364, .int .u64 t365, .int .u64 0, .int .i64 0]) ?_ 2 _ rfl; refine pw_ ?_; refine blk_put (cs := #[.bool t364, .int .u64 0, .int .u64 0, .int .i64 0]) ?_ 1 _ rfl; refine pw_ ?_; refine blk_put (cs := #[.bool false, .int .u64 0, .int .u64 0, .int .i64 0]) ?_ 0 _ rfl; refine pw_ ?_; exact BK349.out) Tryz.underlying28 rfl (by kernel_rfl)) rfl ?_
        exact ⟨by first | rfl | (simp [errW_none, errW_some] <;> rfl) | (simp [*, errW_none, errW_some] <;> rfl), pb_ HB⟩
 ·
  replace c5 := Bool.eq_false_iff.mpr c5
  subst c5
  have H1 : (some (false, 0, 0, 0, 1)) = some (r1, r2, r3, r4, r5) := by rw [if_neg (show ¬ (false = true) by decide)] at H; exact H
  clear H
  have H := H1
  clear H1
  simp only [Option.some.injEq, Prod.mk.injEq] at H
  obtain ⟨rfl, rfl, rfl, rfl, rfl⟩ := H
  go_enter Tryz.func100, Tryz.ntmps100
  go_wp2_with (first | ((with_reducible refine gate_dst (N := 3) rfl ?_); refine bx_ 3 #[.bool a0_0, .int .u64 a0_1, .int .u64 a0_2, .int .i64 a0_3] 28 ?_; intro gb347 hg w72 hbox hb; have BK347 := Aside0.mk (hbox); have GW347 := gw_ HB hg; have GE347 := gw_ HB hg; replace HB := bs_ HB hb; clear hb hbox hg) | ((with_reducible refine gate_dst (N := 5) rfl ?_); refine bx_ 5 #[.int .u64 a2_0, .int .u64 a2_1] 24 ?_; intro gb348 hg w73 hbox hb; have BK348 := Aside0.mk (hbox); have GW348 := gw_ HB hg; have GE348 := gw_ HB hg; have NB347_348 := nl_ BK347 hg; have NB348_347 := ng_ BK347 hg; replace BK347 := bb_ BK347 hb; replace HB := bs_ HB hb; clear hb hbox hg) | ((with_reducible refine gate_dst (N := 6) rfl ?_); refine bx_ 6 #[.bool false, .int .u64 0, .int .u64 0, .int .i64 0] 28 ?_; intro gb349 hg w74 hbox hb; have BK349 := Aside0.mk (hbox); have GW349 := gw_ HB hg; have GE349 := gw_ HB hg; have NB347_349 := nl_ BK347 hg; have NB349_347 := ng_ BK347 hg; have NB348_349 := nl_ BK348 hg; have NB349_348 := ng_ BK348 hg; replace BK347 := bb_ BK347 hb; replace BK348 := bb_ BK348 hb; replace HB := bs_ HB hb; clear hb hbox hg; have hnb75 := NB347_348.out; have hnc75 := NB348_347.out; have hnb76 := NB347_349.out; have hnc76 := NB349_347.out; obtain ⟨hcz77_0, hcz77_1, hcz77_2, hcz77_3, hfz77_0, hfz77_1, hfz77_2, hfz77_3⟩ := c4_ BK347) | ((with_reducible refine gate_callee (f := 54) rfl ?_); refine gl_ (some 15) Tryz.func54 #[.agg #[.bool a0_0, .int .u64 a0_1, .int .u64 a0_2, .int .i64 a0_3], .int .i64 a1] ?_; (with_reducible refine (platbookref04_Cuts.calls k a0_0 a0_1 a0_2 a0_3 a1 false _ A4.out).mono ?_); rintro e w78 ⟨rfl, hb⟩; refine ⟨_, rfl, ?_⟩; replace BK347 := bb_ BK347 hb; replace BK348 := bb_ BK348 hb; replace BK349 := bb_ BK349 hb; replace HB := bs_ HB hb; (try clear hb); (try clear hb2); (try clear hk); (try clear hi); have hnb79 := NB349_348.out; have hnc79 := NB348_349.out; obtain ⟨hcz80_0, hcz80_1, hcz80_2, hcz80_3, hfz80_0, hfz80_1, hfz80_2, hfz80_3⟩ := c4_ BK349))
  refine bodyPost_ret (results_ct rfl _ _ gb349 28 #[.bool false, .int .u64 0, .int .u64 0, .int .i64 0] (0, 0) _ rfl (by refine pw_ ?_; refine blk_put (cs := #[.bool false, .int .u64 0, .int .u64 0, .int .i64 0]) ?_ 3 _ rfl; refine pw_ ?_; refine blk_put (cs := #[.bool false, .int .u64 0, .int .u64 0, .int .i64 0]) ?_ 2 _ rfl; refine pw_ ?_; refine blk_put (cs := #[.bool false, .int .u64 0, .int .u64 0, .int .i64 0]) ?_ 1 _ rfl; refine pw_ ?_; refine blk_put (cs := #[.bool false, .int .u64 0, .int .u64 0, .int .i64 0]) ?_ 0 _ rfl; refine pw_ ?_; exact BK349.out) Tryz.underlying28 rfl (by kernel_rfl)) rfl ?_
  exact ⟨by first | rfl | (simp [errW_none, errW_some] <;> rfl) | (simp [*, errW_none, errW_some] <;> rfl), pb_ HB⟩

end Go.Proofs.YtpfilldnfpcpkaaGreatDoor.PPo

namespace Go.Proofs.YtpfilldnfpcpkaaGreatDoor

theorem wordsV_length (f : Nat → Bool) (K : Nat) : (wordsV f K).length = K := by simp [wordsV]
end Go.Proofs.YtpfilldnfpcpkaaGreatDoor

namespace Go.Proofs.YtpfilldnfpcpkaaGreatDoor
open Go.RowKit

theorem sofar_andNot (f q : Nat → Bool) (k : Nat) : W (fun i => f i && !q i) k = W (sofar false f q (k + 1)) k :=
  W_congr fun j hj => by
    unfold sofar
    have : 64 * k + j < 64 * (k + 1) := by omega
    cases h : q (64 * k + j) <;> simp [this]
set_option maxRecDepth 20000 in
theorem clear1_c (a b g c n k : Nat) (f q : Nat → Bool) (w0 w : World) (hx : Going false f q (fun i => q i && f i) a b g c n w0 k w) (hk : k < (n + 63) / 64) (hq : ∀ i, n ≤ i → q i = false) :
    Calls Tryz.prog 147 #[.int .i64 k, .int .u64 (W q k : Nat), .pointer (some ⟨a, 0, none⟩), .pointer (some ⟨b, 0, none⟩)] w fun e w' => e = .returned (.tuple #[]) ∧ Going false f q (fun i => q i && f i) a b g c n w0 (k + 1) w' := by
  have hfin := hx.drew.next hk hq
  have k0 := (hx.box.cell 0).trans rfl
  have k1 := (hx.ptr.cell 0).trans rfl
  simp only [List.getElem?_toArray, List.getElem?_cons_zero] at k0 k1
  have k2 := hx.map.words
  have k3 := hx.map.word hk
  rw [sofar_word] at k3
  have hh := i_and q f k
  have hh2 := i_andNot f q k
  rw [sofar_andNot] at hh2
  have hsm := hx.map.small
  have n1 := hx.box.ne hx.ptr (by decide)
  have n2 := hx.box.ne hx.map.head (by decide)
  have n3 := hx.box.ne hx.map.row (by decide)
  have hb1 := cnt_le (fun i => q i && f i) 0 (64 * k)
  have hb2 := cnt_le (fun i => q i && f i) (64 * k) 64
  have dk : (k : Int) < ((n : Int) + 63) / 64 := by omega
  have z0 := hx.drew.box.frozen 0
  have z1 := hx.drew.map.free k
  have HF := Lib.hid hfin
  clear hfin hx hq
  generalize cnt (fun i => q i && f i) 0 (64 * k) = s at *
  go_enter Tryz.func147, Tryz.ntmps147
  go_wp2_with fail
  refine wp_region_still_tail 12 (by kernel_rfl) (by kernel_rfl) ?_
  simp only [List.take_succ_cons, List.take_zero, List.drop_succ_cons, List.drop_zero]
  iterate 10 still_step
  still_call (one_is (bones_c _ _ _))
  still_step
  refine wpStill_nil ?_
  change wpList _ _ _ _ _ w.drew
  have q0 : w.drew.cell? ⟨a, 0, none⟩ = some (Value.int .i64 s) := k0
  have q1 : w.drew.cell? ⟨b, 0, none⟩ = some (Value.pointer (some ⟨g, 0, none⟩)) := k1
  have q2 : w.drew.cell? ⟨g, 1, none⟩ = some (.slice (some ⟨c, 0, none⟩) ((n + 63) / 64) ((n + 63) / 64)) := k2
  have q3 : w.drew.cell? ⟨c, k, none⟩ = some (.int .u64 (W f k : Nat)) := k3
  clear k0 k1 k2 k3
  generalize w.drew = w2 at *
  go_wp2_with fail
  go_end0
  exact ⟨rfl, HF.out⟩
end Go.Proofs.YtpfilldnfpcpkaaGreatDoor

namespace Go.Proofs.YtpfilldnfpcpkaaGreatDoor
open Go.RowKit

set_option maxRecDepth 20000 in
theorem clear_each (B : Bool) (f h : Nat → Bool) (a b g c n i j : Nat) (w0 w : World)
    (hstep : ∀ k w, k < (n + 63) / 64 → Going B f (inr i j) h a b g c n w0 k w →
      Calls Tryz.prog 147 #[.int .i64 k, .int .u64 (W (inr i j) k : Nat), .pointer (some ⟨a, 0, none⟩), .pointer (some ⟨b, 0, none⟩)] w fun e w' => e = .returned (.tuple #[]) ∧ Going B f (inr i j) h a b g c n w0 (k + 1) w')
    (hi : i ≤ j) (hj : j < n) (hx : Going B f (inr i j) h a b g c n w0 (i / 64) w) :
    Calls Tryz.prog 140 #[.pointer (some ⟨g, 0, none⟩), .int .i64 i, .int .i64 j, .func (.func 147) #[] #[.pointer (some ⟨a, 0, none⟩), .pointer (some ⟨b, 0, none⟩)]] w
      fun e w' => e = .returned (.int .i64 0) ∧ Going B f (inr i j) h a b g c n w0 (j / 64 + 1) w' := by
  have h0 := hx.map.size
  have hs := hx.map.small
  have d1 : decide ((0 : Int) ≤ (i : Int) ∧ (i : Int) < (n : Int)) = true := decide_eq_true (by omega)
  have d2 : decide ((0 : Int) ≤ (j : Int) ∧ (j : Int) < (n : Int)) = true := decide_eq_true (by omega)
  have d3 : decide (j < i) = false := decide_eq_false (by omega)
  have HS := Lib.hid hstep
  clear hstep
  go_enter Tryz.func140, Tryz.ntmps140
  go_wp2_with fail
  refine (is_c g n i _ h0).mono ?_
  rw [d1]
  rintro e w' ⟨rfl, rfl⟩
  go_wp2_with fail
  refine (is_c g n j _ h0).mono ?_
  rw [d2]
  rintro e w' ⟨rfl, rfl⟩
  go_wp2_with fail
  clear h0 d1 d2 d3
  go_loopw [9] (fun k wr => ∃ m : Nat, i / 64 ≤ m ∧ m ≤ j / 64 + 1 ∧ k = .int .i64 m ∧ Going B f (inr i j) h a b g c n w0 m wr) (fun k _ => j / 64 + 1 - (intOf k).toNat)
  case atStart => exact ⟨i / 64, by omega, by omega, by go_num, hx⟩
  case round =>
    obtain ⟨m, hm1, hm2, rfl, hg⟩ := hrel
    by_cases hlt : m ≤ j / 64
    · have dk : decide ((m : Int) ≤ (j : Int) / 64) = true := decide_eq_true (by omega)
      go_wp2_with fail
      refine (mask_c m i j _ (by omega) (by omega) hi (by omega)).mono ?_
      rintro e w' ⟨rfl, rfl⟩
      go_wp2_with fail
      refine (HS.out m _ (by omega) hg.drew).mono ?_
      rintro e w' ⟨rfl, hg'⟩
      go_wp2_with fail
      go_roundw
      case rel => exact ⟨m + 1, by omega, by omega, by go_num, hg'⟩
      case measure => simp [intOf]; omega
    · have dk : decide ((m : Int) ≤ (j : Int) / 64) = false := decide_eq_false (by omega)
      obtain rfl : m = j / 64 + 1 := by omega
      go_wp2_with fail
      go_ret
      exact ⟨rfl, hg⟩
theorem clear_c (g c n i j : Nat) (f : Nat → Bool) (w : World) (h : MapAt w g c n f) (hi : i ≤ j) (hj : j < n) :
    Calls Tryz.prog 103 #[.pointer (some ⟨g, 0, none⟩), .int .i64 i, .int .i64 j] w fun e w' =>
      e = .returned (.tuple #[.int .i64 (cnt (fun x => f x) i (j + 1 - i) : Nat), .int .i64 0]) ∧ MapAt w' g c n (fun x => if i ≤ x ∧ x ≤ j then false else f x) ∧ w.grownBy w' (some c) := by
  have hcnt : cnt (fun x => inr i j x && f x) 0 (64 * (j / 64 + 1)) = cnt (fun x => f x) i (j + 1 - i) := by
    have e : 64 * (j / 64 + 1) = i + ((j + 1 - i) + (64 * (j / 64 + 1) - (j + 1))) := by omega
    rw [e, cnt_join, cnt_join, Nat.zero_add, cnt_none (n := i) (fun x _ hx => by unfold inr; simp; omega), Nat.zero_add,
      cnt_none (a := i + (j + 1 - i)) (fun x hx _ => by unfold inr; simp; omega), Nat.add_zero]
    exact cnt_congr fun x h1 h2 => by unfold inr; rw [show decide (i ≤ x) = true from decide_eq_true h1, show decide (x ≤ j) = true from decide_eq_true (by omega)]; simp
  have hq : ∀ x, n ≤ x → inr i j x = false := fun x hx => by unfold inr; rw [show decide (x ≤ j) = false from decide_eq_false (by omega)]; simp
  have hstart : Going false f (inr i j) (fun x => inr i j x && f x) (w.heap.size + 1) w.heap.size g c n ((w.alloc (.cells #[.pointer (some ⟨g, 0, none⟩)] 101)).alloc (.cells #[.int .i64 0] 3)) (i / 64)
      ((w.alloc (.cells #[.pointer (some ⟨g, 0, none⟩)] 101)).alloc (.cells #[.int .i64 0] 3)) := by
    refine ⟨?_, (Blk.new _ _ _).alloc _, ((h.alloc _).alloc _).same (sofar_start _ _ _ _).symm, Fr2.refl _ _ _⟩
    rw [cnt_none fun x _ hx => by unfold inr; simp; omega]
    exact Blk.new' _ _ _ _ (by simp)
  have HC := Lib.hid hcnt
  clear hcnt
  go_enter Tryz.func103, Tryz.ntmps103
  go_wp2_with fail
  refine (clear_each false f (fun x => inr i j x && f x) (w.heap.size + 1) w.heap.size g c n i j _ _ (fun k w1 hk hg => clear1_c _ _ g c n k f (inr i j) _ w1 hg hk hq) hi hj hstart).mono ?_
  rintro e w' ⟨rfl, hg⟩
  have k0 := (hg.box.cell 0).trans rfl
  simp only [List.getElem?_toArray, List.getElem?_cons_zero] at k0
  have hmap := hg.map.same (sofar_end _ _ _ _)
  have hfr := hg.frame.grown (bl_alloc (bl_alloc (Below.refl _ _) _) _) (by omega)
  rw [HC.out] at k0
  clear hstart hq hg
  go_wp2_with fail
  go_ret2
  exact ⟨rfl, hmap, hfr⟩
end Go.Proofs.YtpfilldnfpcpkaaGreatDoor

namespace Go.Proofs.YtpfilldnfpcpkaaGreatDoor
open Go.RowKit

theorem boolsV_get (f : Nat → Bool) {n k : Nat} (h : k < n) : (boolsV f n).toArray[k]? = some (.bool (f k)) := by simp [boolsV, h]
theorem RefAt.bit {w : World} {g c n : Nat} {f : Nat → Bool} (h : RefAt w g c n f) {k : Nat} (hk : k < n) : w.cell? ⟨c, k, none⟩ = some (.bool (f k)) := (h.row.cell k).trans (boolsV_get f hk)
theorem info_bool : (Tryz.prog.info? 4).map (fun i => (i.zero, i.size, i.bytes)) = some (some (.bool false), 1, 1) := by kernel_rfl
theorem made_bools (K : Nat) : madeCells (Value.cells (.bool false)) K = (boolsV (fun _ => false) K).toArray := by
  apply Array.ext_getElem?
  intro j
  by_cases h : j < K
  · simp [madeCells, Value.cells, h, Nat.mod_one, boolsV]
  · simp [madeCells, Value.cells, h, boolsV]
theorem make_bools (K : Nat) (hK : K ≤ 65536) (w : World) : (Instr.makeSlice 90 (.int .i64 K) (.int .i64 K)).run Tryz.prog w = .ok (.slice (some ⟨w.heap.size, 0, none⟩) K K) (w.alloc (.cells (boolsV (fun _ => false) K).toArray 4)) := by
  obtain ⟨i0, hi0, hz0, hz1, hz2⟩ := info_parts info_bool
  have h := run_make (P := Tryz.prog) w 90 4 i0 (.bool false) Tryz.underlying90 hi0 hz0 .i64 .i64 K K (by omega) (by omega) (by rw [hz2]; omega) (by omega)
  rw [hz1, Nat.mul_one, made_bools] at h
  simpa using h

end Go.Proofs.YtpfilldnfpcpkaaGreatDoor

namespace Go.Proofs.YtpfilldnfpcpkaaGreatDoor
open Go.RowKit

/-- where a search stands behind k steps -/
def stepAt (a n k : Nat) : Nat := if a + k < n then a + k else a + k - n
theorem stepAt_lt {a n k : Nat} (ha : a < n) (hk : k < n) : stepAt a n k < n := by unfold stepAt; split <;> omega
/-- those that k steps have passed -/
def passed (a n k y : Nat) : Prop := (a ≤ y ∧ y < a + k ∧ y < n) ∨ y + n < a + k
theorem passed_all {a n y : Nat} (hy : y < n) : passed a n n y := by unfold passed; omega
theorem isNext_of {f : Nat → Bool} {a n k : Nat} (ha : a < n) (hk : k < n) (h : ∀ y, passed a n k y → f y = true) (hf : f (stepAt a n k) = false) : IsNext f n a (stepAt a n k) := by
  refine ⟨stepAt_lt ha hk, hf, ?_⟩
  by_cases e : a + k < n
  · have es : stepAt a n k = a + k := if_pos e
    rw [es]
    exact Or.inl ⟨by omega, fun y h1 h2 => h y (Or.inl ⟨h1, h2, by omega⟩)⟩
  · have es : stepAt a n k = a + k - n := if_neg e
    rw [es]
    exact Or.inr ⟨by omega, fun y h1 h2 => h y (Or.inl ⟨h1, by omega, h2⟩), fun y h1 => h y (Or.inr (by omega))⟩
theorem passed_step {f : Nat → Bool} {a n k : Nat} (h : ∀ y, passed a n k y → f y = true) (hf : f (stepAt a n k) = true) : ∀ y, passed a n (k + 1) y → f y = true := by
  intro y hy
  by_cases e : y = stepAt a n k
  · rw [e]; exact hf
  · refine h y ?_
    unfold passed at *
    unfold stepAt at e
    split at e <;> omega
end Go.Proofs.YtpfilldnfpcpkaaGreatDoor

namespace Go.Proofs.YtpfilldnfpcpkaaGreatDoor
open Go.RowKit

set_option maxRecDepth 20000 in
theorem copy_c (g c n : Nat) (f : Nat → Bool) (w : World) (h : MapAt w g c n f) :
    Calls Tryz.prog 111 #[.pointer (some ⟨g, 0, none⟩)] w fun e w' =>
      ∃ g', e = .returned (.pointer (some ⟨g', 0, none⟩)) ∧ MapAt w' g' w.heap.size n f ∧ w.heap.size ≤ g' ∧ Below w.heap.size w w' := by
  have hs := h.small
  have h0 := h.size
  have h1 := h.words
  have hw : ∀ k, k < (n + 63) / 64 → w.cell? ⟨c, k, none⟩ = some (.int .u64 (W f k : Nat)) := fun k hk => h.word hk
  have HW := Lib.hid hw
  have hgl := h.head.lt
  have hcl := h.row.lt
  have HT := Lib.hid h.top
  clear hw
  have hmk := make_words ((n + 63) / 64) (by omega)
  have hmk2 : ∀ w : World, (Instr.makeSlice 156 (.int .i64 (((n : Int) + 63) / 64)) (.int .i64 (((n : Int) + 63) / 64))).run Tryz.prog w = .ok (.slice (some ⟨w.heap.size, 0, none⟩) ((n + 63) / 64) ((n + 63) / 64)) (w.alloc (.cells (wordsV (fun _ => false) ((n + 63) / 64)).toArray 22)) := by
    rw [show ((n : Int) + 63) / 64 = (((n + 63) / 64 : Nat) : Int) from by omega]; exact hmk
  clear hmk
  have hnew := Blk.new w 22 (wordsV (fun _ => false) ((n + 63) / 64)).toArray
  have hlen : (wordsV f ((n + 63) / 64)).length = (n + 63) / 64 := wordsV_length _ _
  have hlen0 : (wordsV (fun _ => false) ((n + 63) / 64)).length = (n + 63) / 64 := wordsV_length _ _
  have hone : ∀ v ∈ wordsV f ((n + 63) / 64), v.oneCell' = true := by
    intro v hv
    simp only [wordsV, List.mem_map] at hv
    obtain ⟨k, _, rfl⟩ := hv
    rfl
  have hcell : ∀ j v, (wordsV f ((n + 63) / 64))[j]? = some v → w.cell? ⟨c, j, none⟩ = some v := by
    intro j v hv
    have hj : j < (n + 63) / 64 := by
      rcases Nat.lt_or_ge j ((n + 63) / 64) with k | k
      · exact k
      · rw [List.getElem?_eq_none (by rw [hlen]; exact k)] at hv; cases hv
    have e : (wordsV f ((n + 63) / 64))[j]? = some (.int .u64 (W f j : Nat)) := by simp [wordsV, hj]
    rw [e] at hv
    cases hv
    exact HW.out j hj
  have HC := Lib.hid hcell
  clear hcell
  have hsp : splice (wordsV (fun _ => false) ((n + 63) / 64)) 0 (wordsV f ((n + 63) / 64)) = wordsV f ((n + 63) / 64) := by
    unfold splice
    rw [List.drop_eq_nil_of_le (by rw [hlen, hlen0]; omega)]
    simp
  go_enter Tryz.func111, Tryz.ntmps111
  go_wp2_with (refine wpList_copy_splice rfl (.tmp 12) (.tmp 16) 156 156 rfl 22 Tryz.underlying156 ?k0 (some ⟨w.heap.size, 0, none⟩) (some ⟨c, 0, none⟩) ((n + 63) / 64) ((n + 63) / 64) ((n + 63) / 64) ((n + 63) / 64) ?k5 ?k6 w.heap.size 0 (wordsV (fun _ => false) ((n + 63) / 64)) 22 hnew (wordsV f ((n + 63) / 64)) ?k1 ?k2 ?k3 hone w.heap.size w ?k4 (Nat.le_refl _) ?_)

  case k0 => kernel_rfl
  case k5 => rfl
  case k6 => rfl
  case k1 => rw [hlen]; exact (Nat.min_self _).symm
  case k2 => exact fun _ => HC.out
  case k3 => rw [hlen, hlen0]; omega
  case k4 => exact bl_alloc (Below.refl _ _) _
  intro w1 HG hb1
  have hblk : Blk w1 w.heap.size 22 (wordsV f ((n + 63) / 64)).toArray := HG.out
  have h' := h.after hb1
  have h0 := h'.size
  have hss := hb1.size
  have hlt := hblk.lt
  have hT := HT.out
  clear HG hnew hone hsp HC HT HW
  go_wp2_with fail
  go_ret
  exact ⟨_, rfl, ⟨Blk.new _ _ _, hblk.alloc _, by omega, hs, hT⟩, by omega, hb1.alloc hss _⟩
end Go.Proofs.YtpfilldnfpcpkaaGreatDoor

namespace Go.Proofs.YtpfilldnfpcpkaaGreatDoor
open Go.RowKit Go.Proofs.YtpfilldnfpcpkaaGreatDoorW.PrintWords Go.Proofs.YtpfilldnfpcpkaaGreatDoor.PPo

/-- the lowest d bits, the lowest one first -/
def rowL : Nat → Nat → List Int
  | _, 0 => []
  | x, d + 1 => ((x % 2 : Nat) : Int) :: rowL (x / 2) d
theorem rowL_succ (x d : Nat) : rowL x (d + 1) = ((x % 2 : Nat) : Int) :: rowL (x / 2) d := rfl
theorem bit_nat {b : Int} (h : b = 0 ∨ b = 1) : ∃ c : Nat, b = (c : Int) ∧ c ≤ 1 := by
  rcases h with rfl | rfl
  · exact ⟨0, rfl, by omega⟩
  · exact ⟨1, rfl, by omega⟩
theorem rowL_len : ∀ (d x : Nat), (rowL x d).length = d
  | 0, _ => rfl
  | d + 1, x => by simp [rowL, rowL_len d]
theorem rowL_add : ∀ (a b x : Nat), rowL x (a + b) = rowL x a ++ rowL (x / 2 ^ a) b
  | 0, b, x => by simp [rowL]
  | a + 1, b, x => by
    rw [show a + 1 + b = (a + b) + 1 by omega, rowL, rowL_add a b, rowL, List.cons_append, Nat.div_div_eq_div_mul, Nat.pow_succ, Nat.mul_comm 2]
theorem rowL_mod : ∀ (a h l : Nat), rowL (h * 2 ^ a + l) a = rowL l a
  | 0, _, _ => rfl
  | a + 1, h, l => by
    have e : h * 2 ^ (a + 1) = 2 * (h * 2 ^ a) := by rw [Nat.pow_succ]; rw [← Nat.mul_assoc, Nat.mul_comm 2]
    rw [rowL, rowL, show (h * 2 ^ (a + 1) + l) % 2 = l % 2 by omega, show (h * 2 ^ (a + 1) + l) / 2 = h * 2 ^ a + l / 2 by omega, rowL_mod a h]
theorem rowL_join {a b h l : Nat} (hl : l < 2 ^ a) : rowL (h * 2 ^ a + l) (a + b) = rowL l a ++ rowL h b := by
  rw [rowL_add, rowL_mod]
  congr 2
  rw [Nat.mul_comm, Nat.mul_add_div (Nat.two_pow_pos a), Nat.div_eq_of_lt hl, Nat.add_zero]
theorem rowL_bit : ∀ (d x : Nat), ∀ b ∈ rowL x d, b = 0 ∨ b = 1
  | 0, _, b, h => by cases h
  | d + 1, x, b, h => by
    rw [rowL] at h
    rcases List.mem_cons.1 h with rfl | h
    · omega
    · exact rowL_bit d (x / 2) b h
theorem tmod2 (x : Nat) : wrap64 (Int.tmod (x : Int) 2) = ((x % 2 : Nat) : Int) := by
  rw [Int.tmod_eq_emod_of_nonneg (by omega)]; unfold wrap64; omega
theorem tdiv2 (x : Nat) (h : x < 18446744073709551616) : IntKind.u64.wrap (Int.tdiv (x : Int) 2) = ((x / 2 : Nat) : Int) := by
  rw [Int.tdiv_eq_ediv_of_nonneg (by omega)]
  show ((x : Int) / 2) % 18446744073709551616 = _
  omega
theorem pbits_l1 (d : Nat) : ∀ (k : Nat) (acc : List Int) (x : Nat), d ≤ 64 → x < 18446744073709551616 → acc.length + d ≤ 1000 → platbookref01_Bits.l1 (k + d + 1) acc x (64 - (d : Int)) = some (acc ++ rowL x d) := by
  induction d with
  | zero => intro k acc x _ _ _; rw [platbookref01_Bits.l1, if_neg (by omega)]; simp [rowL]
  | succ d ih =>
    intro k acc x hd hx ha
    rw [show k + (d + 1) + 1 = (k + d + 1) + 1 by omega, platbookref01_Bits.l1, if_pos (by omega), if_pos (by omega), tmod2, tdiv2 x hx, w64 (by omega) (by omega), show (64 : Int) - ((d + 1 : Nat) : Int) + 1 = 64 - (d : Int) by omega, ih k _ (x / 2) (by omega) (by omega) (by simp; omega), rowL_succ x d]
    simp
theorem pbits_l0 (d : Nat) : ∀ (k : Nat) (acc : List Int) (x h : Nat), d ≤ 64 → x < 18446744073709551616 → h < 18446744073709551616 → acc.length + d + 64 ≤ 1000 → platbookref01_Bits.l0 (k + d + 66) acc x h (64 - (d : Int)) = some (acc ++ rowL x d ++ rowL h 64) := by
  induction d with
  | zero =>
    intro k acc x h _ _ hh ha
    rw [show k + 0 + 66 = (k + 64 + 1) + 1 by omega, platbookref01_Bits.l0, if_neg (by omega)]
    have := pbits_l1 64 k acc h (by omega) hh (by omega)
    rw [show (64 : Int) - ((64 : Nat) : Int) = 0 by omega] at this
    rw [this]; simp [rowL]
  | succ d ih =>
    intro k acc x h hd hx hh ha
    rw [show k + (d + 1) + 66 = (k + d + 66) + 1 by omega, platbookref01_Bits.l0, if_pos (by omega), if_pos (by omega), tmod2, tdiv2 x hx, w64 (by omega) (by omega), show (64 : Int) - ((d + 1 : Nat) : Int) + 1 = 64 - (d : Int) by omega, ih k _ (x / 2) h (by omega) (by omega) hh (by simp; omega), rowL_succ x d]
    simp
theorem pbits_f (k n : Nat) (hn : n < 340282366920938463463374607431768211456) : platbookref01_Bits.f (k + 130) (hi n) (lo n) = some (rowL n 128) := by
  unfold platbookref01_Bits.f hi lo
  have := pbits_l0 64 k [] (n % 18446744073709551616) (n / 18446744073709551616 % 18446744073709551616) (by omega) (by omega) (by omega) (by simp)
  rw [show (64 : Int) - ((64 : Nat) : Int) = 0 by omega] at this
  rw [show k + 130 = k + 64 + 66 by omega, this]
  have e := rowL_join (a := 64) (b := 64) (h := n / 18446744073709551616 % 18446744073709551616) (l := n % 18446744073709551616) (Nat.mod_lt _ (by decide))
  rw [show (2 : Nat) ^ 64 = 18446744073709551616 by decide, show n / 18446744073709551616 % 18446744073709551616 * 18446744073709551616 + n % 18446744073709551616 = n by omega] at e
  rw [List.nil_append, ← e]
/-- an address's bits, the highest one first -/
def rowT (n w : Nat) : List Int := (rowL n w).reverse
theorem prow_l0 (j : Nat) : ∀ (k : Nat) (xs acc : List Int), j ≤ xs.length → xs.length ≤ 1000 → acc.length + j ≤ 1000 → platbookref03_Row.l0 (k + j + 1) xs acc ((j : Int) - 1) = some (acc ++ (xs.take j).reverse) := by
  induction j with
  | zero => intro k xs acc _ _ _; rw [platbookref03_Row.l0, if_neg (by omega)]; simp
  | succ j ih =>
    intro k xs acc hj hx ha
    have e : rd xs (((j + 1 : Nat) : Int) - 1) = xs[j] := by
      unfold rd; rw [show ((((j + 1 : Nat) : Int) - 1)).toNat = j by omega]; simp [List.getD, List.getElem?_eq_getElem (show j < xs.length by omega)]
    rw [show k + (j + 1) + 1 = (k + j + 1) + 1 by omega, platbookref03_Row.l0, if_pos (by omega), if_pos (by omega), if_pos (by omega), if_pos (by omega), w64 (by omega) (by omega), e, show ((j + 1 : Nat) : Int) - 1 - 1 = (j : Int) - 1 by omega, ih k xs _ (by omega) hx (by simp; omega), List.take_succ_eq_append_getElem (show j < xs.length by omega), List.reverse_append]
    simp
theorem width_hl (v : Bool) (n : Nat) : platbookref02_Width.f v (hi n) (lo n) = some ((widthN v : Nat) : Int) := by
  unfold platbookref02_Width.f; rw [if_pos (by simpa using okW_hl n)]
theorem widthN_pos (v : Bool) : 32 ≤ widthN v := by cases v <;> decide
theorem prow_f (k : Nat) (v : Bool) (n : Nat) (hn : n < 340282366920938463463374607431768211456) : platbookref03_Row.f (k + 300) v (hi n) (lo n) = some (rowT n (widthN v)) := by
  unfold platbookref03_Row.f
  rw [show k + 300 = (k + 170) + 130 by omega, pbits_f _ n hn, width_hl]
  simp only [Option.bind_some]
  have hw := widthN_le v
  have hp := widthN_pos v
  rw [w64 (by omega) (by omega), show k + 170 + 130 = (k + 299 - widthN v) + widthN v + 1 by omega, prow_l0 _ _ _ _ (by rw [rowL_len]; exact hw) (by rw [rowL_len]; omega) (by simp; omega)]
  have e : rowL n 128 = rowL n (widthN v) ++ rowL (n / 2 ^ widthN v) (128 - widthN v) := by rw [← rowL_add]; congr 1; omega
  rw [e, List.take_left' (rowL_len _ _)]; rfl
/-- the number of a row of bits, the lowest one first -/
def valL : List Int → Nat
  | [] => 0
  | b :: r => b.toNat + 2 * valL r
theorem valL_append : ∀ (a b : List Int), valL (a ++ b) = valL a + 2 ^ a.length * valL b
  | [], b => by simp [valL]
  | x :: a, b => by rw [List.cons_append, valL, valL, valL_append a b, List.length_cons, Nat.pow_succ, Nat.mul_add]; rw [Nat.mul_comm (2 ^ a.length) 2, Nat.mul_assoc]; omega
theorem valL_lt : ∀ (a : List Int), (∀ b ∈ a, b = 0 ∨ b = 1) → valL a < 2 ^ a.length
  | [], _ => by simp [valL]
  | x :: a, h => by
    have h1 := valL_lt a (fun b hb => h b (by simp [hb]))
    have h2 := h x (by simp)
    rw [valL, List.length_cons, Nat.pow_succ]
    rcases h2 with rfl | rfl
    · simp; omega
    · simp; omega
theorem valL_row : ∀ (d x : Nat), valL (rowL x d) = x % 2 ^ d
  | 0, x => by simp [rowL, valL, Nat.mod_one]
  | d + 1, x => by
    rw [rowL, valL, valL_row d, Nat.pow_succ, Nat.mul_comm (2 ^ d) 2, Nat.mod_mul]
    omega
theorem valL_rep (d : Nat) : valL (List.replicate d 0) = 0 := by
  induction d with
  | zero => rfl
  | succ d ih => rw [List.replicate_succ, valL, ih]; rfl
theorem valL_ones (d : Nat) : valL (List.replicate d 1) = 2 ^ d - 1 := by
  induction d with
  | zero => rfl
  | succ d ih => rw [List.replicate_succ, valL, ih, Nat.pow_succ]; have := Nat.two_pow_pos d; simp; omega
theorem u64w {x : Nat} (h : x < 18446744073709551616) : IntKind.u64.wrap (x : Int) = (x : Int) := by show (x : Int) % 18446744073709551616 = _; omega
theorem pnum_l1 (j : Nat) : ∀ (k : Nat) (L : List Int) (H x : Nat), (∀ b ∈ L, b = 0 ∨ b = 1) → L.length ≤ 1000 → j ≤ 1000 → x * 2 ^ j + valL (L.take j) < 18446744073709551616 → platbookref01_Num.l1 (k + j + 1) L ((j : Int) - 1) H x = some ((H : Int), ((x * 2 ^ j + valL (L.take j) : Nat) : Int)) := by
  induction j with
  | zero => intro k L H x _ _ _ _; rw [platbookref01_Num.l1, if_neg (by omega)]; simp [valL]
  | succ j ih =>
    intro k L H x hb hl hj hx
    have hp : 2 ^ (j + 1) = 2 * 2 ^ j := by rw [Nat.pow_succ]; omega
    have hp0 := Nat.two_pow_pos j
    rw [show k + (j + 1) + 1 = (k + j + 1) + 1 by omega, platbookref01_Num.l1, if_pos (by omega)]
    by_cases h : j < L.length
    · have e : L.take (j + 1) = L.take j ++ [L[j]] := List.take_succ_eq_append_getElem h
      have hbj : L[j] = 0 ∨ L[j] = 1 := hb _ (List.getElem_mem h)
      obtain ⟨c, hc, hc2⟩ : ∃ c : Nat, L[j] = (c : Int) ∧ c ≤ 1 := by exact bit_nat hbj
      have er : rd L (((j + 1 : Nat) : Int) - 1) = (c : Int) := by
        unfold rd; rw [show ((((j + 1 : Nat) : Int) - 1)).toNat = j by omega]; simp [List.getD, List.getElem?_eq_getElem h, hc]
      have ev : valL (L.take (j + 1)) = valL (L.take j) + 2 ^ j * c := by
        rw [e, valL_append, List.length_take, Nat.min_eq_left (by omega), hc]; simp [valL]
      have e2 : x * 2 ^ (j + 1) + valL (L.take (j + 1)) = (2 * x + c) * 2 ^ j + valL (L.take j) := by
        rw [ev, hp, Nat.add_mul, Nat.mul_comm (2 ^ j) c, ← Nat.mul_assoc, Nat.mul_comm x 2]; omega
      rw [e2] at hx ⊢
      have hx2 : (2 * x + c) * 1 ≤ (2 * x + c) * 2 ^ j := Nat.mul_le_mul_left _ hp0
      rw [if_pos (by omega), if_pos (by omega), er, w64 (by omega) (by omega), show ((x : Int) * 2) = ((2 * x : Nat) : Int) by omega, u64w (x := 2 * x) (by omega), u64w (x := c) (by omega), show ((2 * x : Nat) : Int) + (c : Int) = ((2 * x + c : Nat) : Int) by omega, u64w (by omega), show ((j + 1 : Nat) : Int) - 1 - 1 = (j : Int) - 1 by omega]
      exact ih k L H (2 * x + c) hb hl (by omega) hx
    · have e : L.take (j + 1) = L.take j := by rw [List.take_of_length_le (by omega), List.take_of_length_le (by omega)]
      have e2 : x * 2 ^ (j + 1) + valL (L.take (j + 1)) = (2 * x) * 2 ^ j + valL (L.take j) := by
        rw [e, hp, ← Nat.mul_assoc, Nat.mul_comm x 2]
      rw [e2] at hx ⊢
      have hx2 : (2 * x) * 1 ≤ (2 * x) * 2 ^ j := Nat.mul_le_mul_left _ hp0
      rw [if_neg (by omega), w64 (by omega) (by omega), show ((x : Int) * 2) = ((2 * x : Nat) : Int) by omega, u64w (by omega), show ((j + 1 : Nat) : Int) - 1 - 1 = (j : Int) - 1 by omega]
      exact ih k L H (2 * x) hb hl (by omega) hx
theorem pnum_l0 (j : Nat) : ∀ (k : Nat) (L : List Int) (x : Nat), (∀ b ∈ L, b = 0 ∨ b = 1) → L.length ≤ 1000 → j ≤ 64 → x * 2 ^ j + valL ((L.drop 64).take j) < 18446744073709551616 → platbookref01_Num.l0 (k + j + 66) L (64 + (j : Int) - 1) x 0 = some (((x * 2 ^ j + valL ((L.drop 64).take j) : Nat) : Int), ((valL (L.take 64) : Nat) : Int)) := by
  induction j with
  | zero =>
    intro k L x hb hl _ _
    rw [show k + 0 + 66 = (k + 64 + 1) + 1 by omega, platbookref01_Num.l0, if_neg (by omega)]
    have hv : valL (L.take 64) < 2 ^ 64 := Nat.lt_of_lt_of_le (valL_lt _ (fun b h => hb b (List.mem_of_mem_take h))) (Nat.pow_le_pow_right (by omega) (by rw [List.length_take]; omega))
    have := pnum_l1 64 k L x 0 hb hl (by omega) (by rw [Nat.zero_mul, Nat.zero_add]; exact hv)
    rw [show ((64 : Nat) : Int) - 1 = 63 by omega, show k + 64 + 1 = k + 65 from rfl, show ((0 : Nat) : Int) = 0 from rfl] at this
    rw [this]; simp [valL]
  | succ j ih =>
    intro k L x hb hl hj hx
    have hp : 2 ^ (j + 1) = 2 * 2 ^ j := by rw [Nat.pow_succ]; omega
    have hp0 := Nat.two_pow_pos j
    rw [show k + (j + 1) + 66 = (k + j + 66) + 1 by omega, platbookref01_Num.l0, if_pos (by omega)]
    by_cases h : 64 + j < L.length
    · have hd : j < (L.drop 64).length := by rw [List.length_drop]; omega
      have e : (L.drop 64).take (j + 1) = (L.drop 64).take j ++ [L[64 + j]] := by rw [List.take_succ_eq_append_getElem hd, List.getElem_drop]
      have hbj : L[64 + j] = 0 ∨ L[64 + j] = 1 := hb _ (List.getElem_mem h)
      obtain ⟨c, hc, hc2⟩ : ∃ c : Nat, L[64 + j] = (c : Int) ∧ c ≤ 1 := by exact bit_nat hbj
      have er : rd L (64 + ((j + 1 : Nat) : Int) - 1) = (c : Int) := by
        unfold rd; rw [show (64 + ((j + 1 : Nat) : Int) - 1).toNat = 64 + j by omega]; simp [List.getD, List.getElem?_eq_getElem h, hc]
      have ev : valL ((L.drop 64).take (j + 1)) = valL ((L.drop 64).take j) + 2 ^ j * c := by
        rw [e, valL_append, List.length_take, Nat.min_eq_left (by omega), hc]; simp [valL]
      have e2 : x * 2 ^ (j + 1) + valL ((L.drop 64).take (j + 1)) = (2 * x + c) * 2 ^ j + valL ((L.drop 64).take j) := by
        rw [ev, hp, Nat.add_mul, Nat.mul_comm (2 ^ j) c, ← Nat.mul_assoc, Nat.mul_comm x 2]; omega
      rw [e2] at hx ⊢
      have hx2 : (2 * x + c) * 1 ≤ (2 * x + c) * 2 ^ j := Nat.mul_le_mul_left _ hp0
      rw [if_pos (by omega), if_pos (by omega), er, w64 (by omega) (by omega), show ((x : Int) * 2) = ((2 * x : Nat) : Int) by omega, u64w (x := 2 * x) (by omega), u64w (x := c) (by omega), show ((2 * x : Nat) : Int) + (c : Int) = ((2 * x + c : Nat) : Int) by omega, u64w (by omega), show 64 + ((j + 1 : Nat) : Int) - 1 - 1 = 64 + (j : Int) - 1 by omega]
      exact ih k L (2 * x + c) hb hl (by omega) hx
    · have hd : (L.drop 64).length ≤ j := by rw [List.length_drop]; omega
      have e : (L.drop 64).take (j + 1) = (L.drop 64).take j := by rw [List.take_of_length_le (by omega), List.take_of_length_le (by omega)]
      have e2 : x * 2 ^ (j + 1) + valL ((L.drop 64).take (j + 1)) = (2 * x) * 2 ^ j + valL ((L.drop 64).take j) := by
        rw [e, hp, ← Nat.mul_assoc, Nat.mul_comm x 2]
      rw [e2] at hx ⊢
      have hx2 : (2 * x) * 1 ≤ (2 * x) * 2 ^ j := Nat.mul_le_mul_left _ hp0
      rw [if_neg (by omega), w64 (by omega) (by omega), show ((x : Int) * 2) = ((2 * x : Nat) : Int) by omega, u64w (by omega), show 64 + ((j + 1 : Nat) : Int) - 1 - 1 = 64 + (j : Int) - 1 by omega]
      exact ih k L (2 * x) hb hl (by omega) hx
theorem pnum_f (k : Nat) (L : List Int) (hb : ∀ b ∈ L, b = 0 ∨ b = 1) (hl : L.length ≤ 128) : platbookref01_Num.f (k + 130) L = some (hi (valL L), lo (valL L)) := by
  unfold platbookref01_Num.f
  have hbd : ∀ b ∈ L.drop 64, b = 0 ∨ b = 1 := fun b h => hb b (List.mem_of_mem_drop h)
  have hv : valL (L.drop 64) < 2 ^ 64 := Nat.lt_of_lt_of_le (valL_lt _ hbd) (Nat.pow_le_pow_right (by omega) (by rw [List.length_drop]; omega))
  have ht : (L.drop 64).take 64 = L.drop 64 := List.take_of_length_le (by rw [List.length_drop]; omega)
  have := pnum_l0 64 k L 0 hb (by omega) (by omega) (by rw [Nat.zero_mul, Nat.zero_add, ht]; exact hv)
  rw [show (64 : Int) + ((64 : Nat) : Int) - 1 = 127 by omega, Nat.zero_mul, Nat.zero_add, ht] at this
  rw [show k + 130 = k + 64 + 66 by omega]
  rw [show ((0 : Nat) : Int) = 0 from rfl] at this
  rw [this]
  have hlo : valL (L.take 64) < 2 ^ 64 := Nat.lt_of_lt_of_le (valL_lt _ (fun b h => hb b (List.mem_of_mem_take h))) (Nat.pow_le_pow_right (by omega) (by rw [List.length_take]; omega))
  have e : valL L = valL (L.take 64) + 2 ^ (L.take 64).length * valL (L.drop 64) := by rw [← valL_append, List.take_append_drop]
  have e2 : valL L = valL (L.take 64) + 18446744073709551616 * valL (L.drop 64) := by
    by_cases h : 64 ≤ L.length
    · rw [e, List.length_take, Nat.min_eq_left h]
    · have : L.drop 64 = [] := List.drop_eq_nil_of_le (by omega)
      rw [e, this]; simp [valL]
  rw [show (2 : Nat) ^ 64 = 18446744073709551616 by decide] at hv hlo
  unfold hi lo
  rw [show valL L / 18446744073709551616 % 18446744073709551616 = valL (L.drop 64) by omega, show valL L % 18446744073709551616 = valL (L.take 64) by omega]
theorem paddr_l0 (j : Nat) : ∀ (k : Nat) (v : Bool) (xs acc : List Int), j ≤ xs.length → xs.length ≤ 128 → acc.length + j ≤ 128 → (∀ b ∈ xs, b = 0 ∨ b = 1) → (∀ b ∈ acc, b = 0 ∨ b = 1) → platbookref03_Addr.l0 (k + j + 131) v xs acc ((j : Int) - 1) = some (v, hi (valL (acc ++ (xs.take j).reverse)), lo (valL (acc ++ (xs.take j).reverse))) := by
  induction j with
  | zero =>
    intro k v xs acc _ _ ha hb1 hb2
    rw [show k + 0 + 131 = (k + 130) + 1 by omega, platbookref03_Addr.l0, if_neg (by omega), pnum_f k acc hb2 (by omega)]
    simp
  | succ j ih =>
    intro k v xs acc hj hx ha hb1 hb2
    have e : rd xs (((j + 1 : Nat) : Int) - 1) = xs[j] := by
      unfold rd; rw [show ((((j + 1 : Nat) : Int) - 1)).toNat = j by omega]; simp [List.getD, List.getElem?_eq_getElem (show j < xs.length by omega)]
    rw [show k + (j + 1) + 131 = (k + j + 131) + 1 by omega, platbookref03_Addr.l0, if_pos (by omega), if_pos (by omega), if_pos (by omega), if_pos (by omega), w64 (by omega) (by omega), e, show ((j + 1 : Nat) : Int) - 1 - 1 = (j : Int) - 1 by omega, ih k v xs _ (by omega) hx (by simp; omega) hb1 (by
      intro b h
      rcases List.mem_append.1 h with h | h
      · exact hb2 b h
      · rw [List.mem_singleton] at h; subst h; exact hb1 _ (List.getElem_mem _)), List.take_succ_eq_append_getElem (show j < xs.length by omega), List.reverse_append]
    simp
theorem paddr_f (k : Nat) (v : Bool) (xs : List Int) (hx : xs.length ≤ 128) (hb : ∀ b ∈ xs, b = 0 ∨ b = 1) : platbookref03_Addr.f (k + 300) v xs = some (v, hi (valL xs.reverse), lo (valL xs.reverse)) := by
  unfold platbookref03_Addr.f
  rw [w64 (by omega) (by omega), show k + 300 = (k + 169 - xs.length) + xs.length + 131 by omega, paddr_l0 _ _ _ _ _ (Nat.le_refl _) hx (by simpa using hx) hb (by simp)]
  simp
theorem pfilled_l0 (d : Nat) : ∀ (k i : Nat) (bit : Int) (xs : List Int) (v : Bool) (h l : Int), i + d = xs.length → xs.length ≤ 128 → (∀ b ∈ xs, b = 0 ∨ b = 1) → (bit = 0 ∨ bit = 1) → platbookref03_Filled.l0 (k + d + 301) bit xs i v h l = some (v, hi (valL (xs.take i ++ List.replicate d bit).reverse), lo (valL (xs.take i ++ List.replicate d bit).reverse)) := by
  induction d with
  | zero =>
    intro k i bit xs v h l hi hx hb _
    rw [show k + 0 + 301 = (k + 300) + 1 by omega, platbookref03_Filled.l0, if_neg (by omega), paddr_f k v xs hx hb, List.take_of_length_le (by omega)]
    simp
  | succ d ih =>
    intro k i bit xs v h l hi hx hb hbit
    rw [show k + (d + 1) + 301 = (k + d + 301) + 1 by omega, platbookref03_Filled.l0, if_pos (by omega), if_pos (by omega), w64 (by omega) (by omega), show ((i : Int)).toNat = i by omega, show (i : Int) + 1 = ((i + 1 : Nat) : Int) by omega, ih k (i + 1) bit (xs.set i bit) v h l (by rw [List.length_set]; omega) (by rw [List.length_set]; omega) (by
      intro b h
      rcases List.mem_or_eq_of_mem_set h with h | rfl
      · exact hb b h
      · exact hbit) hbit]
    have e : (xs.set i bit).take (i + 1) = xs.take i ++ [bit] := by
      rw [List.take_succ_eq_append_getElem (by rw [List.length_set]; omega), List.getElem_set_self, List.take_set_of_le (Nat.le_refl _)]
    rw [e, List.append_assoc, List.replicate_succ]; rfl
theorem rowT_len (n w : Nat) : (rowT n w).length = w := by unfold rowT; rw [List.length_reverse, rowL_len]
theorem pfilled_f (k : Nat) (v : Bool) (n : Nat) (i : Nat) (bit : Int) (hn : n < 340282366920938463463374607431768211456) (hi' : i ≤ widthN v) (hbit : bit = 0 ∨ bit = 1) : platbookref03_Filled.f (k + 500) v (hi n) (lo n) i bit = some (v, hi (n / 2 ^ (widthN v - i) % 2 ^ i * 2 ^ (widthN v - i) + bit.toNat * (2 ^ (widthN v - i) - 1)), lo (n / 2 ^ (widthN v - i) % 2 ^ i * 2 ^ (widthN v - i) + bit.toNat * (2 ^ (widthN v - i) - 1))) := by
  unfold platbookref03_Filled.f
  have hw := widthN_le v
  rw [show k + 500 = (k + 200) + 300 by omega, prow_f _ v n hn]
  simp only [Option.bind_some]
  rw [show k + 200 + 300 = (k + 199 - (widthN v - i)) + (widthN v - i) + 301 by omega, pfilled_l0 (widthN v - i) _ i bit _ v _ _ (by rw [rowT_len]; omega) (by rw [rowT_len]; omega) (by intro b h; unfold rowT at h; rw [List.mem_reverse] at h; exact rowL_bit _ _ b h) hbit]
  have e : valL ((rowT n (widthN v)).take i ++ List.replicate (widthN v - i) bit).reverse = n / 2 ^ (widthN v - i) % 2 ^ i * 2 ^ (widthN v - i) + bit.toNat * (2 ^ (widthN v - i) - 1) := by
    rw [List.reverse_append, List.reverse_replicate, valL_append, List.length_replicate]
    have e1 : ((rowT n (widthN v)).take i).reverse = rowL (n / 2 ^ (widthN v - i)) i := by
      unfold rowT
      rw [show widthN v = (widthN v - i) + i by omega, rowL_add, List.reverse_append, List.take_left' (by rw [List.length_reverse, rowL_len]), List.reverse_reverse]
      rw [show widthN v - i + i - i = widthN v - i by omega]
    have e2 : valL (List.replicate (widthN v - i) bit) = bit.toNat * (2 ^ (widthN v - i) - 1) := by
      rcases hbit with rfl | rfl
      · rw [valL_rep]; simp
      · rw [valL_ones]; simp
    rw [e1, valL_row, e2, Nat.mul_comm (2 ^ (widthN v - i))]
    omega
  rw [e]
/-- how many first ones two rows have alike -/
def alikeL : List Int → List Int → Nat
  | a :: x, b :: y => if a = b then alikeL x y + 1 else 0
  | _, _ => 0
theorem palike_l0 (d : Nat) : ∀ (k i : Nat) (x y : List Int), i + d = x.length → x.length = y.length → x.length ≤ 1000 → platbookref03_Alike.l0 (k + d + 1) x y i = some (((i + alikeL (x.drop i) (y.drop i) : Nat)) : Int) := by
  induction d with
  | zero =>
    intro k i x y hi hxy _
    rw [platbookref03_Alike.l0, if_neg (by omega), List.drop_eq_nil_of_le (by omega)]; rfl
  | succ d ih =>
    intro k i x y hi hxy hx
    have e1 : rd x (i : Int) = x[i] := by unfold rd; simp [List.getD, List.getElem?_eq_getElem (show i < x.length by omega)]
    have e2 : rd y (i : Int) = y[i] := by unfold rd; simp [List.getD, List.getElem?_eq_getElem (show i < y.length by omega)]
    rw [show k + (d + 1) + 1 = (k + d + 1) + 1 by omega, platbookref03_Alike.l0, if_pos (by omega), if_pos (by omega), if_pos (by omega), e1, e2, List.drop_eq_getElem_cons (show i < x.length by omega), List.drop_eq_getElem_cons (show i < y.length by omega), alikeL]
    by_cases h : x[i] = y[i]
    · rw [if_pos h, if_pos h, w64 (by omega) (by omega), show (i : Int) + 1 = ((i + 1 : Nat) : Int) by omega, ih k (i + 1) x y (by omega) hxy hx]
      congr 2; omega
    · rw [if_neg h, if_neg h]; simp
theorem palike_f (k : Nat) (x y : List Int) (hxy : x.length = y.length) (hx : x.length ≤ 128) : platbookref03_Alike.f (k + 200) x y = some ((alikeL x y : Nat) : Int) := by
  unfold platbookref03_Alike.f
  have := palike_l0 x.length (k + 199 - x.length) 0 x y (by omega) hxy (by omega)
  rw [show k + 199 - x.length + x.length + 1 = k + 200 by omega] at this
  rw [show ((0 : Nat) : Int) = 0 from rfl] at this
  rw [this]; simp
theorem rowT_succ (n w : Nat) : rowT n (w + 1) = ((n / 2 ^ w % 2 : Nat) : Int) :: rowT n w := by
  unfold rowT; rw [rowL_add, List.reverse_append]; rfl
theorem alike_ge (x y : Nat) : ∀ (w b : Nat), b ≤ w → (b ≤ alikeL (rowT x w) (rowT y w) ↔ x / 2 ^ (w - b) % 2 ^ b = y / 2 ^ (w - b) % 2 ^ b)
  | 0, b, h => by
    have : b = 0 := by omega
    subst this; simp [Nat.mod_one]
  | w + 1, 0, h => by simp [Nat.mod_one]
  | w + 1, b + 1, h => by
    have ih := alike_ge x y w b (by omega)
    have key : ∀ z : Nat, z / 2 ^ (w - b) % 2 ^ (b + 1) = z / 2 ^ (w - b) % 2 ^ b + 2 ^ b * (z / 2 ^ w % 2) := by
      intro z
      have e := Nat.mod_pow_succ (x := z / 2 ^ (w - b)) (b := 2) (k := b)
      rw [Nat.div_div_eq_div_mul, ← Nat.pow_add, show w - b + b = w by omega] at e
      exact e
    rw [rowT_succ, rowT_succ, alikeL, show w + 1 - (b + 1) = w - b by omega, key, key]
    have h1 : x / 2 ^ (w - b) % 2 ^ b < 2 ^ b := Nat.mod_lt _ (Nat.two_pow_pos b)
    have h2 : y / 2 ^ (w - b) % 2 ^ b < 2 ^ b := Nat.mod_lt _ (Nat.two_pow_pos b)
    generalize x / 2 ^ (w - b) % 2 ^ b = p at *
    generalize y / 2 ^ (w - b) % 2 ^ b = q at *
    have h3 : x / 2 ^ w % 2 < 2 := Nat.mod_lt _ (by omega)
    have h4 : y / 2 ^ w % 2 < 2 := Nat.mod_lt _ (by omega)
    generalize x / 2 ^ w % 2 = s at *
    generalize y / 2 ^ w % 2 = t at *
    generalize 2 ^ b = P at *
    by_cases e : s = t
    · subst e
      rw [if_pos rfl, Nat.add_le_add_iff_right, ih]
      omega
    · rw [if_neg (by omega)]
      constructor
      · intro h; omega
      · intro h
        exfalso
        have : (s = 0 ∧ t = 1) ∨ (s = 1 ∧ t = 0) := by omega
        rcases this with ⟨rfl, rfl⟩ | ⟨rfl, rfl⟩
        · simp at h; omega
        · simp at h; omega
end Go.Proofs.YtpfilldnfpcpkaaGreatDoor

namespace Go.Proofs.YtpfilldnfpcpkaaGreatDoor
open Go.RowKit Go.Proofs.YtpfilldnfpcpkaaGreatDoorW.PrintWords Go.Proofs.YtpfilldnfpcpkaaGreatDoor.PPo

theorem rright02_hl (v : Bool) {n : Nat} (hn : n < 340282366920938463463374607431768211456) : platbookref02_Right.f v (hi n) (lo n) = some (rightB v n) := by
  unfold platbookref02_Right.f; rw [if_pos (okW_hl n), num_hi_lo hn]
/-- without the bits behind: the reference's way -/
theorem top_ref {v : Bool} {n i : Nat} (hn : n < 2 ^ widthN v) (hi : i ≤ widthN v) : n / 2 ^ (widthN v - i) % 2 ^ i * 2 ^ (widthN v - i) = topN (widthN v - i) n := by
  unfold topN
  rw [Nat.mod_eq_of_lt]
  rw [Nat.div_lt_iff_lt_mul (Nat.two_pow_pos _), ← Nat.pow_add, show i + (widthN v - i) = widthN v by omega]; exact hn
theorem rrightP_f (K : Nat) (hK : 600 ≤ K) (v : Bool) (n : Nat) (b : Int) (hn : n < 340282366920938463463374607431768211456) : platbookref03_Right.f K v (hi n) (lo n) b = some (rightP v n b) := by
  obtain ⟨k, rfl⟩ : ∃ k, K = k + 500 := ⟨K - 500, by omega⟩
  unfold platbookref03_Right.f
  rw [rright02_hl v hn]
  simp only [bsome]
  unfold rightP
  cases hr : rightB v n
  · rw [if_neg (by simp)]; rfl
  · rw [if_pos rfl]
    by_cases h0 : b < 0
    · rw [if_pos h0, decide_eq_false (by omega)]; rfl
    · rw [if_neg h0, width_hl, decide_eq_true (show 0 ≤ b by omega)]
      simp only [bsome]
      by_cases h1 : b ≤ (widthN v : Int)
      · rw [if_neg (by omega), decide_eq_true h1]
        obtain ⟨i, rfl⟩ := Int.eq_ofNat_of_zero_le (show 0 ≤ b by omega)
        rw [pfilled_f k v n i 0 hn (by omega) (.inl rfl), top_ref (rightB_iff.1 hr) (by omega)]
        have e : fr v (i : Int) = widthN v - i := by unfold fr; omega
        simp only [bsome, Int.toNat_zero, Nat.zero_mul, Nat.add_zero]
        rw [hl_eq (top_lt hn) hn, e]
        simp only [beq_self_eq_true, Bool.true_and, Option.some.injEq]
        rw [Bool.eq_iff_iff]; simp [topN_eq]
      · rw [if_pos (by omega), decide_eq_false h1]; rfl
theorem rhas_f (K : Nat) (hK : 700 ≤ K) (v : Bool) (n : Nat) (b : Int) (u : Bool) (m : Nat) (hn : n < 340282366920938463463374607431768211456) (hm : m < 340282366920938463463374607431768211456) : platbookref03_Has.f K v (hi n) (lo n) b u (hi m) (lo m) = some (hasS v n b u m) := by
  obtain ⟨k, rfl⟩ : ∃ k, K = k + 300 + 1 := ⟨K - 301, by omega⟩
  unfold platbookref03_Has.f hasS
  rw [rrightP_f _ (by omega) v n b hn, rright02_hl u hm]
  simp only [bsome]
  cases h : rightP v n b
  · rw [if_neg (by simp), platbookref03_Has.j0, if_pos rfl]; rfl
  · cases hu : rightB u m
    · rw [if_pos rfl, if_neg (by simp), platbookref03_Has.j0, if_pos rfl]; rfl
    · rw [if_pos rfl, if_pos rfl]
      by_cases huv : u = v
      · subst huv
        obtain ⟨h1, h2, h3, h4⟩ := rightP_iff.1 h
        rw [platbookref03_Has.j0, if_neg (by simp), prow_f k u n hn, prow_f k u m hm]
        simp only [bsome]
        rw [show k + 300 = (k + 100) + 200 by omega, palike_f _ _ _ (by rw [rowT_len, rowT_len]) (by rw [rowT_len]; exact widthN_le u)]
        simp only [bsome, Bool.true_and, beq_self_eq_true, Option.some.injEq]
        obtain ⟨i, rfl⟩ := Int.eq_ofNat_of_zero_le h2
        have hi' : i ≤ widthN u := by omega
        have e : fr u (i : Int) = widthN u - i := by unfold fr; omega
        have hl : ∀ z : Nat, z < 2 ^ widthN u → z / 2 ^ (widthN u - i) % 2 ^ i = z / 2 ^ (widthN u - i) := by
          intro z hz
          apply Nat.mod_eq_of_lt
          rw [Nat.div_lt_iff_lt_mul (Nat.two_pow_pos _), ← Nat.pow_add, show i + (widthN u - i) = widthN u by omega]; exact hz
        rw [Bool.eq_iff_iff, decide_eq_true_iff, beq_iff_eq, topN_iff h4, e]
        have := alike_ge n m (widthN u) i hi'
        rw [hl n h1, hl m (rightB_iff.1 hu)] at this
        constructor
        · intro hge; exact (this.1 (by omega)).symm
        · intro heq; have := this.2 heq.symm; omega
      · rw [platbookref03_Has.j0, if_pos (by simpa using huv)]
        simp [huv]
theorem roverlap_f (K : Nat) (hK : 700 ≤ K) (v : Bool) (n : Nat) (b : Int) (u : Bool) (m : Nat) (c : Int) (hn : n < 340282366920938463463374607431768211456) (hm : m < 340282366920938463463374607431768211456) : platbookref03_Overlap.f K v (hi n) (lo n) b u (hi m) (lo m) c = some (overlapS v n b u m c) := by
  unfold platbookref03_Overlap.f overlapS withinS
  rw [rrightP_f K (by omega) v n b hn, rrightP_f K (by omega) u m c hm, rhas_f K hK u m c v n hm hn, rhas_f K hK v n b u m hn hm]
  simp only [bsome]
  cases h1 : rightP v n b
  · simp
  · cases h2 : rightP u m c
    · simp
    · rw [if_pos rfl, if_pos rfl]
      simp only [Bool.true_and]
      by_cases hcb : c ≤ b
      · by_cases hbc : b ≤ c
        · rw [decide_eq_true hcb, decide_eq_true hbc]; cases hasS u m c v n <;> rfl
        · rw [decide_eq_true hcb, decide_eq_false hbc]
          cases h3 : hasS u m c v n
          · rw [if_neg (by simp)]
            have : hasS v n b u m = false := by
              cases h4 : hasS v n b u m
              · rfl
              · exfalso
                obtain ⟨_, _, rfl, h5⟩ := hasS_right h4
                have hfr : fr u b ≤ fr u c := by unfold fr; omega
                have := hasS_mk (v := u) (n := m) (b := c) (m := n) h2 (rightP_B h1) (div_mono (a := 0) h5.symm hfr)
                rw [this] at h3; cases h3
            rw [this]; rfl
          · rfl
      · have hbc : b ≤ c := by omega
        rw [decide_eq_false hcb, decide_eq_true hbc]
        cases h3 : hasS u m c v n
        · rfl
        · rw [if_pos rfl]
          obtain ⟨_, _, rfl, h5⟩ := hasS_right h3
          have hfr : fr v c ≤ fr v b := by unfold fr; omega
          rw [hasS_mk (v := v) (n := n) (b := b) (m := m) h1 (rightP_B h2) (div_mono (a := 0) h5.symm hfr)]
          rfl
end Go.Proofs.YtpfilldnfpcpkaaGreatDoor

namespace Go.Proofs.YtpfilldnfpcpkaaGreatDoor
open Go.RowKit Go.Proofs.YtpfilldnfpcpkaaGreatDoorW.PrintWords Go.Proofs.YtpfilldnfpcpkaaGreatDoor.PPo

theorem rcuts_f (K : Nat) (hK : 600 ≤ K) (v : Bool) (n : Nat) (b bits : Int) (hn : n < 340282366920938463463374607431768211456) : platbookref04_Cuts.f K v (hi n) (lo n) b bits = some (cutsS v n b bits) := by
  unfold platbookref04_Cuts.f cutsS
  rw [rrightP_f K hK v n b hn]
  simp only [bsome]
  cases rightP v n b
  · rfl
  · rw [if_pos rfl]
    by_cases h : b ≤ bits
    · rw [if_pos h, width_hl, decide_eq_true h]
      simp only [bsome, Bool.true_and]
    · rw [if_neg h, decide_eq_false h]; rfl
theorem powS_lt (k : Nat) : (powS k).1 < 340282366920938463463374607431768211456 := by
  unfold powS; split
  · decide
  · rename_i h
    have := Nat.pow_lt_pow_right (a := 2) (by omega) (show k < 128 by omega)
    rw [show (2 : Nat) ^ 128 = 340282366920938463463374607431768211456 by decide] at this
    exact this
theorem addR_hl {n m : Nat} (hn : n < 340282366920938463463374607431768211456) (hm : m < 340282366920938463463374607431768211456) : platbookref01_Add.f (hi n) (lo n) (hi m) (lo m) = some (hi (addN n m), lo (addN n m), addF n m) := by
  unfold platbookref01_Add.f; rw [okW_hl, okW_hl, num_hi_lo hn, num_hi_lo hm]; rfl
theorem cmpR_hl {n m : Nat} (hn : n < 340282366920938463463374607431768211456) (hm : m < 340282366920938463463374607431768211456) : platbookref01_Cmp.f (hi n) (lo n) (hi m) (lo m) = some (cmpN n m) := by
  unfold platbookref01_Cmp.f; rw [okW_hl, okW_hl, num_hi_lo hn, num_hi_lo hm]; rfl
theorem count_l0 (d : Nat) : ∀ (k i : Nat), i + d < 128 → platbookref04_Count.l0 (k + d + 1) ((i + d : Nat) : Int) (i : Int) (hi (2 ^ i)) (lo (2 ^ i)) = some (hi (2 ^ (i + d)), lo (2 ^ (i + d)), true) := by
  induction d with
  | zero => intro k i _; rw [platbookref04_Count.l0, if_neg (by omega)]; rfl
  | succ d ih =>
    intro k i hi'
    have hlt : ∀ j, j < 128 → 2 ^ j < 340282366920938463463374607431768211456 := by
      intro j hj
      have := Nat.pow_lt_pow_right (a := 2) (by omega) hj
      rw [show (2 : Nat) ^ 128 = 340282366920938463463374607431768211456 by decide] at this
      exact this
    have h1 := hlt i (by omega)
    have h2 := hlt (i + 1) (by omega)
    have e : addN (2 ^ i) (2 ^ i) = 2 ^ (i + 1) := by
      unfold addN
      rw [← Nat.two_mul, ← Nat.pow_succ', Nat.mod_eq_of_lt h2]
    have := ih k (i + 1) (by omega)
    rw [show k + (d + 1) + 1 = (k + d + 1) + 1 by omega, platbookref04_Count.l0, if_pos (by omega), addR_hl h1 h1, e]
    simp only [bsome]
    rw [w64 (by omega) (by omega), show (i : Int) + 1 = ((i + 1 : Nat) : Int) by omega, show i + (d + 1) = i + 1 + d by omega, this]
theorem count_f (K : Nat) (hK : 200 ≤ K) (k : Nat) (hk : k ≤ 128) : platbookref04_Count.f K (k : Int) = some (hi (powS k).1, lo (powS k).1, (powS k).2) := by
  unfold platbookref04_Count.f powS
  by_cases h : k = 128
  · rw [if_pos (by omega), if_pos (by omega)]; rfl
  · rw [if_neg (by omega), if_neg (by omega)]
    have := count_l0 k (K - k - 1) 0 (by omega)
    rw [show K - k - 1 + k + 1 = K by omega, show 0 + k = k by omega] at this
    rw [show ((0 : Nat) : Int) = 0 from rfl] at this
    exact this
end Go.Proofs.YtpfilldnfpcpkaaGreatDoor

namespace Go.Proofs.YtpfilldnfpcpkaaGreatDoor
open Go.RowKit Go.Proofs.YtpfilldnfpcpkaaGreatDoorW.PrintWords Go.Proofs.YtpfilldnfpcpkaaGreatDoor.PPo

theorem rblock_l0 (d : Nat) : ∀ (K k : Nat) (L X : List Int) (B b0 : Nat) (v : Bool) (h l : Int), k + d + b0 = B → B ≤ L.length → L.length ≤ 128 → X.length = 128 → (∀ b ∈ L, b = 0 ∨ b = 1) → (∀ b ∈ X, b = 0 ∨ b = 1) →
    platbookref04_Block.l0 (K + d + 301) (B : Int) L X (k : Int) v h l (b0 : Int) = some (v, hi (valL (L.take b0 ++ ((X.drop k).take d).reverse ++ L.drop (B - k)).reverse), lo (valL (L.take b0 ++ ((X.drop k).take d).reverse ++ L.drop (B - k)).reverse), (B : Int), 0) := by
  induction d with
  | zero =>
    intro K k L X B b0 v h l hk hB hL hX hb1 hb2
    rw [show K + 0 + 301 = (K + 300) + 1 by omega, platbookref04_Block.l0, w64 (by omega) (by omega), if_neg (by omega), paddr_f K v L hL hb1]
    simp only [bsome]
    have e : L.take b0 ++ ((X.drop k).take 0).reverse ++ L.drop (B - k) = L := by
      rw [show B - k = b0 by omega]; simp
    rw [e]
  | succ d ih =>
    intro K k L X B b0 v h l hk hB hL hX hb1 hb2
    have e0 : rd X (k : Int) = X[k] := by unfold rd; simp [List.getD, List.getElem?_eq_getElem (show k < X.length by omega)]
    rw [show K + (d + 1) + 301 = (K + d + 301) + 1 by omega, platbookref04_Block.l0, w64 (i := (B : Int) - (b0 : Int)) (by omega) (by omega), if_pos (by omega), if_pos (by omega), if_pos (by omega), w64 (i := (B : Int) - 1) (by omega) (by omega), w64 (i := (B : Int) - 1 - (k : Int)) (by omega) (by omega), if_pos (by omega), if_pos (by omega), w64 (i := (k : Int) + 1) (by omega) (by omega), e0, show ((B : Int) - 1 - (k : Int)).toNat = B - (k + 1) by omega, show (k : Int) + 1 = ((k + 1 : Nat) : Int) by omega]
    rw [ih K (k + 1) (L.set (B - (k + 1)) X[k]) X B b0 v h l (by omega) (by rw [List.length_set]; exact hB) (by rw [List.length_set]; exact hL) hX (by
      intro b hb
      rcases List.mem_or_eq_of_mem_set hb with hb | rfl
      · exact hb1 b hb
      · exact hb2 _ (List.getElem_mem _)) hb2]
    have e1 : (L.set (B - (k + 1)) X[k]).take b0 = L.take b0 := List.take_set_of_le (by omega)
    have e2 : (L.set (B - (k + 1)) X[k]).drop (B - (k + 1)) = X[k] :: L.drop (B - k) := by
      rw [List.drop_eq_getElem_cons (by rw [List.length_set]; omega), List.getElem_set_self, List.drop_set_of_lt (by omega), show B - (k + 1) + 1 = B - k by omega]
    have e3 : ((X.drop k).take (d + 1)).reverse = ((X.drop (k + 1)).take d).reverse ++ [X[k]] := by
      rw [List.drop_eq_getElem_cons (show k < X.length by omega), List.take_succ_cons, List.reverse_cons]
    rw [e1, e2, e3]
    simp
theorem rblock_val {v : Bool} {n : Nat} {B b0 : Nat} {i : Nat} (h1 : n < 2 ^ widthN v) (hB : B ≤ widthN v) (hb : b0 ≤ B) (h4 : n % 2 ^ (widthN v - b0) = 0) (hi' : i < 2 ^ (B - b0)) :
    valL ((rowT n (widthN v)).take b0 ++ (((rowL i 128).drop 0).take (B - b0)).reverse ++ (rowT n (widthN v)).drop (B - 0)).reverse = n + i * 2 ^ (widthN v - B) := by
  have hw := widthN_le v
  have hW : widthN v = (widthN v - B) + ((B - b0) + b0) := by omega
  have hsplit : rowL n (widthN v) = rowL n (widthN v - B) ++ (rowL (n / 2 ^ (widthN v - B)) (B - b0) ++ rowL (n / 2 ^ (widthN v - b0)) b0) := by
    have e := rowL_add (widthN v - B) ((B - b0) + b0) n
    rw [← hW] at e
    rw [e, rowL_add, Nat.div_div_eq_div_mul, ← Nat.pow_add, show widthN v - B + (B - b0) = widthN v - b0 by omega]
  have r1 : ((rowT n (widthN v)).take b0).reverse = rowL (n / 2 ^ (widthN v - b0)) b0 := by
    unfold rowT
    rw [hsplit, ← List.append_assoc, List.reverse_append, List.take_left' (by rw [List.length_reverse, rowL_len]), List.reverse_reverse]
  have r2 : ((rowT n (widthN v)).drop B).reverse = rowL n (widthN v - B) := by
    unfold rowT
    rw [hsplit, List.reverse_append, List.drop_left' (by rw [List.length_reverse, List.length_append, rowL_len, rowL_len]; omega), List.reverse_reverse]
  have r3 : ((rowL i 128).drop 0).take (B - b0) = rowL i (B - b0) := by
    have e := rowL_add (B - b0) (128 - (B - b0)) i
    rw [show B - b0 + (128 - (B - b0)) = 128 by omega] at e
    rw [List.drop_zero, e, List.take_left' (rowL_len _ _)]
  rw [List.reverse_append, List.reverse_append, List.reverse_reverse, show B - 0 = B by omega, r1, r2, r3, valL_append, valL_append, rowL_len, rowL_len, valL_row, valL_row, valL_row]
  have m1 : n % 2 ^ (widthN v - B) = 0 := by
    obtain ⟨q, hq⟩ := Nat.dvd_of_mod_eq_zero h4
    rw [hq, show widthN v - b0 = (widthN v - B) + (B - b0) by omega, Nat.pow_add, Nat.mul_assoc]; exact Nat.mul_mod_right _ _
  have m2 : i % 2 ^ (B - b0) = i := Nat.mod_eq_of_lt hi'
  have m3 : n / 2 ^ (widthN v - b0) % 2 ^ b0 = n / 2 ^ (widthN v - b0) := by
    apply Nat.mod_eq_of_lt
    rw [Nat.div_lt_iff_lt_mul (Nat.two_pow_pos _), ← Nat.pow_add, show b0 + (widthN v - b0) = widthN v by omega]; exact h1
  have m4 : 2 ^ (widthN v - b0) * (n / 2 ^ (widthN v - b0)) = n := Nat.mul_div_cancel' (Nat.dvd_of_mod_eq_zero h4)
  rw [m1, m2, m3, Nat.zero_add, Nat.mul_add, ← Nat.mul_assoc, ← Nat.pow_add, show widthN v - B + (B - b0) = widthN v - b0 by omega, m4, Nat.mul_comm]
  omega
theorem cmpN_ge (a b : Nat) : cmpN a b ≥ 0 ↔ b ≤ a := by
  unfold cmpN
  split
  · constructor <;> omega
  · split
    · constructor <;> omega
    · constructor <;> omega
theorem rblock_f (K : Nat) (hK : 900 ≤ K) (v : Bool) (n : Nat) (b bits : Int) (i : Nat) (hn : n < 340282366920938463463374607431768211456) (hi' : i < 340282366920938463463374607431768211456) : platbookref04_Block.f K v (hi n) (lo n) b bits (hi i) (lo i) = some (tup5 (blockS v n b bits i)) := by
  unfold platbookref04_Block.f blockS
  rw [rcuts_f K (by omega) v n b bits hn]
  simp only [bsome]
  cases h : cutsS v n b bits
  · simp [tup5, hi00, lo00]
  · obtain ⟨h1, h2, h3⟩ := cutsS_iff.1 h
    obtain ⟨p1, p2, p3, p4⟩ := rightP_iff.1 h1
    have hw := widthN_le v
    obtain ⟨b0, rfl⟩ := Int.eq_ofNat_of_zero_le p2
    obtain ⟨B, rfl⟩ := Int.eq_ofNat_of_zero_le (show 0 ≤ bits by omega)
    rw [if_pos rfl, if_pos rfl, w64 (by omega) (by omega), show (B : Int) - (b0 : Int) = ((B - b0 : Nat) : Int) by omega, count_f K (by omega) _ (by omega)]
    simp only [bsome]
    obtain ⟨k, rfl⟩ : ∃ k, K = k + 1 := ⟨K - 1, by omega⟩
    -- the tail
    have key : ∀ x : Bool, x = !decide (lenN i ≤ B - b0) → platbookref04_Block.j0 (k + 1) (B : Int) x v (hi n) (lo n) (b0 : Int) (hi i) (lo i) = some (tup5 (if (lenN i : Int) ≤ ((B - b0 : Nat) : Int) then (v, n + i * 2 ^ (widthN v - (B : Int).toNat), (B : Int), 0) else (false, 0, 0, 12))) := by
      rintro x rfl
      rw [platbookref04_Block.j0]
      by_cases hl : lenN i ≤ B - b0
      · rw [if_neg (by simp [hl]), if_pos (by omega)]
        obtain ⟨q, rfl⟩ : ∃ q, k = q + 300 := ⟨k - 300, by omega⟩
        rw [prow_f q v n hn, show q + 300 = (q + 170) + 130 by omega, pbits_f _ i hi']
        simp only [bsome]
        have hlt : i < 2 ^ (B - b0) := (lenN_iff _ _).1 hl
        have hf : fr v (b0 : Int) = widthN v - b0 := by unfold fr; omega
        rw [hf] at p4
        have := rblock_l0 (B - b0) (q + 299 - (B - b0) - 300) 0 (rowT n (widthN v)) (rowL i 128) B b0 v (hi n) (lo n) (by omega) (by rw [rowT_len]; omega) (by rw [rowT_len]; exact hw) (rowL_len _ _) (by intro b hb; unfold rowT at hb; rw [List.mem_reverse] at hb; exact rowL_bit _ _ b hb) (rowL_bit _ _)
        rw [rblock_val p1 (by omega) (by omega) p4 hlt, show q + 299 - (B - b0) - 300 + (B - b0) + 301 = q + 170 + 130 by omega, show ((0 : Nat) : Int) = 0 from rfl] at this
        rw [this]
        simp only [tup5, Int.toNat_natCast]
      · rw [if_pos (by simp [hl]), if_neg (by omega)]
        simp [tup5, hi00, lo00]
    by_cases h128 : 128 ≤ B - b0
    · have e2 : (powS (B - b0)).2 = false := by unfold powS; rw [if_pos h128]
      rw [if_neg (by rw [e2]; simp)]
      refine key false ?_
      have : lenN i ≤ 128 := (lenN_iff _ _).2 (by rw [show (2 : Nat) ^ 128 = 340282366920938463463374607431768211456 by decide]; exact hi')
      simp; omega
    · have e1 : (powS (B - b0)).1 = 2 ^ (B - b0) := by unfold powS; rw [if_neg h128]
      have e2 : (powS (B - b0)).2 = true := by unfold powS; rw [if_neg h128]
      have hp := powS_lt (B - b0)
      rw [if_pos e2, cmpR_hl hi' hp]
      simp only [bsome]
      refine key _ ?_
      rw [e1, Bool.eq_iff_iff]
      simp only [decide_eq_true_iff, Bool.not_eq_true', decide_eq_false_iff_not]
      rw [cmpN_ge, lenN_iff]
      omega
end Go.Proofs.YtpfilldnfpcpkaaGreatDoor

namespace Go.Proofs.YtpfilldnfpcpkaaGreatDoor
open Go.RowKit

/-- in w the pool of a prefix lies at block q, its map at g, its words at c; f: which numbers are used, or kept -/
structure PoolAt (w : World) (q g c : Nat) (v : Bool) (n : Nat) (b : Int) (f : Nat → Bool) : Prop where
  head : Blk w q 105 #[.bool v, .int .u64 (hi n), .int .u64 (lo n), .int .i64 b, .pointer (some ⟨g, 0, none⟩)]
  map : MapAt w g c (cntP (fr v b)) f
  right : rightP v n b = true
  big : 2 ≤ fr v b
theorem PoolAt.drew {w : World} {q g c : Nat} {v : Bool} {n : Nat} {b : Int} {f : Nat → Bool} (h : PoolAt w q g c v n b f) : PoolAt w.drew q g c v n b f := ⟨h.head.drew, h.map.drew, h.right, h.big⟩
theorem PoolAt.alloc {w : World} {q g c : Nat} {v : Bool} {n : Nat} {b : Int} {f : Nat → Bool} (h : PoolAt w q g c v n b f) (o : Obj) : PoolAt (w.alloc o) q g c v n b f := ⟨h.head.alloc o, h.map.alloc o, h.right, h.big⟩
theorem PoolAt.after {w w' : World} {q g c : Nat} {v : Bool} {n : Nat} {b : Int} {f : Nat → Bool} (h : PoolAt w q g c v n b f) (hb : Below w.heap.size w w') : PoolAt w' q g c v n b f := ⟨h.head.after hb, h.map.after hb, h.right, h.big⟩
theorem PoolAt.cells {w : World} {q g c : Nat} {v : Bool} {n : Nat} {b : Int} {f : Nat → Bool} (h : PoolAt w q g c v n b f) :
    w.cell? ⟨q, 0, none⟩ = some (.bool v) ∧ w.cell? ⟨q, 1, none⟩ = some (.int .u64 (hi n)) ∧ w.cell? ⟨q, 2, none⟩ = some (.int .u64 (lo n)) ∧ w.cell? ⟨q, 3, none⟩ = some (.int .i64 b) ∧ w.cell? ⟨q, 4, none⟩ = some (.pointer (some ⟨g, 0, none⟩)) :=
  ⟨(h.head.cell 0).trans rfl, (h.head.cell 1).trans rfl, (h.head.cell 2).trans rfl, (h.head.cell 3).trans rfl, (h.head.cell 4).trans rfl⟩
theorem PoolAt.ne {w : World} {q g c : Nat} {v : Bool} {n : Nat} {b : Int} {f : Nat → Bool} (h : PoolAt w q g c v n b f) : q ≠ c := h.head.ne h.map.row (by decide)
theorem PoolAt.put {w w' : World} {q g c : Nat} {v : Bool} {n : Nat} {b : Int} {f f' : Nat → Bool} (h : PoolAt w q g c v n b f) (hm : MapAt w' g c (cntP (fr v b)) f') (hg : w.grownBy w' (some c)) : PoolAt w' q g c v n b f' :=
  ⟨h.head.grown hg (some_ne h.ne), hm, h.right, h.big⟩
theorem PoolAt.lt {w : World} {q g c : Nat} {v : Bool} {n : Nat} {b : Int} {f : Nat → Bool} (h : PoolAt w q g c v n b f) : n < 340282366920938463463374607431768211456 := Nat.lt_of_lt_of_le (rightP_iff.1 h.right).1 (pow_w v)

end Go.Proofs.YtpfilldnfpcpkaaGreatDoor

namespace Go.Proofs.YtpfilldnfpcpkaaGreatDoor
open Go.RowKit

theorem MapAt.far {w : World} {g c n : Nat} {f : Nat → Bool} (h : MapAt w g c n f) {p : Addr} (h2 : g ≠ p.block) (h3 : c ≠ p.block) (u : Value) : MapAt (w.setCell p u) g c n f :=
  ⟨h.head.far h2 u, h.row.far h3 u, h.ne, h.small, h.top⟩
theorem PoolAt.far {w : World} {q g c : Nat} {v : Bool} {n : Nat} {b : Int} {f : Nat → Bool} (h : PoolAt w q g c v n b f) {p : Addr} (h1 : q ≠ p.block) (h2 : g ≠ p.block) (h3 : c ≠ p.block) (u : Value) : PoolAt (w.setCell p u) q g c v n b f :=
  ⟨h.head.far h1 u, h.map.far h2 h3 u, h.right, h.big⟩
end Go.Proofs.YtpfilldnfpcpkaaGreatDoor

namespace Go.Proofs.YtpfilldnfpcpkaaGreatDoor
open Go.RowKit Go.Proofs.YtpfilldnfpcpkaaGreatDoorW.PrintWords Go.Proofs.YtpfilldnfpcpkaaGreatDoor.PPo

/-- how many blocks a prefix has -/
def nB (b bits : Int) : Nat := 2 ^ (bits - b).toNat
/-- in w the set of blocks of a prefix lies at block q, its map at g, the words at c -/
structure SetAt (w : World) (q g c : Nat) (v : Bool) (n : Nat) (b bits : Int) (f : Nat → Bool) (cur : Nat) : Prop where
  head : Blk w q 129 #[.bool v, .int .u64 (hi n), .int .u64 (lo n), .int .i64 b, .int .i64 bits, .pointer (some ⟨g, 0, none⟩), .int .i64 cur]
  map : MapAt w g c (nB b bits) f
  cuts : cutsS v n b bits = true
  few : bits - b ≤ 16
  at_ : cur < nB b bits
theorem nB_le {b bits : Int} (h : bits - b ≤ 16) : nB b bits ≤ 65536 := Nat.pow_le_pow_right (n := 2) (i := (bits - b).toNat) (j := 16) (by decide) (by omega)
theorem nB_pos (b bits : Int) : 0 < nB b bits := Nat.two_pow_pos _
theorem SetAt.after {w w' : World} {q g c : Nat} {v : Bool} {n : Nat} {b bits : Int} {f : Nat → Bool} {cur : Nat} (h : SetAt w q g c v n b bits f cur) (hb : Below w.heap.size w w') : SetAt w' q g c v n b bits f cur := ⟨h.head.after hb, h.map.after hb, h.cuts, h.few, h.at_⟩
theorem set_cells {w : World} {q g c : Nat} {v : Bool} {n : Nat} {b bits : Int} {f : Nat → Bool} {cur : Nat} (h : SetAt w q g c v n b bits f cur) :
    w.cell? ⟨q, 0, none⟩ = some (.bool v) ∧ w.cell? ⟨q, 1, none⟩ = some (.int .u64 (hi n)) ∧ w.cell? ⟨q, 2, none⟩ = some (.int .u64 (lo n)) ∧ w.cell? ⟨q, 3, none⟩ = some (.int .i64 b) ∧ w.cell? ⟨q, 4, none⟩ = some (.int .i64 bits) ∧ w.cell? ⟨q, 5, none⟩ = some (.pointer (some ⟨g, 0, none⟩)) ∧ w.cell? ⟨q, 6, none⟩ = some (.int .i64 cur) :=
  ⟨(h.head.cell 0).trans rfl, (h.head.cell 1).trans rfl, (h.head.cell 2).trans rfl, (h.head.cell 3).trans rfl, (h.head.cell 4).trans rfl, (h.head.cell 5).trans rfl, (h.head.cell 6).trans rfl⟩
theorem SetAt.lt {w : World} {q g c : Nat} {v : Bool} {n : Nat} {b bits : Int} {f : Nat → Bool} {cur : Nat} (h : SetAt w q g c v n b bits f cur) : n < 340282366920938463463374607431768211456 := Nat.lt_of_lt_of_le (rightP_iff.1 (cutsS_iff.1 h.cuts).1).1 (pow_w v)
theorem SetAt.put {w w' : World} {q g c : Nat} {v : Bool} {n : Nat} {b bits : Int} {f f' : Nat → Bool} {cur : Nat} (h : SetAt w q g c v n b bits f cur) (hm : MapAt w' g c (nB b bits) f') (hg : w.grownBy w' (some c)) : SetAt w' q g c v n b bits f' cur :=
  ⟨h.head.grown hg (some_ne (h.head.ne h.map.row (by decide))), hm, h.cuts, h.few, h.at_⟩

theorem blocks_k (v : Bool) (n : Nat) (b bits : Int) (w : World) (hn : n < 340282366920938463463374607431768211456) :
    Calls Tryz.prog 95 #[.agg #[.bool v, .int .u64 (hi n), .int .u64 (lo n), .int .i64 b], .int .i64 bits] w fun e w' =>
      e = .returned (.tuple #[.agg #[.int .u64 (hi (blocksS v n b bits).1), .int .u64 (lo (blocksS v n b bits).1)], .bool (blocksS v n b bits).2.1, .int .i64 (blocksS v n b bits).2.2]) ∧ Below w.heap.size w w' :=
  carve_Blocks.calls v (hi n) (lo n) b bits _ _ _ _ w (blocks_f v n b bits hn)
theorem block_k (v : Bool) (n : Nat) (b bits : Int) (i : Nat) (w : World) (hc : cutsS v n b bits = true) (hi' : i < nB b bits) (h64 : i < 18446744073709551616) :
    Calls Tryz.prog 142 #[.agg #[.bool v, .int .u64 (hi n), .int .u64 (lo n), .int .i64 b], .int .i64 bits, .agg #[.int .u64 (hi i), .int .u64 (lo i)]] w fun e w' =>
      e = .returned (.tuple #[.agg #[.bool v, .int .u64 (hi (n + i * 2 ^ fr v bits)), .int .u64 (lo (n + i * 2 ^ fr v bits)), .int .i64 bits], .int .i64 0]) ∧ Below w.heap.size w w' := by
  have hn : n < 340282366920938463463374607431768211456 := Nat.lt_of_lt_of_le (rightP_iff.1 (cutsS_iff.1 hc).1).1 (pow_w v)
  have hbb := (cutsS_iff.1 hc).2.1
  have hl : (lenN i : Int) ≤ bits - b := by
    have := (lenN_iff i (bits - b).toNat).2 hi'
    omega
  obtain ⟨e, _⟩ := block_at hc hl
  have hf := block_f v n b bits i hn (by omega)
  rw [e] at hf
  exact carve_Block.calls v (hi n) (lo n) b bits (hi i) (lo i) _ _ _ _ _ w hf
theorem span_k (v : Bool) (n : Nat) (b bits : Int) (u : Bool) (m : Nat) (c : Int) (w : World) (hn : n < 340282366920938463463374607431768211456) (hm : m < 340282366920938463463374607431768211456) :
    Calls Tryz.prog 139 #[.agg #[.bool v, .int .u64 (hi n), .int .u64 (lo n), .int .i64 b], .int .i64 bits, .agg #[.bool u, .int .u64 (hi m), .int .u64 (lo m), .int .i64 c]] w fun e w' =>
      e = .returned (.tuple #[.agg #[.int .u64 (hi (spanS v n b bits u m c).1), .int .u64 (lo (spanS v n b bits u m c).1)], .agg #[.int .u64 (hi (spanS v n b bits u m c).2.1), .int .u64 (lo (spanS v n b bits u m c).2.1)], .int .i64 (spanS v n b bits u m c).2.2]) ∧ Below w.heap.size w w' :=
  carve_Span.calls 10 v (hi n) (lo n) b bits u (hi m) (lo m) c _ _ _ _ _ w (span_f 10 (by omega) v n b bits u m c hn hm)
set_option maxRecDepth 20000 in
set_option maxHeartbeats 1000000 in
theorem knew_c (v : Bool) (n : Nat) (b bits : Int) (w : World) (hc : cutsS v n b bits = true) (h16 : bits - b ≤ 16) :
    Calls Tryz.prog 37 #[.agg #[.bool v, .int .u64 (hi n), .int .u64 (lo n), .int .i64 b], .int .i64 bits] w fun e w' => ∃ q g c, e = .returned (.tuple #[.pointer (some ⟨q, 0, none⟩), .int .i64 0]) ∧
      SetAt w' q g c v n b bits (fun _ => false) 0 ∧ Below w.heap.size w w' ∧ w.heap.size ≤ q ∧ w.heap.size ≤ g ∧ w.heap.size ≤ c := by
  have hn : n < 340282366920938463463374607431768211456 := Nat.lt_of_lt_of_le (rightP_iff.1 (cutsS_iff.1 hc).1).1 (pow_w v)
  have H := Lib.hid (fun w => blocks_k v n b bits w hn)
  have hbb := (cutsS_iff.1 hc).2.1
  have hS : blocksS v n b bits = (nB b bits, true, 0) := by unfold blocksS; rw [if_pos hc, powS_small (by omega)]; rfl
  rw [hS] at H
  have hN := nB_le h16
  have hN0 := nB_pos b bits
  have hk64 : nB b bits < 18446744073709551616 := by omega
  have hwk : IntKind.i64.wrap ((nB b bits : Nat) : Int) = ((nB b bits : Nat) : Int) := by rw [IntKind.wrap_i64]; omega
  clear hS
  simp only at H
  go_enter Tryz.func37, Tryz.ntmps37
  go_wp2_with fail
  have hA : Blk (w.alloc (Obj.cells #[Value.bool v, Value.int IntKind.u64 (hi n), Value.int IntKind.u64 (lo n), Value.int IntKind.i64 b] 28)) w.heap.size 28 (PfxC v n b) := Blk.new _ _ _
  have hbel : Below w.heap.size w (w.alloc (Obj.cells #[Value.bool v, Value.int IntKind.u64 (hi n), Value.int IntKind.u64 (lo n), Value.int IntKind.i64 b] 28)) := bl_
  generalize w.alloc (Obj.cells #[Value.bool v, Value.int IntKind.u64 (hi n), Value.int IntKind.u64 (lo n), Value.int IntKind.i64 b] 28) = wz at *
  refine (H.out _).mono ?_
  rintro e w1 ⟨rfl, hb1⟩
  replace hA := hA.after hb1
  replace hbel := bl_trans hbel hb1
  clear hb1
  go_wp2_with fail
  refine (small_k (nB b bits) _ (by omega)).mono ?_
  rintro e w2 ⟨rfl, hb2⟩
  replace hA := (hA.alloc _).after hb2
  replace hbel := bl_trans (bl_alloc hbel _) hb2
  clear hb2
  rw [smallS_lt hk64]
  have d1 : decide (65536 < nB b bits) = false := decide_eq_false (by omega)
  go_wp2_with fail
  refine (new_c _ _ hN).mono ?_
  rintro e w3 ⟨rfl, hm, hb3⟩
  replace hA := hA.after hb3
  have hws := hbel.size
  replace hbel := bl_trans hbel hb3
  clear hb3
  obtain ⟨a0, a1, a2, a3, _⟩ := blk_pfx hA
  have hs3 := hbel.size
  go_wp2_with fail
  go_ret2
  exact ⟨w3.heap.size, w2.heap.size + 1, w2.heap.size, rfl, ⟨Blk.new _ _ _, hm.alloc _, hc, h16, hN0⟩, bl_alloc hbel _, hs3, by omega, hws⟩
end Go.Proofs.YtpfilldnfpcpkaaGreatDoor

namespace Go.Proofs.YtpfilldnfpcpkaaGreatDoor
open Go.RowKit

theorem blk_fill4 {w : World} {g : Nat} {t : TypeId} {u v z o x y k m : Value} (h : Blk w g t #[u, v, z, o]) : Blk ((((w.setCell ⟨g, 0, none⟩ x).setCell ⟨g, 1, none⟩ y).setCell ⟨g, 2, none⟩ k).setCell ⟨g, 3, none⟩ m) g t #[x, y, k, m] := (((h.put 0 x).put 1 y).put 2 k).put 3 m
set_option maxRecDepth 20000 in
set_option maxHeartbeats 1600000 in
theorem kblock_c (q g c : Nat) (v : Bool) (n : Nat) (b bits : Int) (f : Nat → Bool) (cur : Nat) (i : Nat) (w : World) (h : SetAt w q g c v n b bits f cur) (hi' : i < nB b bits) :
    Calls Tryz.prog 99 #[.pointer (some ⟨q, 0, none⟩), .int .i64 i] w fun e w' => e = .returned (.agg #[.bool v, .int .u64 (hi (n + i * 2 ^ fr v bits)), .int .u64 (lo (n + i * 2 ^ fr v bits)), .int .i64 bits]) ∧ Below w.heap.size w w' := by
  have hN2 := nB_le h.few
  have H1 := Lib.hid (fun w => block_k v n b bits i w h.cuts hi' (by omega))
  have H2 := Lib.hid (fun w => numof_k i w (by omega))
  have hw64 : IntKind.u64.wrap (i : Int) = (i : Int) := by show _ % 18446744073709551616 = _; omega
  generalize n + i * 2 ^ fr v bits = y at *
  go_enter Tryz.func99, Tryz.ntmps99
  go_wp2_with fail
  have hR : Blk (w.alloc (Obj.cells #[Value.bool false, Value.int IntKind.u64 0, Value.int IntKind.u64 0, Value.int IntKind.i64 0] 28)) w.heap.size 28 (PfxC false 0 0) := Blk.new _ _ _
  have hbel : Below w.heap.size w (w.alloc (Obj.cells #[Value.bool false, Value.int IntKind.u64 0, Value.int IntKind.u64 0, Value.int IntKind.i64 0] 28)) := bl_
  generalize w.alloc (Obj.cells #[Value.bool false, Value.int IntKind.u64 0, Value.int IntKind.u64 0, Value.int IntKind.i64 0] 28) = wz at *
  have hlt := hR.lt
  go_cut [5] from 7 (fun s5 wc => ∃ g5, s5 = .pointer (some ⟨g5, 0, none⟩) ∧ Blk wc g5 28 #[.bool v, .int .u64 (hi y), .int .u64 (lo y), .int .i64 bits] ∧ Blk wc w.heap.size 28 (PfxC false 0 0) ∧ w.heap.size < g5 ∧ Below w.heap.size w wc)
  case first =>
    go_region_held3 (fun w' => (w'.cell? ⟨q, 0, none⟩ = some (.bool v) ∧ w'.cell? ⟨q, 1, none⟩ = some (.int .u64 (hi n)) ∧ w'.cell? ⟨q, 2, none⟩ = some (.int .u64 (lo n)) ∧ w'.cell? ⟨q, 3, none⟩ = some (.int .i64 b) ∧ w'.cell? ⟨q, 4, none⟩ = some (.int .i64 bits) ∧ w'.cell? ⟨q, 5, none⟩ = some (.pointer (some ⟨g, 0, none⟩)) ∧ w'.cell? ⟨q, 6, none⟩ = some (.int .i64 cur)) ∧ Blk w' w.heap.size 28 (PfxC false 0 0) ∧ Below w.heap.size w w')
      (exact ⟨set_cells (h.after bl_), bk_, bl_⟩)
      (first
      | (go_at_call 126; refine (H2.out _).mono ?_; rintro e w3 ⟨rfl, hb3⟩; obtain ⟨hc3, hf3⟩ := bcell hb3; have hz3 := hb3.size; (try simp only [size_alloc', size_setCell', size_drew'] at hz3); (try have hy3 : wz.heap.size < w3.heap.size := by omega))
      | (go_at_call 142; refine (H1.out _).mono ?_; rintro e w4 ⟨rfl, hb4⟩; obtain ⟨hc4, hf4⟩ := bcell hb4; have hz4 := hb4.size; (try simp only [size_alloc', size_setCell', size_drew'] at hz4); (try have hy4 : wz.heap.size < w4.heap.size := by omega)))
    all_goals
      go_wp2_with fail
      go_meet
      case rel => exact ⟨_, rfl, (by first | with_reducible exact Blk.new _ _ _ | exact blk_fill4 (u := .bool false) (v := .int .u64 0) (z := .int .u64 0) (o := .int .i64 0) bk_), bk_, by omega, bl_⟩
  case rest =>
    obtain ⟨g5, rfl, hA, hR, h5, hbel⟩ := hcut
    have a0 := (hA.cell 0).trans rfl
    have a1 := (hA.cell 1).trans rfl
    have a2 := (hA.cell 2).trans rfl
    have a3 := (hA.cell 3).trans rfl
    simp only [List.getElem?_toArray, List.getElem?_cons_zero, List.getElem?_cons_succ] at a0 a1 a2 a3
    obtain ⟨r0, r1, r2, r3, _⟩ := blk_pfx hR
    have z0 := hR.frozen 0
    have z1 := hR.frozen 1
    have z2 := hR.frozen 2
    have z3 := hR.frozen 3
    go_wp2_with fail
    refine bodyPost_ret (v := .agg #[.bool v, .int .u64 (hi y), .int .u64 (lo y), .int .i64 bits]) (results_cell_row (t := 28) Tryz.results99 _ _ w.heap.size _ (0, 0) _ rfl ((((hR.put 0 _).put 1 _).put 2 _).put 3 _) Tryz.underlying28 rfl (by kernel_rfl)) rfl ⟨rfl, bl_⟩
theorem spanS_small (v : Bool) (n : Nat) (b bits : Int) (u : Bool) (m : Nat) (c : Int) (h16 : bits - b ≤ 16) : (spanS v n b bits u m c).1 < 65537 ∧ (spanS v n b bits u m c).2.1 < 65537 := by
  by_cases hc : cutsS v n b bits = true ∧ rightP u m c = true
  · by_cases ho : overlapS v n b u m c = true
    · obtain ⟨rfl, _, _⟩ := overlap_kind ho
      obtain ⟨_, _, s2, s3, _⟩ := span_between hc.1 ho
      have hN := nB_le h16
      have h1 := (lenN_iff (spanS u n b bits u m c).1 (bits - b).toNat).1 (by omega)
      have h2 := (lenN_iff (spanS u n b bits u m c).2.1 (bits - b).toNat).1 (by omega)
      unfold nB at hN
      omega
    · unfold spanS; rw [if_pos hc, if_neg ho]; decide
  · unfold spanS; rw [if_neg hc]; decide
theorem spanS_err (v : Bool) (n : Nat) (b bits : Int) (u : Bool) (m : Nat) (c : Int) (h : (spanS v n b bits u m c).2.2 ≠ 0) : (spanS v n b bits u m c).1 = 0 ∧ (spanS v n b bits u m c).2.1 = 0 := by
  by_cases hc : cutsS v n b bits = true ∧ rightP u m c = true
  · by_cases ho : overlapS v n b u m c = true
    · obtain ⟨rfl, _, _⟩ := overlap_kind ho
      exact absurd (span_between hc.1 ho).1 h
    · unfold spanS; rw [if_pos hc, if_neg ho]; exact ⟨rfl, rfl⟩
  · unfold spanS; rw [if_neg hc]; exact ⟨rfl, rfl⟩
set_option maxRecDepth 20000 in
set_option maxHeartbeats 1600000 in
theorem kspan_c (q g c : Nat) (v : Bool) (n : Nat) (b bits : Int) (f : Nat → Bool) (cur : Nat) (u : Bool) (m : Nat) (k : Int) (w : World) (h : SetAt w q g c v n b bits f cur) (hm : m < 340282366920938463463374607431768211456) :
    Calls Tryz.prog 97 #[.pointer (some ⟨q, 0, none⟩), .agg #[.bool u, .int .u64 (hi m), .int .u64 (lo m), .int .i64 k]] w fun e w' =>
      e = .returned (.tuple #[.int .i64 ((spanS v n b bits u m k).1 : Nat), .int .i64 ((spanS v n b bits u m k).2.1 : Nat), .int .i64 (spanS v n b bits u m k).2.2]) ∧ Below w.heap.size w w' := by
  have hn := h.lt
  have H := Lib.hid (fun w => span_k v n b bits u m k w hn hm)
  obtain ⟨hs1, hs2⟩ := spanS_small v n b bits u m k h.few
  have HE := Lib.hid (spanS_err v n b bits u m k)
  generalize (spanS v n b bits u m k).1 = A at *
  generalize (spanS v n b bits u m k).2.1 = B at *
  generalize (spanS v n b bits u m k).2.2 = E at *
  go_enter Tryz.func97, Tryz.ntmps97
  go_wp2_with fail
  have hA : Blk (w.alloc (Obj.cells #[Value.bool u, Value.int IntKind.u64 (hi m), Value.int IntKind.u64 (lo m), Value.int IntKind.i64 k] 28)) w.heap.size 28 (PfxC u m k) := Blk.new _ _ _
  have hbel : Below w.heap.size w (w.alloc (Obj.cells #[Value.bool u, Value.int IntKind.u64 (hi m), Value.int IntKind.u64 (lo m), Value.int IntKind.i64 k] 28)) := bl_
  generalize w.alloc (Obj.cells #[Value.bool u, Value.int IntKind.u64 (hi m), Value.int IntKind.u64 (lo m), Value.int IntKind.i64 k] 28) = wz at *
  have hlt := hA.lt
  go_cut [7, 8, 9] from 16 (fun s7 s8 s9 wc => ∃ g7 g8, s7 = .pointer (some ⟨g7, 0, none⟩) ∧ s8 = .pointer (some ⟨g8, 0, none⟩) ∧ s9 = .int .i64 E ∧ Blk wc g7 24 #[.int .u64 (hi A), .int .u64 (lo A)] ∧ Blk wc g8 24 #[.int .u64 (hi B), .int .u64 (lo B)] ∧ Below w.heap.size w wc)
  case first =>
    go_region_held3 (fun w' => (w'.cell? ⟨w.heap.size, 0, none⟩ = some (.bool u) ∧ w'.cell? ⟨w.heap.size, 1, none⟩ = some (.int .u64 (hi m)) ∧ w'.cell? ⟨w.heap.size, 2, none⟩ = some (.int .u64 (lo m)) ∧ w'.cell? ⟨w.heap.size, 3, none⟩ = some (.int .i64 k) ∧ Blk w' w.heap.size 28 (PfxC u m k)) ∧ (w'.cell? ⟨q, 0, none⟩ = some (.bool v) ∧ w'.cell? ⟨q, 1, none⟩ = some (.int .u64 (hi n)) ∧ w'.cell? ⟨q, 2, none⟩ = some (.int .u64 (lo n)) ∧ w'.cell? ⟨q, 3, none⟩ = some (.int .i64 b) ∧ w'.cell? ⟨q, 4, none⟩ = some (.int .i64 bits) ∧ w'.cell? ⟨q, 5, none⟩ = some (.pointer (some ⟨g, 0, none⟩)) ∧ w'.cell? ⟨q, 6, none⟩ = some (.int .i64 cur)) ∧ Below w.heap.size w w')
      (exact ⟨blk_pfx bk_, set_cells (h.after bl_), bl_⟩)
      (first
      | (go_at_call 139; refine (H.out _).mono ?_; rintro e w3 ⟨rfl, hb3⟩; obtain ⟨hc3, hf3⟩ := bcell hb3; have hz3 := hb3.size; (try simp only [size_alloc', size_setCell', size_drew'] at hz3); (try have hy3 : wz.heap.size < w3.heap.size := by omega); (try have hy4 : wz.heap.size + 1 < w3.heap.size := by omega); (try have hq1 : Blk w3 wz.heap.size 24 #[.int .u64 0, .int .u64 0] := (((Blk.new wz 24 #[.int .u64 0, .int .u64 0]).alloc _).drew).after hb3); (try have hq1 : Blk w3 wz.heap.size 24 #[.int .u64 0, .int .u64 0] := ((Blk.new wz 24 #[.int .u64 0, .int .u64 0]).drew).after hb3); (try have hq2 : Blk w3 (wz.heap.size + 1) 24 #[.int .u64 0, .int .u64 0] := by (refine (Blk.new' (wz.alloc (.cells #[.int .u64 0, .int .u64 0] 24)) 24 #[.int .u64 0, .int .u64 0] (wz.heap.size + 1) ?_).drew.after hb3; simp; done))))
    all_goals
      go_wp2_with fail
      go_meet
      case rel =>
        refine ⟨_, _, rfl, rfl, rfl, ?_, ?_, bl_⟩
        all_goals
          first
          | (with_reducible exact (Blk.new _ _ _).alloc _)
          | (with_reducible exact (blk_fill hq1).alloc _)
          | (with_reducible exact ((blk_fill hq1).far (Nat.ne_of_lt (Nat.lt_succ_self _)) _).far (Nat.ne_of_lt (Nat.lt_succ_self _)) _)
          | (with_reducible exact ((blk_fill hq2).far (Nat.ne_of_gt (Nat.lt_succ_self _)) _).far (Nat.ne_of_gt (Nat.lt_succ_self _)) _)
          | (with_reducible exact blk_fill ((hq2.far (Nat.ne_of_gt (Nat.lt_succ_self _)) _).far (Nat.ne_of_gt (Nat.lt_succ_self _)) _))
          | (with_reducible exact blk_fill ((hq1.far (Nat.ne_of_lt (Nat.lt_succ_self _)) _).far (Nat.ne_of_lt (Nat.lt_succ_self _)) _))
          | (with_reducible refine Blk.new' _ _ _ _ ?_; simp; done)
  case rest =>
    obtain ⟨g7, g8, rfl, rfl, rfl, hP, hQ, hbel⟩ := hcut
    obtain ⟨n0, n1, _⟩ := blk_two hP
    obtain ⟨m0, m1, _⟩ := blk_two hQ
    by_cases hE : E = 0
    · subst hE
      have hA64 : A < 18446744073709551616 := by omega
      have hB64 : B < 18446744073709551616 := by omega
      go_wp2_with fail
      refine (small_k A _ (by omega)).mono ?_
      rintro e w4 ⟨rfl, hb4⟩
      replace hbel := bl_trans hbel hb4
      replace hQ := hQ.after hb4
      clear hb4 n0 n1 m0 m1 hP
      rw [smallS_lt hA64]
      obtain ⟨m0, m1, _⟩ := blk_two hQ
      go_wp2_with fail
      refine (small_k B _ (by omega)).mono ?_
      rintro e w5 ⟨rfl, hb5⟩
      replace hbel := bl_trans hbel hb5
      clear hb5 m0 m1 hQ
      rw [smallS_lt hB64]
      have hwA : wrap64 (A : Int) = (A : Int) := by unfold wrap64; omega
      have hwB : wrap64 (B : Int) = (B : Int) := by unfold wrap64; omega
      go_wp2_with fail
      go_ret3
      exact ⟨rfl, hbel⟩
    · have d0 : (E == 0) = false := by simpa using hE
      obtain ⟨e1, e2⟩ := HE.out hE
      subst e1 e2
      clear hE HE n0 n1 m0 m1
      go_wp2_with fail
      go_ret3
      exact ⟨rfl, hbel⟩
end Go.Proofs.YtpfilldnfpcpkaaGreatDoor

namespace Go.Proofs.YtpfilldnfpcpkaaGreatDoor
open Go.RowKit

def notF (f : Nat → Bool) : Nat → Bool := fun x => !f x
def yesF (f : Nat → Bool) : Nat → Bool := fun x => f x
set_option maxRecDepth 20000 in
set_option maxHeartbeats 1000000 in
theorem kfill_no (q g c : Nat) (v : Bool) (n : Nat) (b bits : Int) (f : Nat → Bool) (cur : Nat) (u : Bool) (m : Nat) (k : Int) (w : World) (h : SetAt w q g c v n b bits f cur) (hm : m < 340282366920938463463374607431768211456) (hE : (spanS v n b bits u m k).2.2 ≠ 0) :
    Calls Tryz.prog 38 #[.pointer (some ⟨q, 0, none⟩), .agg #[.bool u, .int .u64 (hi m), .int .u64 (lo m), .int .i64 k]] w fun e w' =>
      e = .returned (.tuple #[.int .i64 0, .int .i64 (spanS v n b bits u m k).2.2]) ∧ Below w.heap.size w w' := by
  have H := Lib.hid (fun w hh => kspan_c q g c v n b bits f cur u m k w hh hm)
  generalize (spanS v n b bits u m k).1 = A at *
  generalize (spanS v n b bits u m k).2.1 = B at *
  generalize (spanS v n b bits u m k).2.2 = E at *
  have d0 : (E == 0) = false := by simpa using hE
  go_enter Tryz.func38, Tryz.ntmps38
  go_wp2_with fail
  refine (H.out _ (h.after bl_)).mono ?_
  rintro e w1 ⟨rfl, hb1⟩
  have hbel : Below w.heap.size w w1 := bl_trans bl_ hb1
  clear hb1
  go_wp2_with fail
  go_ret2
  exact ⟨rfl, hbel⟩
set_option maxRecDepth 20000 in
set_option maxHeartbeats 1000000 in
theorem kfill_c (q g c : Nat) (v : Bool) (n : Nat) (b bits : Int) (f : Nat → Bool) (cur : Nat) (m : Nat) (k : Int) (w : World) (h : SetAt w q g c v n b bits f cur) (hm : m < 340282366920938463463374607431768211456) (ho : overlapS v n b v m k = true) :
    Calls Tryz.prog 38 #[.pointer (some ⟨q, 0, none⟩), .agg #[.bool v, .int .u64 (hi m), .int .u64 (lo m), .int .i64 k]] w fun e w' =>
      e = .returned (.tuple #[.int .i64 (cnt (notF f) (spanS v n b bits v m k).1 ((spanS v n b bits v m k).2.1 + 1 - (spanS v n b bits v m k).1) : Nat), .int .i64 0]) ∧
      SetAt w' q g c v n b bits (fun x => if (spanS v n b bits v m k).1 ≤ x ∧ x ≤ (spanS v n b bits v m k).2.1 then true else f x) cur ∧ w.grownBy w' (some c) := by
  have H := Lib.hid (fun w hh => kspan_c q g c v n b bits f cur v m k w hh hm)
  obtain ⟨s1, s2, s3, s4, _⟩ := span_between h.cuts ho
  have hB : (spanS v n b bits v m k).2.1 < nB b bits := (lenN_iff _ (bits - b).toNat).1 (by have := (cutsS_iff.1 h.cuts).2.1; omega)
  rw [s1] at H
  generalize (spanS v n b bits v m k).1 = A at *
  generalize (spanS v n b bits v m k).2.1 = B at *
  clear s1 s3 s4
  go_enter Tryz.func38, Tryz.ntmps38
  go_wp2_with fail
  refine (H.out _ (h.after bl_)).mono ?_
  rintro e w1 ⟨rfl, hb1⟩
  have hbel : Below w.heap.size w w1 := bl_trans bl_ hb1
  clear hb1
  obtain ⟨c0, c1, c2, c3, c4, c5, c6⟩ := set_cells (h.after hbel)
  go_wp2_with fail
  refine (fill_c g c (nB b bits) A B f w1 (h.after hbel).map s2 hB).mono ?_
  rintro e w2 ⟨rfl, hm2, hg2⟩
  go_wp2_with fail
  go_ret2
  exact ⟨rfl, (h.after hbel).put hm2 hg2, gb_trans (gb_below hbel) hg2⟩
set_option maxRecDepth 20000 in
set_option maxHeartbeats 1000000 in
theorem kclear_no (q g c : Nat) (v : Bool) (n : Nat) (b bits : Int) (f : Nat → Bool) (cur : Nat) (u : Bool) (m : Nat) (k : Int) (w : World) (h : SetAt w q g c v n b bits f cur) (hm : m < 340282366920938463463374607431768211456) (hE : (spanS v n b bits u m k).2.2 ≠ 0) :
    Calls Tryz.prog 47 #[.pointer (some ⟨q, 0, none⟩), .agg #[.bool u, .int .u64 (hi m), .int .u64 (lo m), .int .i64 k]] w fun e w' =>
      e = .returned (.tuple #[.int .i64 0, .int .i64 (spanS v n b bits u m k).2.2]) ∧ Below w.heap.size w w' := by
  have H := Lib.hid (fun w hh => kspan_c q g c v n b bits f cur u m k w hh hm)
  generalize (spanS v n b bits u m k).1 = A at *
  generalize (spanS v n b bits u m k).2.1 = B at *
  generalize (spanS v n b bits u m k).2.2 = E at *
  have d0 : (E == 0) = false := by simpa using hE
  go_enter Tryz.func47, Tryz.ntmps47
  go_wp2_with fail
  refine (H.out _ (h.after bl_)).mono ?_
  rintro e w1 ⟨rfl, hb1⟩
  have hbel : Below w.heap.size w w1 := bl_trans bl_ hb1
  clear hb1
  go_wp2_with fail
  go_ret2
  exact ⟨rfl, hbel⟩
set_option maxRecDepth 20000 in
set_option maxHeartbeats 1000000 in
theorem kclear_c (q g c : Nat) (v : Bool) (n : Nat) (b bits : Int) (f : Nat → Bool) (cur : Nat) (m : Nat) (k : Int) (w : World) (h : SetAt w q g c v n b bits f cur) (hm : m < 340282366920938463463374607431768211456) (ho : overlapS v n b v m k = true) :
    Calls Tryz.prog 47 #[.pointer (some ⟨q, 0, none⟩), .agg #[.bool v, .int .u64 (hi m), .int .u64 (lo m), .int .i64 k]] w fun e w' =>
      e = .returned (.tuple #[.int .i64 (cnt (yesF f) (spanS v n b bits v m k).1 ((spanS v n b bits v m k).2.1 + 1 - (spanS v n b bits v m k).1) : Nat), .int .i64 0]) ∧
      SetAt w' q g c v n b bits (fun x => if (spanS v n b bits v m k).1 ≤ x ∧ x ≤ (spanS v n b bits v m k).2.1 then false else f x) cur ∧ w.grownBy w' (some c) := by
  have H := Lib.hid (fun w hh => kspan_c q g c v n b bits f cur v m k w hh hm)
  obtain ⟨s1, s2, s3, s4, _⟩ := span_between h.cuts ho
  have hB : (spanS v n b bits v m k).2.1 < nB b bits := (lenN_iff _ (bits - b).toNat).1 (by have := (cutsS_iff.1 h.cuts).2.1; omega)
  rw [s1] at H
  generalize (spanS v n b bits v m k).1 = A at *
  generalize (spanS v n b bits v m k).2.1 = B at *
  clear s1 s3 s4
  go_enter Tryz.func47, Tryz.ntmps47
  go_wp2_with fail
  refine (H.out _ (h.after bl_)).mono ?_
  rintro e w1 ⟨rfl, hb1⟩
  have hbel : Below w.heap.size w w1 := bl_trans bl_ hb1
  clear hb1
  obtain ⟨c0, c1, c2, c3, c4, c5, c6⟩ := set_cells (h.after hbel)
  go_wp2_with fail
  refine (clear_c g c (nB b bits) A B f w1 (h.after hbel).map s2 hB).mono ?_
  rintro e w2 ⟨rfl, hm2, hg2⟩
  go_wp2_with fail
  go_ret2
  exact ⟨rfl, (h.after hbel).put hm2 hg2, gb_trans (gb_below hbel) hg2⟩
end Go.Proofs.YtpfilldnfpcpkaaGreatDoor

namespace Go.Proofs.YtpfilldnfpcpkaaGreatDoor
open Go.RowKit

theorem MapAt.far2 {w : World} {g c n : Nat} {f : Nat → Bool} (h : MapAt w g c n f) {p : Addr} (h2 : g ≠ p.block) (h3 : c ≠ p.block) (u : Value) : MapAt (w.setCell p u) g c n f :=
  ⟨h.head.far h2 u, h.row.far h3 u, h.ne, h.small, h.top⟩
theorem SetAt.far {w : World} {q g c : Nat} {v : Bool} {n : Nat} {b bits : Int} {f : Nat → Bool} {cur : Nat} (h : SetAt w q g c v n b bits f cur) {p : Addr} (h1 : q ≠ p.block) (h2 : g ≠ p.block) (h3 : c ≠ p.block) (u : Value) : SetAt (w.setCell p u) q g c v n b bits f cur :=
  ⟨h.head.far h1 u, h.map.far2 h2 h3 u, h.cuts, h.few, h.at_⟩
theorem SetAt.move {w : World} {q g c : Nat} {v : Bool} {n : Nat} {b bits : Int} {f : Nat → Bool} {cur k : Nat} (h : SetAt w q g c v n b bits f cur) (hk : k < nB b bits) : SetAt (w.setCell ⟨q, 6, none⟩ (.int .i64 k)) q g c v n b bits f k :=
  ⟨h.head.put 6 _, h.map.far2 (h.head.ne h.map.head (by decide)).symm (h.head.ne h.map.row (by decide)).symm _, h.cuts, h.few, hk⟩
theorem fr2_new {a c : Nat} {u v : World} (h : Fr2 a c u v) {p : Addr} (hp : u.heap.size ≤ p.block) (x : Value) : Fr2 a c u (v.setCell p x) :=
  ⟨h.os, h.tape, h.output, by simp only [World.setCell]; simpa using h.size, fun i hi h1 h2 => (Below.heap_setCell _ _ _ _ (fun e => by rw [e] at hi; omega)).trans (h.block i hi h1 h2)⟩
theorem fr2_below {a c : Nat} {u v : World} (h : Below u.heap.size u v) : Fr2 a c u v := ⟨h.os, h.tape, h.output, h.size, fun i hi _ _ => h.block i hi⟩
theorem fr2_gb {a c : Nat} {u v : World} (h : u.grownBy v (some c)) : Fr2 a c u v := ⟨h.os, h.tape, h.output, h.size, fun i hi _ h2 => h.block i hi (fun e => h2 (by cases e; rfl))⟩
theorem bl_fr2 {a : World} {q c : Nat} {w w' : World} (h : Below a.heap.size a w) (k : Fr2 q c w w') (hq : a.heap.size ≤ q) (hc : a.heap.size ≤ c) : Below a.heap.size a w' :=
  ⟨k.os.trans h.os, k.tape.trans h.tape, k.output.trans h.output, Nat.le_trans h.size k.size, fun i hi => (k.block i (Nat.lt_of_lt_of_le hi h.size) (by omega) (by omega)).trans (h.block i hi)⟩
/-- what Next answers -/
def KNexted (q g c : Nat) (v : Bool) (n : Nat) (b bits : Int) (f : Nat → Bool) (cur : Nat) (w0 : World) (x : Ending) (w : World) : Prop :=
  (∃ j, IsNext f (nB b bits) cur j ∧ x = .returned (.tuple #[.agg #[.bool v, .int .u64 (hi (n + j * 2 ^ fr v bits)), .int .u64 (lo (n + j * 2 ^ fr v bits)), .int .i64 bits], .int .i64 0]) ∧ SetAt w q g c v n b bits (upd f j true) ((j + 1) % nB b bits) ∧ Fr2 q c w0 w) ∨
  ((∀ y, y < nB b bits → f y = true) ∧ x = .returned (.tuple #[.agg #[.bool false, .int .u64 0, .int .u64 0, .int .i64 0], .int .i64 9]) ∧ Below w0.heap.size w0 w)
set_option maxRecDepth 20000 in
set_option maxHeartbeats 1600000 in
theorem knext_c (q g c : Nat) (v : Bool) (n : Nat) (b bits : Int) (f : Nat → Bool) (cur : Nat) (w : World) (h : SetAt w q g c v n b bits f cur) (hT : Tab w) :
    Calls Tryz.prog 40 #[.pointer (some ⟨q, 0, none⟩)] w (KNexted q g c v n b bits f cur w) := by
  have hql := h.head.lt
  have hgl := h.map.head.lt
  have hcl := h.map.row.lt
  have hTl := hT.lt
  have hN := nB_le h.few
  have hN0 := nB_pos b bits
  have hcur := h.at_
  have HX := Lib.hid (fun w hh hh2 => next_c g c (nB b bits) f (cur : Int) w hh hh2)
  rw [show startAt (cur : Int) (nB b bits) = cur from by unfold startAt; rw [Int.toNat_natCast, Nat.mod_eq_of_lt hcur]] at HX
  go_enter Tryz.func40, Tryz.ntmps40
  go_wp2_with fail
  have hR : Blk (w.alloc (Obj.cells #[Value.bool false, Value.int IntKind.u64 0, Value.int IntKind.u64 0, Value.int IntKind.i64 0] 28)) w.heap.size 28 (PfxC false 0 0) := Blk.new _ _ _
  have hbel : Below w.heap.size w (w.alloc (Obj.cells #[Value.bool false, Value.int IntKind.u64 0, Value.int IntKind.u64 0, Value.int IntKind.i64 0] 28)) := bl_
  generalize w.alloc (Obj.cells #[Value.bool false, Value.int IntKind.u64 0, Value.int IntKind.u64 0, Value.int IntKind.i64 0] 28) = wz at *
  have hlt := hR.lt
  go_cut [4, 5] from 6 (fun s4 s5 wc => ∃ (j : Nat) (B : Bool), s4 = .int .i64 j ∧ s5 = .bool B ∧ (B = true → IsNext f (nB b bits) cur j) ∧ (B = false → ∀ y, y < nB b bits → f y = true) ∧ Blk wc w.heap.size 28 (PfxC false 0 0) ∧ Below w.heap.size w wc)
  case first =>
    go_region_held3 (fun w' => (w'.cell? ⟨q, 0, none⟩ = some (.bool v) ∧ w'.cell? ⟨q, 1, none⟩ = some (.int .u64 (hi n)) ∧ w'.cell? ⟨q, 2, none⟩ = some (.int .u64 (lo n)) ∧ w'.cell? ⟨q, 3, none⟩ = some (.int .i64 b) ∧ w'.cell? ⟨q, 4, none⟩ = some (.int .i64 bits) ∧ w'.cell? ⟨q, 5, none⟩ = some (.pointer (some ⟨g, 0, none⟩)) ∧ w'.cell? ⟨q, 6, none⟩ = some (.int .i64 cur)) ∧ Blk w' w.heap.size 28 (PfxC false 0 0) ∧ Below w.heap.size w w')
      (exact ⟨set_cells (h.after bl_), bk_, bl_⟩)
      (first
      | (go_at_call 89; refine (HX.out _ (h.after bl_).map (hT.after hTl bl_)).mono ?_; rintro e w3 ⟨j, B, rfl, hx1, hx2, hb3⟩))
    all_goals
      go_wp2_with fail
      go_meet
      case rel => exact ⟨j, B, rfl, rfl, hx1, fun q => (hx2 q).2, bk_, bl_⟩
  case rest =>
    obtain ⟨j, B, rfl, rfl, hx1, hx2, hR, hbel⟩ := hcut
    obtain ⟨r0, r1, r2, r3, _⟩ := blk_pfx hR
    have z0 := hR.frozen 0
    have z1 := hR.frozen 1
    have z2 := hR.frozen 2
    have z3 := hR.frozen 3
    cases B
    · have hall := Lib.hid (hx2 rfl)
      clear hx1 hx2
      go_wp2_with fail
      refine bodyPost_ret (v := .tuple #[.agg #[.bool false, .int .u64 0, .int .u64 0, .int .i64 0], .int .i64 9]) (by simp [results, Tryz.results40, go_sem, r0, r1, r2, r3, hi_zero, lo_zero]) rfl (Or.inr ⟨hall.out, rfl, bl_⟩)
    · have hn := Lib.hid (hx1 rfl)
      have hjN := hn.out.1
      have hjf := hn.out.2.1
      clear hx1 hx2 r0 r1 r2 r3 z0 z1 z2 z3
      obtain ⟨c0, c1, c2, c3, c4, c5, c6⟩ := set_cells (h.after hbel)
      have hqz : wc.frozen? ⟨q, 6, none⟩ = false := (h.after hbel).head.frozen 6
      have hw1 : wrap64 ((j : Int) + 1) = ((j + 1 : Nat) : Int) := by unfold wrap64; omega
      have hrem : Int.tmod ((j + 1 : Nat) : Int) ((nB b bits : Nat) : Int) = (((j + 1) % nB b bits : Nat) : Int) := by rw [Int.tmod_eq_emod_of_nonneg (by omega)]; omega
      have hne0 : (((nB b bits : Nat) : Int) == 0) = false := by simp; omega
      go_wp2_with fail
      refine (size_c g c _ f _ (h.after hbel).map).mono ?_
      rintro e w4 ⟨rfl, rfl⟩
      go_wp2_with fail
      rw [show ((j : Int) + 1) % ((nB b bits : Nat) : Int) = (((j + 1) % nB b bits : Nat) : Int) from by simp]
      have hqz : q ≠ w.heap.size := by omega
      have hgz : g ≠ w.heap.size := by omega
      have hcz : c ≠ w.heap.size := by omega
      have h5 := (h.after hbel).move (k := (j + 1) % nB b bits) (Nat.mod_lt _ hN0)
      have hR5 := hR.far (p := ⟨q, 6, none⟩) (by show w.heap.size ≠ q; omega) (.int .i64 (((j + 1) % nB b bits : Nat) : Int))
      have hF5 : Fr2 q c w (wc.setCell ⟨q, 6, none⟩ (.int .i64 (((j + 1) % nB b bits : Nat) : Int))) := (fr2_below hbel).set (p := ⟨q, 6, none⟩) (.inl rfl) _
      have HN := Lib.hid (Nat.mod_lt (j + 1) hN0)
      generalize (((j + 1) % nB b bits : Nat) : Int) = X at *
      generalize hk : (j + 1) % nB b bits = k at *
      clear hqz hw1 hrem hne0 c0 c1 c2 c3 c4 c5 c6
      generalize wc.setCell ⟨q, 6, none⟩ (.int .i64 X) = w5 at *
      obtain ⟨c0, c1, c2, c3, c4, c5, c6⟩ := set_cells h5
      have hqw : q ≠ w.heap.size := by omega
      have hws : w.heap.size ≤ w.heap.size := Nat.le_refl _
      go_region_held3 (fun w' => w'.cell? ⟨q, 5, none⟩ = some (.pointer (some ⟨g, 0, none⟩)))
        (first | with_reducible assumption | exact c5 | exact d5 | exact k5 | exact (((((hp7.head.far hqw _).far hqw _).far hqw _).far hqw _).cell 5).trans rfl)
        (first
        | (go_at_call 99; refine (kblock_c q g c v n b bits f k j _ (h5.after bl_) hjN).mono ?_; rintro e w6 ⟨rfl, hb6⟩; obtain ⟨hc6, hf6⟩ := bcell hb6; have hz6 := hb6.size; (try simp only [size_alloc', size_setCell', size_drew'] at hz6); have h6 := h5.after (show Below w5.heap.size w5 w6 from bl_); obtain ⟨d0, d1, d2, d3, d4, d5, d6⟩ := set_cells h6; have hR6 : Blk w6 w.heap.size 28 (PfxC false 0 0) := hR5.after (show Below w5.heap.size w5 w6 from bl_); have hF6 : Fr2 q c w w6 := hF5.trans (fr2_below (show Below w5.heap.size w5 w6 from bl_)))
        | (go_at_call 70; refine (bput_c g c _ f j w6 h6.map hjN hjf).mono ?_; rintro e w7 ⟨rfl, hm, hg⟩; have hp7 := h6.put hm hg; have hF7 : Fr2 q c w w7 := hF6.trans (fr2_gb hg); have hR7 := hR6.grown hg (some_ne (fun e => hcz e.symm)); obtain ⟨r0, r1, r2, r3, _⟩ := blk_pfx hR7; have z0 := hR7.frozen 0; have z1 := hR7.frozen 1; have z2 := hR7.frozen 2; have z3 := hR7.frozen 3; have k5 := (set_cells hp7).2.2.2.2.2.1))
      all_goals
        go_wp2_with fail
        have hRf := blk_fill4 (x := .bool v) (y := .int .u64 (hi (n + j * 2 ^ fr v bits))) (k := .int .u64 (lo (n + j * 2 ^ fr v bits))) (m := .int .i64 bits) hR7
        have hPf := (((hp7.far (p := ⟨w.heap.size, 0, none⟩) hqw hgz hcz (.bool v)).far (p := ⟨w.heap.size, 1, none⟩) hqw hgz hcz (.int .u64 (hi (n + j * 2 ^ fr v bits)))).far (p := ⟨w.heap.size, 2, none⟩) hqw hgz hcz (.int .u64 (lo (n + j * 2 ^ fr v bits)))).far (p := ⟨w.heap.size, 3, none⟩) hqw hgz hcz (.int .i64 bits)
        have hGf := fr2_new (fr2_new (fr2_new (fr2_new hF7 (p := ⟨w.heap.size, 0, none⟩) (Nat.le_refl _) (.bool v)) (p := ⟨w.heap.size, 1, none⟩) (Nat.le_refl _) (.int .u64 (hi (n + j * 2 ^ fr v bits)))) (p := ⟨w.heap.size, 2, none⟩) (Nat.le_refl _) (.int .u64 (lo (n + j * 2 ^ fr v bits)))) (p := ⟨w.heap.size, 3, none⟩) (Nat.le_refl _) (.int .i64 bits)
        generalize (((w7.setCell ⟨w.heap.size, 0, none⟩ (.bool v)).setCell ⟨w.heap.size, 1, none⟩ (.int .u64 (hi (n + j * 2 ^ fr v bits)))).setCell ⟨w.heap.size, 2, none⟩ (.int .u64 (lo (n + j * 2 ^ fr v bits)))).setCell ⟨w.heap.size, 3, none⟩ (.int .i64 bits) = wf at *
        obtain ⟨s0, s1, s2, s3, _⟩ := blk_pfx (show Blk wf w.heap.size 28 (PfxC v (n + j * 2 ^ fr v bits) bits) from hRf)
        refine bodyPost_ret (v := .tuple #[.agg #[.bool v, .int .u64 (hi (n + j * 2 ^ fr v bits)), .int .u64 (lo (n + j * 2 ^ fr v bits)), .int .i64 bits], .int .i64 0]) (by simp [results, Tryz.results40, go_sem, s0, s1, s2, s3]) rfl (Or.inl ⟨j, hn.out, rfl, by rw [hk]; exact hPf, hGf⟩)
end Go.Proofs.YtpfilldnfpcpkaaGreatDoor

namespace Go.Proofs.YtpfilldnfpcpkaaGreatDoor
open Go.RowKit Go.Proofs.YtpfilldnfpcpkaaGreatDoorW.PrintWords Go.Proofs.YtpfilldnfpcpkaaGreatDoor.PPo

theorem kspan_wrong {v : Bool} {n : Nat} {b bits : Int} {u : Bool} {m : Nat} {k : Int} (h : rightP u m k = false) : (spanS v n b bits u m k).2.2 = 1 := by
  unfold spanS; rw [if_neg (by rw [h]; simp)]
theorem kspan_off {v : Bool} {n : Nat} {b bits : Int} {u : Bool} {m : Nat} {k : Int} (hc : cutsS v n b bits = true) (h : rightP u m k = true) (ho : overlapS v n b u m k = false) : (spanS v n b bits u m k).2.2 = 12 := by
  unfold spanS; rw [if_pos ⟨hc, h⟩, if_neg (by rw [ho]; decide)]
/-- the span of a prefix in a set: first, last -/
structure InSet (v : Bool) (n : Nat) (b bits : Int) (m : Nat) (k : Int) (A B : Nat) : Prop where
  le : A ≤ B
  lt : B < nB b bits
  eA : (spanS v n b bits v m k).1 = A
  eB : (spanS v n b bits v m k).2.1 = B
  over : ∀ i, i < nB b bits → overlapS v (n + i * 2 ^ fr v bits) bits v m k = (decide (A ≤ i) && decide (i ≤ B))
theorem inSet_of {v : Bool} {n : Nat} {b bits : Int} {m : Nat} {k : Int} (hc : cutsS v n b bits = true) (ho : overlapS v n b v m k = true) : ∃ A B, InSet v n b bits m k A B := by
  obtain ⟨s1, s2, s3, s4, s5⟩ := span_between hc ho
  have hbb := (cutsS_iff.1 hc).2.1
  refine ⟨_, _, s2, (lenN_iff _ (bits - b).toNat).1 (by omega), rfl, rfl, fun i hi => s5 i ?_⟩
  have := (lenN_iff i (bits - b).toNat).2 hi
  omega
theorem kblock_in {v : Bool} {n : Nat} {b bits : Int} {i : Nat} (hc : cutsS v n b bits = true) (hi : i < nB b bits) :
    rightP v (n + i * 2 ^ fr v bits) bits = true ∧ withinS v (n + i * 2 ^ fr v bits) bits v n b = true := by
  have hbb := (cutsS_iff.1 hc).2.1
  have hl : (lenN i : Int) ≤ bits - b := by
    have := (lenN_iff i (bits - b).toNat).2 hi
    omega
  obtain ⟨_, a2, a3, a4⟩ := block_at hc hl
  exact ⟨a2, within_mk a2 (cutsS_iff.1 hc).1 hbb a4⟩
theorem blk_fr2 {w w' : World} {x q c : Nat} {t : TypeId} {cs : Array Value} (h : Blk w x t cs) (hF : Fr2 q c w w') (h1 : x ≠ q) (h2 : x ≠ c) : Blk w' x t cs := h.same (hF.block x h.lt h1 h2)
end Go.Proofs.YtpfilldnfpcpkaaGreatDoor

namespace Go.Proofs.YtpfilldnfpcpkaaGreatDoor
open Go.RowKit Go.Proofs.YtpfilldnfpcpkaaGreatDoorW.PrintWords Go.Proofs.YtpfilldnfpcpkaaGreatDoor.PPo

theorem pfx_info : (Tryz.prog.info? 28).map (fun i => (i.zero, i.size, i.bytes)) = some (some (.agg #[.bool false, .int .u64 0, .int .u64 0, .int .i64 0]), 4, 32) := by kernel_rfl
/-- the cells of a row of blocks, by their numbers -/
def blkV (v : Bool) (n : Nat) (bits : Int) (js : List Nat) : List Value := js.flatMap fun j => [.bool v, .int .u64 (hi (n + j * 2 ^ fr v bits)), .int .u64 (lo (n + j * 2 ^ fr v bits)), .int .i64 bits]
theorem blkV_snoc (v : Bool) (n : Nat) (bits : Int) (js : List Nat) (j : Nat) : blkV v n bits (js ++ [j]) = blkV v n bits js ++ [.bool v, .int .u64 (hi (n + j * 2 ^ fr v bits)), .int .u64 (lo (n + j * 2 ^ fr v bits)), .int .i64 bits] := by simp [blkV]
theorem blkV_get (v : Bool) (n : Nat) (bits : Int) : ∀ (js : List Nat) (i : Nat) (hi' : i < js.length),
    (blkV v n bits js)[i * 4]? = some (.bool v) ∧ (blkV v n bits js)[i * 4 + 1]? = some (.int .u64 (hi (n + js[i] * 2 ^ fr v bits))) ∧ (blkV v n bits js)[i * 4 + 2]? = some (.int .u64 (lo (n + js[i] * 2 ^ fr v bits))) ∧ (blkV v n bits js)[i * 4 + 3]? = some (.int .i64 bits)
  | [], i, h => absurd h (Nat.not_lt_zero _)
  | j :: js, 0, _ => ⟨rfl, rfl, rfl, rfl⟩
  | j :: js, i + 1, h => by
    have := blkV_get v n bits js i (by simpa using h)
    have e : ∀ k, (blkV v n bits (j :: js))[(i + 1) * 4 + k]? = (blkV v n bits js)[i * 4 + k]? := fun k => by
      rw [show (i + 1) * 4 + k = (i * 4 + k) + 4 from by omega]
      simp [blkV, List.flatMap_cons]
    refine ⟨(e 0).trans this.1, (e 1).trans this.2.1, (e 2).trans this.2.2.1, (e 3).trans this.2.2.2⟩
theorem own_afterS {w w' : World} {base n size : Nat} {e : TypeId} {v : Value} {xs : List Value} (h : w.ownsRow base e size v n xs) (hb : Below w.heap.size w w') : w'.ownsRow base e size v n xs :=
  h.kept (row := none) ⟨hb.os, hb.tape, hb.output, hb.size, fun k hk _ => hb.block k hk⟩ (by rcases v.ownBlock with _ | g <;> simp)
theorem below_ownS {a wr w' : World} {v : Value} {base n size : Nat} {e : TypeId} {xs : List Value} (h : Below a.heap.size a wr) (hown : wr.ownsRow base e size v n xs) (hb : a.heap.size ≤ base) {o : Obj} (hg : (wr.alloc o).grownBy w' v.ownBlock) : Below a.heap.size a w' :=
  (bl_alloc h o).grown hg (by have := h.size; simp; omega) fun k hk => Nat.le_trans hb ((hown.lt k hk).1)
theorem own_sliceS {w : World} {base n size : Nat} {e : TypeId} {v : Value} {xs : List Value} (h : w.ownsRow base e size v n xs) : ∃ a c, v = .slice a n c := by
  rcases h.2 with ⟨rfl, h0⟩ | ⟨g, cap, cur, hv, _⟩
  · subst h0; exact ⟨_, _, rfl⟩
  · exact ⟨_, _, hv⟩
theorem cell_listS (w : World) (l : List Value) (t : TypeId) : ∀ j x, l[j]? = some x → (w.alloc (.cells l.toArray t)).cell? ((⟨w.heap.size, 0, none⟩ : Addr).add j) = some x := by
  intro j x h
  have e : (⟨w.heap.size, 0, none⟩ : Addr).add j = ⟨w.heap.size, j, none⟩ := by unfold Addr.add; split <;> simp_all
  rw [e, (Blk.new w t l.toArray).cell j]; simpa using h
/-- which of the first numbers are used -/
def usedTo (f : Nat → Bool) (z : Nat) : List Nat := (List.range z).filter f
theorem usedTo_yes {f : Nat → Bool} {z : Nat} (h : f z = true) : usedTo f (z + 1) = usedTo f z ++ [z] := by simp [usedTo, List.range_succ, List.filter_append, h]
theorem usedTo_no {f : Nat → Bool} {z : Nat} (h : f z = false) : usedTo f (z + 1) = usedTo f z := by simp [usedTo, List.range_succ, List.filter_append, h]
theorem usedTo_len (f : Nat → Bool) (z : Nat) : (usedTo f z).length ≤ z := by
  have := List.length_filter_le f (List.range z); simpa [usedTo] using this
set_option maxRecDepth 20000 in
set_option maxHeartbeats 3200000 in
theorem kused_c (q g c : Nat) (v : Bool) (n : Nat) (b bits : Int) (f : Nat → Bool) (cur : Nat) (w : World) (h : SetAt w q g c v n b bits f cur) :
    Calls Tryz.prog 43 #[.pointer (some ⟨q, 0, none⟩)] w fun e w' => ∃ p cap, e = .returned (.slice p (usedTo f (nB b bits)).length cap) ∧
      w'.ownsRow w.heap.size 28 4 (.slice p (usedTo f (nB b bits)).length cap) (usedTo f (nB b bits)).length (blkV v n bits (usedTo f (nB b bits))) ∧ Below w.heap.size w w' := by
  have hN := nB_le h.few
  obtain ⟨c0, c1, c2, c3, c4, c5, c6⟩ := set_cells h
  obtain ⟨i0, hi0, hz0, hz1, hz2⟩ := info_parts pfx_info
  go_enter Tryz.func43, Tryz.ntmps43
  go_wp2_with fail
  refine (size_c g c _ f _ h.map).mono ?_
  rintro e w1 ⟨rfl, rfl⟩
  go_wp2_with fail
  clear c0 c1 c2 c3 c4 c5 c6
  go_loopw [3, 12] (fun s i wr => ∃ (z : Nat) (p : Option Addr) (cap : Nat), z ≤ nB b bits ∧ i = .int .i64 z ∧ s = .slice p (usedTo f z).length cap ∧ wr.ownsRow w.heap.size 28 4 (.slice p (usedTo f z).length cap) (usedTo f z).length (blkV v n bits (usedTo f z)) ∧ Below w.heap.size w wr) (fun _ i _ => nB b bits - (intOf i).toNat)
  case atStart => exact ⟨0, none, 0, Nat.zero_le _, rfl, rfl, World.ownsRow_nil _ _ _ _, bl_⟩
  case round =>
    obtain ⟨z, p, cap, hz, rfl, rfl, hown, hb⟩ := hrel
    obtain ⟨c0, c1, c2, c3, c4, c5, c6⟩ := set_cells (h.after hb)
    have hlen := usedTo_len f z
    by_cases hlt : z < nB b bits
    · have d1 : decide (z < nB b bits) = true := decide_eq_true hlt
      have d2 : decide ((z : Int) < (nB b bits : Nat)) = true := decide_eq_true (by omega)
      go_wp2_with fail
      refine (has_yes g c _ f z _ (h.after hb).map hlt).mono ?_
      rintro e w3 ⟨rfl, rfl⟩
      cases hf : f z
      · have HU := Lib.hid (usedTo_no hf)
        go_wp2_with fail
        go_roundw
        case rel => exact ⟨z + 1, p, cap, by omega, by go_num, by rw [HU.out], by rw [HU.out]; exact own_afterS hown (bl_drew (Below.refl _ _)), bl_drew hb⟩
        case measure => simp [intOf]; omega
      · have HU := Lib.hid (usedTo_yes hf)
        go_wp2_with fail
        refine (kblock_c q g c v n b bits f cur z _ (h.after bl_) hlt).mono ?_
        rintro e w4 ⟨rfl, hb4⟩
        have hown4 := own_afterS (own_afterS hown (bl_drew (Below.refl _ _))) hb4
        replace hb : Below w.heap.size w w4 := bl_trans bl_ hb4
        clear hb4 c0 c1 c2 c3 c4 c5 c6
        go_wp2_with (at_builtin; refine wpList_append_own _ rfl _ _ 63 rfl w.heap.size 28 i0 (.agg #[.bool false, .int .u64 0, .int .u64 0, .int .i64 0]) 4 32 Tryz.underlying63 hi0 hz0 hz1 hz2 rfl (by decide) _ _ _ rfl (hown4.alloc _) ⟨w4.heap.size, 0, none⟩ 1 1 [.bool v, .int .u64 (hi (n + z * 2 ^ fr v bits)), .int .u64 (lo (n + z * 2 ^ fr v bits)), .int .i64 bits] rfl rfl ?q1 ?q2 ?q3 ?q4 ?q5 ?_)
        case q1 => exact cell_listS _ _ _
        case q2 => intro u hu; simp at hu; rcases hu with rfl | rfl | rfl | rfl <;> rfl
        case q3 => simp only [maxLen]; omega
        case q4 => omega
        case q5 => have := hb.size; simp; omega
        intro v' w5 hown' hgrow _
        have hbel5 := below_ownS hb hown4 (Nat.le_refl _) hgrow
        obtain ⟨ga, gc, rfl⟩ := own_sliceS hown'
        clear hgrow hown4 hown hb
        go_wp2_with fail
        go_roundw
        case rel => exact ⟨z + 1, ga, gc, by omega, by go_num, by rw [HU.out]; simp, by rw [HU.out, blkV_snoc, List.length_append]; exact hown', hbel5⟩
        case measure => simp [intOf]; omega
    · have d1 : decide (z < nB b bits) = false := decide_eq_false hlt
      have d2 : decide ((z : Int) < (nB b bits : Nat)) = false := decide_eq_false (by omega)
      obtain rfl : z = nB b bits := by omega
      go_wp2_with fail
      go_ret
      exact ⟨p, cap, rfl, hown, hb⟩
end Go.Proofs.YtpfilldnfpcpkaaGreatDoor

