/-
BlocksApart: what Next gives, behind whatever was occupied, lies within the prefix, overlaps neither one another nor what is occupied, and when there is no more all is used: for every prefix, every number and every row of prefixes the call returns true. No condition; the listed variables are tied to the program's text.
-/
import Derived.Laws.AppendOwn
import Derived.OrdersHeld
import Derived.Laws.BitsLemmas
import Derived.Laws.BitsAllLaws
import Derived.Lib.TrailingZeros
import Derived.Deep.RegionWith
import Derived.StillTailTactics
import Derived.ProofKit
import Derived.ChangeSame
import Derived.Carry
import Derived.Deep.Slices
import Derived.Deep.Fields
import Derived.LaidMore
import Derived.Lay
import Derived.MakeChecks
import Derived.LaidByTextLater
import Derived.OpenShut
import Derived.Stop.Joined
import Derived.Stop.LaidErr
import Derived.Lib.LaidTab
import Derived.Handed
import Derived.Shelf.Vars
import Derived.SevenTiedAt
import Derived.ShutString
import Derived.Test.YtpfilldnfpcpkaaGreatDoorBapM0
import Derived.Test.YtpfilldnfpcpkaaGreatDoorRows
import Derived.Test.YtpfilldnfpcpkaaGreatDoorCards
import Derived.Test.YtpfilldnfpcpkaaGreatDoorTie
set_option linter.unusedVariables false
set_option linter.unusedSimpArgs false
namespace Go.Proofs.YtpfilldnfpcpkaaGreatDoor
open Go.RowKit

theorem Blk.ne_own {w : World} {g base n size : Nat} {t e : TypeId} {cs : Array Value} {v : Value} {xs : List Value} (h : Blk w g t cs) (ho : w.ownsRow base e size v n xs) (hte : t ≠ e) : some g ≠ v.ownBlock := by
  rcases ho.2 with ⟨rfl, _⟩ | ⟨g', cap, cur, rfl, _, hh, _⟩
  · simp [Value.ownBlock]
  · intro q
    have e1 : g = g' := by simpa [Value.ownBlock] using q
    subst e1
    unfold Blk at h
    rw [h] at hh
    injection hh with hh
    injection hh with _ ht
    exact hte ht
end Go.Proofs.YtpfilldnfpcpkaaGreatDoor

namespace Go.Proofs.YtpfilldnfpcpkaaGreatDoor
open Go.RowKit
end Go.Proofs.YtpfilldnfpcpkaaGreatDoor
namespace Go.Proofs.YtpfilldnfpcpkaaGreatDoor

theorem topN_add (f n : Nat) : topN f n + n % 2 ^ f = n := by unfold topN; rw [Nat.mul_comm]; exact Nat.div_add_mod n (2 ^ f)
theorem topN_eq {f n : Nat} : topN f n = n ↔ n % 2 ^ f = 0 := by have := topN_add f n; omega
end Go.Proofs.YtpfilldnfpcpkaaGreatDoor

namespace Go.Proofs.YtpfilldnfpcpkaaGreatDoor
open Go.RowKit Go.Proofs.YtpfilldnfpcpkaaGreatDoorW.PrintWords Go.Proofs.YtpfilldnfpcpkaaGreatDoorW.PrintLast

/-- a block that is known, behind steps that leave it -/
theorem pk_ {w W : World} {g : Nat} {o : Obj} (h : Aside0 (w.heap[g]? = some o)) (k : w.heap[g]? = some o → W.heap[g]? = some o := by intro h_; (with_reducible repeat (first | refine blk_drewN ?_ _ | refine blk_drew ?_ | refine blk_alloc ?_ _)); exact h_) : W.heap[g]? = some o := k h.out
section
variable {P : Program} {ops : Array Oper} {Q : Exit → Act → World → Prop} {md : Region.Mode} {S : World → Prop} {ds : List Nat}
end
end Go.Proofs.YtpfilldnfpcpkaaGreatDoor

namespace Go.Proofs.YtpfilldnfpcpkaaGreatDoor.PPo
open Go.RowKit Go.Proofs.YtpfilldnfpcpkaaGreatDoorW.PrintWords Go.Proofs.YtpfilldnfpcpkaaGreatDoorW.PrintLast Go.Proofs.YtpfilldnfpcpkaaGreatDoorW.PrintMore
attribute [local go_sem] max2_int min2_int max_two min_two max_three min_three max_four min_four   -- for this text's walks alone



theorem info3 : (Tryz.prog.info? 3).map (fun i => (i.zero, i.size, i.bytes)) = some (some (.int .i64 0), 1, 8) := by kernel_rfl
end Go.Proofs.YtpfilldnfpcpkaaGreatDoor.PPo

namespace Go.Proofs.YtpfilldnfpcpkaaGreatDoor.PPo
open Go.RowKit Go.Proofs.YtpfilldnfpcpkaaGreatDoorW.PrintWords Go.Proofs.YtpfilldnfpcpkaaGreatDoorW.PrintLast Go.Proofs.YtpfilldnfpcpkaaGreatDoorW.PrintMore
attribute [local go_sem] max2_int min2_int max_two min_two max_three min_three max_four min_four   -- for this text's walks alone

mutual
def platbookref01_Bits.l0 : Nat → List Int → Int → Int → Int → Option (List Int)
 | 0, _, _, _, _ => none
 | k + 1, x3, x4, x5, x6 => if x6 < 64 then (if x3.length < 17592186044416 then (platbookref01_Bits.l0 k (x3 ++ [wrap64 (Int.tmod x4 2)]) (IntKind.u64.wrap (Int.tdiv x4 2)) x5 (wrap64 (x6 + 1))) else (none)) else (platbookref01_Bits.l1 k x3 x5 0)
def platbookref01_Bits.l1 : Nat → List Int → Int → Int → Option (List Int)
 | 0, _, _, _ => none
 | k + 1, x3, x5, x7 => if x7 < 64 then (if x3.length < 17592186044416 then (platbookref01_Bits.l1 k (x3 ++ [wrap64 (Int.tmod x5 2)]) (IntKind.u64.wrap (Int.tdiv x5 2)) (wrap64 (x7 + 1))) else (none)) else (some x3)
end
def platbookref01_Bits.f (k : Nat) (a0_0 : Int) (a0_1 : Int) : Option (List Int) := platbookref01_Bits.l0 k (([] : List Int)) a0_1 a0_0 0
set_option maxHeartbeats 8000000 in
set_option maxRecDepth 100000 in
theorem platbookref01_Bits.calls (k : Nat) (a0_0 : Int) (a0_1 : Int) (r : List Int) (w : World) (h : platbookref01_Bits.f k a0_0 a0_1 = some r) :
  Calls Tryz.prog 145 #[.agg #[.int .u64 a0_0, .int .u64 a0_1]] w fun e w' => ∃ v0_ : Value, e = .returned (v0_) ∧ Kd.R (Kd.int .i64) 3 w' w.heap.size (fun _ => True) v0_ r ∧ Below w.heap.size w w' := by
 have hu24 := Tryz.underlying24
 have HB := Aside0.mk (Below.refl w.heap.size w)
 have H : (platbookref01_Bits.l0 k (([] : List Int)) a0_1 a0_0 0) = some r := h
 clear h
 obtain ⟨y242, hy242⟩ : ∃ y_ : List Int, y_ = (([] : List Int)) := ⟨_, rfl⟩
 replace H : (platbookref01_Bits.l0 k y242 a0_1 a0_0 0) = some r := by first | (rw [hy242]; with_reducible exact H) | (have H2_ := (Option.bind_some _ _).symm.trans H; rw [hy242]; with_reducible exact H2_) | (have H2_ := (Option.bind_some _ _).symm.trans H; with_reducible exact H2_) | with_reducible exact H | (rw [hy242]; exact H) | exact H
 have Ny242 := Aside0.mk hy242
 clear hy242
 have H' := Aside0.mk H
 clear H
 go_enter Tryz.func145, Tryz.ntmps145
 go_wp2_with (first | ((with_reducible refine gate_dst (N := 1) rfl ?_); refine bx_ 1 #[.int .u64 a0_0, .int .u64 a0_1] 24 ?_; intro gb241 hg w2 hbox hb; have BK241 := Aside0.mk (hbox); have GW241 := gw_ HB hg; have GE241 := gw_ HB hg; replace HB := bs_ HB hb; clear hb hbox hg) | ((with_reducible refine gate_dst (N := 8) rfl ?_); refine Kd.R_lit (Kd.int .i64) _ 3 ?hg (N := 8) ?hd (xs := ([] : List Int)) (inner := []) (ok := fun _ => True) (okp := fun _ => True) ?hr ?hp (fun _ hk => hk) trivial (Below.refl _ _) (Nat.le_refl _) (by simp) ?_; (case hd => rfl); (case hg => rfl); (case hr => first | (go_simp; done) | (go_simp; rfl)); (case hp => exact (Reps.none _ _)); intro v243 w3 ho4 hb hg_ hnew_; clear hg_ hnew_; (first | rw [← Ny242.out] at ho4 | (simp only [Int.reduceToNat] at ho4; rw [← Ny242.out] at ho4)); have HO244 := Aside0.mk (Kd.R_lower ho4 (below_size (pb_ HB))); replace BK241 := bb_ BK241 hb; replace HB := bs_ HB hb; clear hb ho4; obtain ⟨hcz5_0, hcz5_1, hfz5_0, hfz5_1⟩ := c2_ BK241))
 go_loopg [3, 4, 6] k (fun kq v3 v4 v6 w' => ∃ (x3_1 : List Int) (x4_1 : Int) (x6_1 : Int), v4 = .int .u64 x4_1 ∧ v6 = .int .i64 x6_1 ∧ Aside0 (platbookref01_Bits.l0 kq x3_1 x4_1 a0_0 x6_1 = some r) ∧ Aside0 (kq ≤ k) ∧ Aside0 (Kd.R (Kd.int .i64) 3 w' w.heap.size (fun _ => True) v3 x3_1) ∧ Aside0 (w'.heap[gb241]? = some (.cells #[.int .u64 a0_0, .int .u64 a0_1] 24 (0, 0))) ∧ Aside0 (Below w.heap.size w w'))
 case atStart => exact ⟨(y242), (a0_1), (0), (by first | rfl | (simp; done) | (simp [*]; done)), (by first | rfl | (simp; done) | (simp [*]; done)), H', ⟨Nat.le_refl _⟩, ⟨by (with_reducible repeat (first | apply Kd.R_alloc | apply Kd.R_drewN | apply Kd.R_drew)); exact HO244.out⟩, ⟨by refine pw_ ?_; exact BK241.out⟩, ⟨pb_ HB⟩⟩
 case round =>
  clear H'
  try clear c1
  try clear p2
  try clear hcz5_0
  try clear hcz5_1
  try clear hfz5_0
  try clear hfz5_1
  obtain ⟨x3_1, x4_1, x6_1, rfl, rfl, HA, HK1, HO_3, BK241, HB⟩ := hrel
  cases gk with
  | zero => exact absurd HA.out (by simp [platbookref01_Bits.l0])
  | succ k1 =>
   have H := HA.out
   clear HA
   simp only [platbookref01_Bits.l0] at H
   by_cases c6 : x6_1 < 64
   ·
    rw [if_pos c6] at H
    have c6b0 : decide (x6_1 < 64) = true := decide_eq_true c6
    clear c6
    by_cases c7 : x3_1.length < 17592186044416
    ·
     rw [if_pos c7] at H
     have LMc7 := Aside0.mk c7
     clear c7
     obtain ⟨y245, hy245⟩ : ∃ y_ : List Int, y_ = (x3_1 ++ [wrap64 (Int.tmod x4_1 2)]) := ⟨_, rfl⟩
     replace H : (platbookref01_Bits.l0 k1 y245 (IntKind.u64.wrap (Int.tdiv x4_1 2)) a0_0 (wrap64 (x6_1 + 1))) = some r := by first | (rw [hy245]; with_reducible exact H) | (have H2_ := (Option.bind_some _ _).symm.trans H; rw [hy245]; with_reducible exact H2_) | (have H2_ := (Option.bind_some _ _).symm.trans H; with_reducible exact H2_) | with_reducible exact H | (rw [hy245]; exact H) | exact H
     have Ny245 := Aside0.mk hy245
     clear hy245
     have H' := Aside0.mk H
     clear H
     go_wp2_with (first | ((with_reducible refine gate_builtin (b := .append) (xs := #[.tmp 17, .tmp 21]) rfl ?_); at_builtin; refine Kd.R_append (Kd.int .i64) (w0 := w) w.heap.size rfl (.tmp 17) (.tmp 21) 52 3 (.int .i64 0) 8 rfl Tryz.underlying52 info3 rfl (by decide) (by omega) u3 x3_1 (wrap64 (Int.tmod x4_1 2)) [.int .i64 (wrap64 (Int.tmod x4_1 2))] (fun _ => True) (fun _ => False) rfl rfl ?aP (fun _ hk => hk.elim) ?aF ?aO ?aB ?aS ?aL ?_; (case aP => exact rfl); (case aB => exact (pb_ HB)); (case aF => exact (fun _ _ => trivial)); (case aO => exact (by (with_reducible repeat (first | apply Kd.R_alloc | apply Kd.R_drewN | apply Kd.R_drew)); exact HO_3.out)); (case aS => exact (below_size (pb_ HB))); (case aL => have := LMc7.out; omega); intro v246 w8 ho hb hg hat; rw [← Ny245.out] at ho; have HO247 := Aside0.mk (ho); replace BK241 := Aside0.mk (blk_grown (g := gb241) (o := .cells #[.int .u64 a0_0, .int .u64 a0_1] 24 (0, 0)) (pk_ BK241) hg (Kd.R_ne HO_3.out BK241.out (by decide))); replace HB := Aside0.mk (hb); clear HO_3; clear ho hb hg hat))
     go_roundg k1
     case measure => have := HK1.out; omega
     case rel => exact ⟨(y245), (IntKind.u64.wrap (Int.tdiv x4_1 2)), (wrap64 (x6_1 + 1)), (by first | rfl | (simp; done) | (simp [*]; done)), (by first | rfl | (simp; done) | (simp [*]; done)), H', ⟨by have := HK1.out; omega⟩, ⟨by (with_reducible repeat (first | apply Kd.R_alloc | apply Kd.R_drewN | apply Kd.R_drew)); exact HO247.out⟩, ⟨by refine pw_ ?_; exact BK241.out⟩, ⟨pb_ HB⟩⟩
    ·
     rw [if_neg c7] at H
     exact absurd H (by simp)
   ·
    rw [if_neg c6] at H
    have c6b0 : decide (x6_1 < 64) = false := decide_eq_false c6
    clear c6
    have H' := Aside0.mk H
    clear H
    go_wp2
    go_loopg [3, 5, 7] k1 (fun kq v3 v5 v7 w' => ∃ (x3_2 : List Int) (x5_2 : Int) (x7_2 : Int), v5 = .int .u64 x5_2 ∧ v7 = .int .i64 x7_2 ∧ Aside0 (platbookref01_Bits.l1 kq x3_2 x5_2 x7_2 = some r) ∧ Aside0 (kq ≤ k1) ∧ Aside0 (Kd.R (Kd.int .i64) 3 w' w.heap.size (fun _ => True) v3 x3_2) ∧ Aside0 (w'.heap[gb241]? = some (.cells #[.int .u64 a0_0, .int .u64 a0_1] 24 (0, 0))) ∧ Aside0 (Below w.heap.size w w'))
    case atStart => exact ⟨(x3_1), (a0_0), (0), (by first | rfl | (simp; done) | (simp [*]; done)), (by first | rfl | (simp; done) | (simp [*]; done)), H', ⟨Nat.le_refl _⟩, ⟨by (with_reducible repeat (first | apply Kd.R_alloc | apply Kd.R_drewN | apply Kd.R_drew)); exact HO_3.out⟩, ⟨by refine pw_ ?_; exact BK241.out⟩, ⟨pb_ HB⟩⟩
    case round =>
     clear H'
     try clear c1
     try clear p2
     try clear c6
     try clear c6b0
     try clear p6
     try clear c7
     try clear hcz5_0
     try clear hcz5_1
     try clear hfz5_0
     try clear hfz5_1
     try clear p2
     obtain ⟨x3_2, x5_2, x7_2, rfl, rfl, HA, HK2, HO_3, BK241, HB⟩ := hrel
     cases gk with
     | zero => exact absurd HA.out (by simp [platbookref01_Bits.l1])
     | succ k2 =>
      have H := HA.out
      clear HA
      simp only [platbookref01_Bits.l1] at H
      by_cases c9 : x7_2 < 64
      ·
       rw [if_pos c9] at H
       have c9b0 : decide (x7_2 < 64) = true := decide_eq_true c9
       clear c9
       by_cases c10 : x3_2.length < 17592186044416
       ·
        rw [if_pos c10] at H
        have LMc10 := Aside0.mk c10
        clear c10
        obtain ⟨y248, hy248⟩ : ∃ y_ : List Int, y_ = (x3_2 ++ [wrap64 (Int.tmod x5_2 2)]) := ⟨_, rfl⟩
        replace H : (platbookref01_Bits.l1 k2 y248 (IntKind.u64.wrap (Int.tdiv x5_2 2)) (wrap64 (x7_2 + 1))) = some r := by first | (rw [hy248]; with_reducible exact H) | (have H2_ := (Option.bind_some _ _).symm.trans H; rw [hy248]; with_reducible exact H2_) | (have H2_ := (Option.bind_some _ _).symm.trans H; with_reducible exact H2_) | with_reducible exact H | (rw [hy248]; exact H) | exact H
        have Ny248 := Aside0.mk hy248
        clear hy248
        have H' := Aside0.mk H
        clear H
        go_wp2_with (first | ((with_reducible refine gate_builtin (b := .append) (xs := #[.tmp 29, .tmp 33]) rfl ?_); at_builtin; refine Kd.R_append (Kd.int .i64) (w0 := w) w.heap.size rfl (.tmp 29) (.tmp 33) 52 3 (.int .i64 0) 8 rfl Tryz.underlying52 info3 rfl (by decide) (by omega) u3 x3_2 (wrap64 (Int.tmod x5_2 2)) [.int .i64 (wrap64 (Int.tmod x5_2 2))] (fun _ => True) (fun _ => False) rfl rfl ?aP (fun _ hk => hk.elim) ?aF ?aO ?aB ?aS ?aL ?_; (case aP => exact rfl); (case aB => exact (pb_ HB)); (case aF => exact (fun _ _ => trivial)); (case aO => exact (by (with_reducible repeat (first | apply Kd.R_alloc | apply Kd.R_drewN | apply Kd.R_drew)); exact HO_3.out)); (case aS => exact (below_size (pb_ HB))); (case aL => have := LMc10.out; omega); intro v249 w11 ho hb hg hat; rw [← Ny248.out] at ho; have HO250 := Aside0.mk (ho); replace BK241 := Aside0.mk (blk_grown (g := gb241) (o := .cells #[.int .u64 a0_0, .int .u64 a0_1] 24 (0, 0)) (pk_ BK241) hg (Kd.R_ne HO_3.out BK241.out (by decide))); replace HB := Aside0.mk (hb); clear HO_3; clear ho hb hg hat))
        go_roundg k2
        case measure => have := HK1.out; have := HK2.out; omega
        case rel => exact ⟨(y248), (IntKind.u64.wrap (Int.tdiv x5_2 2)), (wrap64 (x7_2 + 1)), (by first | rfl | (simp; done) | (simp [*]; done)), (by first | rfl | (simp; done) | (simp [*]; done)), H', ⟨by have := HK1.out; have := HK2.out; omega⟩, ⟨by (with_reducible repeat (first | apply Kd.R_alloc | apply Kd.R_drewN | apply Kd.R_drew)); exact HO250.out⟩, ⟨by refine pw_ ?_; exact BK241.out⟩, ⟨pb_ HB⟩⟩
       ·
        rw [if_neg c10] at H
        exact absurd H (by simp)
      ·
       rw [if_neg c9] at H
       have c9b0 : decide (x7_2 < 64) = false := decide_eq_false c9
       clear c9
       obtain rfl := Option.some.inj H
       go_wp2
       go_ret
       exact ⟨_, by first | rfl | (simp [errW_none, errW_some] <;> rfl) | (simp [*, errW_none, errW_some] <;> rfl), by (with_reducible repeat (first | apply Kd.R_alloc | apply Kd.R_drewN | apply Kd.R_drew)); exact HO_3.out, pb_ HB⟩

def platbookref03_Row.l0 : Nat → List Int → List Int → Int → Option (List Int)
 | 0, _, _, _ => none
 | k + 1, x3, x4, x5 => if x5 ≥ 0 then (if 0 ≤ x5 then (if x5 < (x3.length : Int) then (if x4.length < 17592186044416 then (platbookref03_Row.l0 k x3 (x4 ++ [rd x3 x5]) (wrap64 (x5 - 1))) else (none)) else (none)) else (none)) else (some x4)
def platbookref03_Row.f (k : Nat) (a0_0 : Bool) (a0_1 : Int) (a0_2 : Int) : Option (List Int) := (platbookref01_Bits.f k a0_1 a0_2).bind fun t252 => ((platbookref02_Width.f a0_0 a0_1 a0_2).bind fun t258 => (platbookref03_Row.l0 k t252 (([] : List Int)) (wrap64 (t258 - 1))))
set_option maxHeartbeats 8000000 in
set_option maxRecDepth 100000 in
theorem platbookref03_Row.calls (k : Nat) (a0_0 : Bool) (a0_1 : Int) (a0_2 : Int) (r : List Int) (w : World) (h : platbookref03_Row.f k a0_0 a0_1 a0_2 = some r) :
  Calls Tryz.prog 107 #[.agg #[.bool a0_0, .int .u64 a0_1, .int .u64 a0_2]] w fun e w' => ∃ v0_ : Value, e = .returned (v0_) ∧ Kd.R (Kd.int .i64) 3 w' w.heap.size (fun _ => True) v0_ r ∧ Below w.heap.size w w' := by
 have hu26 := Tryz.underlying26
 have hu24 := Tryz.underlying24
 have HB := Aside0.mk (Below.refl w.heap.size w)
 have H : ((platbookref01_Bits.f k a0_1 a0_2).bind fun t252 => ((platbookref02_Width.f a0_0 a0_1 a0_2).bind fun t258 => (platbookref03_Row.l0 k t252 (([] : List Int)) (wrap64 (t258 - 1))))) = some r := h
 clear h
 replace H := Option.bind_eq_some_iff.mp H
 obtain ⟨t252, A20, H⟩ := H
 replace H : ((platbookref02_Width.f a0_0 a0_1 a0_2).bind fun t258 => (platbookref03_Row.l0 k t252 (([] : List Int)) (wrap64 (t258 - 1)))) = some r := H
 have A2 := Aside0.mk A20
 clear A20
 obtain ⟨y255, hy255⟩ : ∃ y_ : List Int, y_ = (([] : List Int)) := ⟨_, rfl⟩
 replace H : ((platbookref02_Width.f a0_0 a0_1 a0_2).bind fun t258 => (platbookref03_Row.l0 k t252 y255 (wrap64 (t258 - 1)))) = some r := by first | (rw [hy255]; with_reducible exact H) | (have H2_ := (Option.bind_some _ _).symm.trans H; rw [hy255]; with_reducible exact H2_) | (have H2_ := (Option.bind_some _ _).symm.trans H; with_reducible exact H2_) | with_reducible exact H | (rw [hy255]; exact H) | exact H
 have Ny255 := Aside0.mk hy255
 clear hy255
 replace H := Option.bind_eq_some_iff.mp H
 obtain ⟨t258, A30, H⟩ := H
 replace H : (platbookref03_Row.l0 k t252 y255 (wrap64 (t258 - 1))) = some r := H
 have A3 := Aside0.mk A30
 clear A30
 have H' := Aside0.mk H
 clear H
 go_enter Tryz.func107, Tryz.ntmps107
 go_wp2_with (first | ((with_reducible refine gate_dst (N := 1) rfl ?_); refine bx_ 1 #[.bool a0_0, .int .u64 a0_1, .int .u64 a0_2] 26 ?_; intro gb251 hg w4 hbox hb; have BK251 := Aside0.mk (hbox); have GW251 := gw_ HB hg; have GE251 := gw_ HB hg; replace HB := bs_ HB hb; clear hb hbox hg; obtain ⟨hcz5_0, hcz5_1, hcz5_2, hfz5_0, hfz5_1, hfz5_2⟩ := c3_ BK251) | ((with_reducible refine gate_callee (f := 145) rfl ?_); refine gl_ (some 8) Tryz.func145 #[.agg #[.int .u64 a0_1, .int .u64 a0_2]] ?_; (with_reducible refine (platbookref01_Bits.calls k a0_1 a0_2 t252 _ A2.out).mono ?_); rintro e w6 ⟨v253, rfl, ho0, hb⟩; refine ⟨_, rfl, ?_⟩; have HO254 := Aside0.mk (Kd.R_lower ho0 (below_size (pb_ HB))); replace BK251 := bb_ BK251 hb; replace HB := bs_ HB hb; (try clear hb); (try clear hb2); (try clear hk); (try clear hi); (try clear ho0)) | ((with_reducible refine gate_dst (N := 9) rfl ?_); refine Kd.R_lit (Kd.int .i64) _ 3 ?hg (N := 9) ?hd (xs := ([] : List Int)) (inner := []) (ok := fun _ => True) (okp := fun _ => True) ?hr ?hp (fun _ hk => hk) trivial (Below.refl _ _) (Nat.le_refl _) (by simp) ?_; (case hd => rfl); (case hg => rfl); (case hr => first | (go_simp; done) | (go_simp; rfl)); (case hp => exact (Reps.none _ _)); intro v256 w7 ho8 hb hg_ hnew_; clear hg_ hnew_; (first | rw [← Ny255.out] at ho8 | (simp only [Int.reduceToNat] at ho8; rw [← Ny255.out] at ho8)); have HO257 := Aside0.mk (Kd.R_lower (Kd.R_new' ho8 (Kd.R_lt (by (with_reducible repeat (first | apply Kd.R_alloc | apply Kd.R_drewN | apply Kd.R_drew)); exact HO254.out))) (below_size (pb_ HB))); replace HO254 := Aside0.mk (Kd.R_elder' (by (with_reducible repeat (first | apply Kd.R_alloc | apply Kd.R_drewN | apply Kd.R_drew)); exact HO254.out) (Kd.R_base ho8) hb); replace BK251 := bb_ BK251 hb; replace HB := bs_ HB hb; clear hb ho8; obtain ⟨hcz9_0, hcz9_1, hcz9_2, hfz9_0, hfz9_1, hfz9_2⟩ := c3_ BK251) | ((with_reducible refine gate_callee (f := 67) rfl ?_); refine gl_ (some 11) Tryz.func67 #[.agg #[.bool a0_0, .int .u64 a0_1, .int .u64 a0_2]] ?_; (with_reducible refine (platbookref02_Width.calls a0_0 a0_1 a0_2 t258 _ A3.out).mono ?_); rintro e w10 ⟨rfl, hb⟩; refine ⟨_, rfl, ?_⟩; replace HO254 := Aside0.mk (Kd.R_below (by (with_reducible repeat (first | apply Kd.R_alloc | apply Kd.R_drewN | apply Kd.R_drew)); exact HO254.out) hb); replace HO257 := Aside0.mk (Kd.R_below (by (with_reducible repeat (first | apply Kd.R_alloc | apply Kd.R_drewN | apply Kd.R_drew)); exact HO257.out) hb); replace BK251 := bb_ BK251 hb; replace HB := bs_ HB hb; (try clear hb); (try clear hb2); (try clear hk); (try clear hi)))
 go_loopg [4, 5] k (fun kq v4 v5 w' => ∃ (x4_1 : List Int) (x5_1 : Int), v5 = .int .i64 x5_1 ∧ Aside0 (platbookref03_Row.l0 kq t252 x4_1 x5_1 = some r) ∧ Aside0 (kq ≤ k) ∧ Aside0 (Kd.R (Kd.int .i64) 3 w' w.heap.size (fun k_ => some k_ ≠ (v4 : Value).ownBlock) v253 t252) ∧ Aside0 (Kd.R (Kd.int .i64) 3 w' w.heap.size (fun k_ => some k_ ≠ (v253 : Value).ownBlock) v4 x4_1) ∧ Aside0 (w'.heap[gb251]? = some (.cells #[.bool a0_0, .int .u64 a0_1, .int .u64 a0_2] 26 (0, 0))) ∧ Aside0 (Below w.heap.size w w'))
 case atStart => exact ⟨(y255), (wrap64 (t258 - 1)), (by first | rfl | (simp; done) | (simp [*]; done)), H', ⟨Nat.le_refl _⟩, ⟨by (with_reducible repeat (first | apply Kd.R_alloc | apply Kd.R_drewN | apply Kd.R_drew)); exact Kd.R_mono HO254.out (fun _ hk => hk.2)⟩, ⟨by (with_reducible repeat (first | apply Kd.R_alloc | apply Kd.R_drewN | apply Kd.R_drew)); exact Kd.R_mono HO257.out (fun _ hk => hk.2)⟩, ⟨by refine pw_ ?_; exact BK251.out⟩, ⟨pb_ HB⟩⟩
 case round =>
  clear H'
  try clear c1
  try clear p2
  try clear c6
  try clear p6
  try clear c10
  try clear hcz5_0
  try clear hcz5_1
  try clear hcz5_2
  try clear hcz9_0
  try clear hcz9_1
  try clear hcz9_2
  try clear hfz5_0
  try clear hfz5_1
  try clear hfz5_2
  try clear hfz9_0
  try clear hfz9_1
  try clear hfz9_2
  obtain ⟨x4_1, x5_1, rfl, HA, HK1, HO_3, HO_4, BK251, HB⟩ := hrel
  cases gk with
  | zero => exact absurd HA.out (by simp [platbookref03_Row.l0])
  | succ k1 =>
   have H := HA.out
   clear HA
   simp only [platbookref03_Row.l0] at H
   by_cases c11 : x5_1 ≥ 0
   ·
    rw [if_pos c11] at H
    have c11b0 : decide (0 ≤ x5_1) = true := decide_eq_true c11
    clear c11
    by_cases c12 : 0 ≤ x5_1
    ·
     rw [if_pos c12] at H
     have c12b0 : decide (0 ≤ x5_1) = true := decide_eq_true c12
     clear c12
     by_cases c13 : x5_1 < (t252.length : Int)
     ·
      rw [if_pos c13] at H
      have c13b0 : decide (x5_1 < (t252.length : Int)) = true := decide_eq_true c13
      clear c13
      by_cases c14 : x4_1.length < 17592186044416
      ·
       rw [if_pos c14] at H
       have LMc14 := Aside0.mk c14
       clear c14
       obtain ⟨y260, hy260⟩ : ∃ y_ : List Int, y_ = (x4_1 ++ [rd t252 x5_1]) := ⟨_, rfl⟩
       replace H : (platbookref03_Row.l0 k1 t252 y260 (wrap64 (x5_1 - 1))) = some r := by first | (rw [hy260]; with_reducible exact H) | (have H2_ := (Option.bind_some _ _).symm.trans H; rw [hy260]; with_reducible exact H2_) | (have H2_ := (Option.bind_some _ _).symm.trans H; with_reducible exact H2_) | with_reducible exact H | (rw [hy260]; exact H) | exact H
       have Ny260 := Aside0.mk hy260
       clear hy260
       have H' := Aside0.mk H
       clear H
       obtain ⟨Ao15, co15, eo15⟩ := Kd.R_slice HO_3.out
       subst eo15
       have p259 : 0 ≤ (x5_1 : Int) := of_decide_eq_true (by first | (with_reducible assumption) | assumption)
       have q259 : x5_1 < (t252.length : Int) := of_decide_eq_true (by first | (with_reducible assumption) | assumption)
       obtain ⟨ad259, e259, hx259_0⟩ := Kd.at_int (Kd.R_reads' HO_3.out).2.2 x5_1 p259 q259
       cases e259
       replace p259 := eq_true p259
       replace q259 := eq_true q259
       go_wp2_with (first | ((with_reducible refine gate_builtin (b := .append) (xs := #[.tmp 17, .tmp 22]) rfl ?_); at_builtin; refine Kd.R_append (Kd.int .i64) (w0 := w) w.heap.size rfl (.tmp 17) (.tmp 22) 52 3 (.int .i64 0) 8 rfl Tryz.underlying52 info3 rfl (by decide) (by omega) u4 x4_1 (rd t252 x5_1) [.int .i64 (rd t252 x5_1)] (fun k_ => some k_ ≠ (.slice (some ad259) t252.length co15 : Value).ownBlock) (fun _ => False) rfl rfl ?aP (fun _ hk => hk.elim) ?aF ?aO ?aB ?aS ?aL ?_; (case aP => exact rfl); (case aB => exact (pb_ HB)); (case aF => exact (fun k_ hk => Kd.fresh' (Kd.R_lt (by (with_reducible repeat (first | apply Kd.R_alloc | apply Kd.R_drewN | apply Kd.R_drew)); exact HO_3.out)) k_ hk)); (case aO => exact (by (with_reducible repeat (first | apply Kd.R_alloc | apply Kd.R_drewN | apply Kd.R_drew)); exact HO_4.out)); (case aS => exact (below_size (pb_ HB))); (case aL => have := LMc14.out; omega); intro v261 w16 ho hb hg hat; rw [← Ny260.out] at ho; have HO262 := Aside0.mk (ho); replace HO_3 := Aside0.mk (Kd.R_after (ok := (fun _ => True)) (by (with_reducible repeat (first | apply Kd.R_alloc | apply Kd.R_drewN | apply Kd.R_drew)); exact Kd.R_mono HO_3.out (fun _ hk => ⟨trivial, hk⟩)) hg hat); replace BK251 := Aside0.mk (blk_grown (g := gb251) (o := .cells #[.bool a0_0, .int .u64 a0_1, .int .u64 a0_2] 26 (0, 0)) (pk_ BK251) hg (Kd.R_ne HO_4.out BK251.out (by decide))); replace HB := Aside0.mk (hb); clear HO_4; clear ho hb hg hat))
       go_roundg k1
       case measure => have := HK1.out; omega
       case rel => exact ⟨(y260), (wrap64 (x5_1 - 1)), (by first | rfl | (simp; done) | (simp [*]; done)), H', ⟨by have := HK1.out; omega⟩, ⟨by (with_reducible repeat (first | apply Kd.R_alloc | apply Kd.R_drewN | apply Kd.R_drew)); exact Kd.R_mono HO_3.out (fun _ hk => hk.2)⟩, ⟨by (with_reducible repeat (first | apply Kd.R_alloc | apply Kd.R_drewN | apply Kd.R_drew)); exact HO262.out⟩, ⟨by refine pw_ ?_; exact BK251.out⟩, ⟨pb_ HB⟩⟩
      ·
       rw [if_neg c14] at H
       exact absurd H (by simp)
     ·
      rw [if_neg c13] at H
      exact absurd H (by simp)
    ·
     rw [if_neg c12] at H
     exact absurd H (by simp)
   ·
    rw [if_neg c11] at H
    have c11b0 : decide (0 ≤ x5_1) = false := decide_eq_false c11
    clear c11
    obtain rfl := Option.some.inj H
    go_wp2
    go_ret
    exact ⟨_, by first | rfl | (simp [errW_none, errW_some] <;> rfl) | (simp [*, errW_none, errW_some] <;> rfl), by (with_reducible repeat (first | apply Kd.R_alloc | apply Kd.R_drewN | apply Kd.R_drew)); exact Kd.R_mono HO_4.out (fun _ hk => trivial), pb_ HB⟩

mutual
def platbookref01_Num.l0 : Nat → List Int → Int → Int → Int → Option (Int × Int)
 | 0, _, _, _, _ => none
 | k + 1, x0, x4, x265000, x265001 => if x4 ≥ 64 then (if x4 < (x0.length : Int) then (if 0 ≤ x4 then (platbookref01_Num.l0 k x0 (wrap64 (x4 - 1)) (IntKind.u64.wrap ((IntKind.u64.wrap (x265000 * 2)) + (IntKind.u64.wrap (rd x0 x4)))) x265001) else (none)) else (platbookref01_Num.l0 k x0 (wrap64 (x4 - 1)) (IntKind.u64.wrap (x265000 * 2)) x265001)) else (platbookref01_Num.l1 k x0 63 x265000 x265001)
def platbookref01_Num.l1 : Nat → List Int → Int → Int → Int → Option (Int × Int)
 | 0, _, _, _, _ => none
 | k + 1, x0, x5, x265000, x265001 => if x5 ≥ 0 then (if x5 < (x0.length : Int) then (if 0 ≤ x5 then (platbookref01_Num.l1 k x0 (wrap64 (x5 - 1)) x265000 (IntKind.u64.wrap ((IntKind.u64.wrap (x265001 * 2)) + (IntKind.u64.wrap (rd x0 x5))))) else (none)) else (platbookref01_Num.l1 k x0 (wrap64 (x5 - 1)) x265000 (IntKind.u64.wrap (x265001 * 2)))) else (some (x265000, x265001))
end
def platbookref01_Num.f (k : Nat) (l0 : List Int) : Option (Int × Int) := platbookref01_Num.l0 k l0 127 0 0
def platbookref01_Num.T7 : Bool × List (List Nat × List Nat) := (true, [([], []), ([0], [0]), ([], []), ([], []), ([2, 3], [2, 3]), ([4], [4]), ([5], [5]), ([1, 6], [1, 6]), ([0, 1, 2, 3, 4, 5, 6, 7], []), ([8, 7, 0, 1, 2, 3, 4, 5, 6, 7], [7, 8])])
def platbookref01_Num.B7 : List Nat := [0, 1, 0, 0, 12, 28, 60, 127, 255, 511]
theorem platbookref01_Num.tab7 : rtab .any (opsOf Tryz.f170 7) = platbookref01_Num.T7 := by kernel_rfl
theorem platbookref01_Num.bits7 : waitsOk platbookref01_Num.T7.2 platbookref01_Num.B7 = true := by kernel_rfl
def platbookref01_Num.T13 : Bool × List (List Nat × List Nat) := (true, [([], []), ([0], [0]), ([], []), ([], []), ([2, 3], [2, 3]), ([4], [4]), ([5], [5]), ([1, 6], [1, 6]), ([0, 1, 2, 3, 4, 5, 6, 7], []), ([8, 7, 0, 1, 2, 3, 4, 5, 6, 7], [7, 8])])
def platbookref01_Num.B13 : List Nat := [0, 1, 0, 0, 12, 28, 60, 127, 255, 511]
theorem platbookref01_Num.tab13 : rtab .any (opsOf Tryz.f170 13) = platbookref01_Num.T13 := by kernel_rfl
theorem platbookref01_Num.bits13 : waitsOk platbookref01_Num.T13.2 platbookref01_Num.B13 = true := by kernel_rfl
set_option maxHeartbeats 8000000 in
set_option maxRecDepth 100000 in
theorem platbookref01_Num.calls (k : Nat) (A0 : Option Addr) (c0 : Nat) (l0 : List Int) (r1 : Int) (r2 : Int) (w : World) (hr0 : Kd.C (Kd.int .i64) w A0 l0.length l0) (hc0 : l0.length ≤ c0) (h : platbookref01_Num.f k l0 = some (r1, r2)) :
  Calls Tryz.prog 170 #[.slice A0 l0.length c0] w fun e w' => e = .returned (.agg #[.int .u64 r1, .int .u64 r2]) ∧ Below w.heap.size w w' := by
 have hu24 := Tryz.underlying24
 have HR0 := Aside0.mk hr0
 have HC0 := Aside0.mk hc0
 clear hr0 hc0
 have HB := Aside0.mk (Below.refl w.heap.size w)
 have H : (platbookref01_Num.l0 k l0 127 0 0) = some (r1, r2) := h
 clear h
 have H' := Aside0.mk H
 clear H
 go_enter Tryz.func170, Tryz.ntmps170
 go_wp2_with (first | ((with_reducible refine gate_dst (N := 2) rfl ?_); refine bx_ 2 #[.int .u64 0, .int .u64 0] 24 ?_; intro gb263 hg w2 hbox hb; have BK263 := Aside0.mk (hbox); have GW263 := gw_ HB hg; have GE263 := gw_ HB hg; replace HB := bs_ HB hb; clear hb hbox hg) | ((with_reducible refine gate_dst (N := 3) rfl ?_); refine bx_ 3 #[.int .u64 0, .int .u64 0] 24 ?_; intro gb264 hg w3 hbox hb; have BK264 := Aside0.mk (hbox); have GW264 := gw_ HB hg; have GE264 := gw_ HB hg; have NB263_264 := nl_ BK263 hg; have NB264_263 := ng_ BK263 hg; replace BK263 := bb_ BK263 hb; replace HB := bs_ HB hb; clear hb hbox hg; have hnb4 := NB264_263.out; have hnc4 := NB263_264.out; obtain ⟨hcz5_0, hcz5_1, hfz5_0, hfz5_1⟩ := c2_ BK264))
 go_loopg [4] k (fun kq v4 w' => ∃ (x4_1 : Int) (x265000_1 : Int), v4 = .int .i64 x4_1 ∧ Aside0 (platbookref01_Num.l0 kq l0 x4_1 x265000_1 0 = some (r1, r2)) ∧ Aside0 (kq ≤ k) ∧ Aside0 (w'.heap[gb263]? = some (.cells #[.int .u64 0, .int .u64 0] 24 (0, 0))) ∧ Aside0 (w'.heap[gb264]? = some (.cells #[.int .u64 x265000_1, .int .u64 0] 24 (0, 0))) ∧ Aside0 (Below w.heap.size w w'))
 case atStart => exact ⟨(127), (0), (by first | rfl | (simp; done) | (simp [*]; done)), H', ⟨Nat.le_refl _⟩, ⟨by refine pw_ ?_; refine blk_far ?_ NB263_264.out _; refine pw_ ?_; refine blk_far ?_ NB263_264.out _; refine pw_ ?_; exact BK263.out⟩, ⟨by refine pw_ ?_; refine blk_put (cs := #[.int .u64 0, .int .u64 0]) ?_ 1 _ rfl; refine pw_ ?_; refine blk_put (cs := #[.int .u64 0, .int .u64 0]) ?_ 0 _ rfl; refine pw_ ?_; exact BK264.out⟩, ⟨pb_ HB⟩⟩
 case round =>
  clear H'
  try clear c1
  try clear p2
  try clear c4
  try clear hcz5_0
  try clear hcz5_1
  try clear hfz5_0
  try clear hfz5_1
  obtain ⟨x4_1, x265000_1, rfl, HA, HK1, BK263, BK264, HB⟩ := hrel
  cases gk with
  | zero => exact absurd HA.out (by simp [platbookref01_Num.l0])
  | succ k1 =>
   have H := HA.out
   clear HA
   simp only [platbookref01_Num.l0] at H
   by_cases c6 : x4_1 ≥ 64
   ·
    rw [if_pos c6] at H
    have c6b0 : decide (64 ≤ x4_1) = true := decide_eq_true c6
    clear c6
    by_cases c7 : x4_1 < (l0.length : Int)
    ·
     rw [if_pos c7] at H
     have c7b0 : decide (x4_1 < (l0.length : Int)) = true := decide_eq_true c7
     clear c7
     by_cases c8 : 0 ≤ x4_1
     ·
      rw [if_pos c8] at H
      have c8b0 : decide (0 ≤ x4_1) = true := decide_eq_true c8
      clear c8
      have H' := Aside0.mk H
      clear H
      have hnb9 := NB264_263.out
      have hnc9 := NB263_264.out
      obtain ⟨hcz10_0, hcz10_1, hfz10_0, hfz10_1⟩ := c2_ BK264
      try go_wp2
      have n0_ : Aside0 ((wr.setCell ⟨gb264, 0, none⟩ (.int .u64 (IntKind.u64.wrap (x265000_1 * 2)))).heap[gb263]? = some (.cells #[.int .u64 0, .int .u64 0] 24 (0, 0))) := ⟨by refine pw_ ?_; refine blk_far ?_ NB263_264.out _; refine pw_ ?_; exact BK263.out⟩
      have n1_ : Aside0 ((wr.setCell ⟨gb264, 0, none⟩ (.int .u64 (IntKind.u64.wrap (x265000_1 * 2)))).heap[gb264]? = some (.cells #[.int .u64 (IntKind.u64.wrap (x265000_1 * 2)), .int .u64 0] 24 (0, 0))) := ⟨by refine pw_ ?_; refine blk_put (cs := #[.int .u64 x265000_1, .int .u64 0]) ?_ 0 _ rfl; refine pw_ ?_; exact BK264.out⟩
      have n2_ : Aside0 (Below w.heap.size w (wr.setCell ⟨gb264, 0, none⟩ (.int .u64 (IntKind.u64.wrap (x265000_1 * 2))))) := ⟨pb_ HB⟩
      (try clear BK263)
      (try clear BK264)
      (try clear HB)
      generalize (wr.setCell ⟨gb264, 0, none⟩ (.int .u64 (IntKind.u64.wrap (x265000_1 * 2)))) = w11 at n0_ n1_ n2_ ⊢
      have BK263 := n0_
      have BK264 := n1_
      have HB := n2_
      clear n0_ n1_ n2_
      replace BK263 := Aside0.mk (blk_drew BK263.out)
      replace BK264 := Aside0.mk (blk_drew BK264.out)
      replace HB := Aside0.mk (below_drew1 HB.out)
      have p265 : 0 ≤ (x4_1 : Int) := of_decide_eq_true (by first | (with_reducible assumption) | assumption)
      have q265 : x4_1 < (l0.length : Int) := of_decide_eq_true (by first | (with_reducible assumption) | assumption)
      obtain ⟨ad265, e265, hx265_0⟩ := Kd.at_int HR0.out x4_1 p265 q265
      have hw265_0 := hx265_0
      cases e265
      replace hx265_0 := (HB.out.cell (World.block_lt_of_cell? w _ hx265_0)).trans hx265_0
      replace p265 := eq_true p265
      replace q265 := eq_true q265
      refine start_ (n := 10) (S := fun w' => w'.cell? ⟨gb264, 0, none⟩ = some (.int .u64 (IntKind.u64.wrap (x265000_1 * 2))) ∧ w'.cell? ⟨gb264, 1, none⟩ = some (.int .u64 0) ∧ w'.cell? (ad265.add (x4_1).toNat) = some (.int .i64 (rd l0 x4_1))) (ds := [9]) (bm_ 10 0) (by kernel_rfl) rfl rfl ⟨kc_ BK264 0, kc_ BK264 1, ((HB.out.cell (World.block_lt_of_cell? w _ hw265_0)).trans hw265_0)⟩ (fun hHeld => ?_); refine with_tabW platbookref01_Num.tab7 platbookref01_Num.bits7 (fun HT_ HW_ => ?_)
      generalize w11.drew = w12 at BK263 BK264 HB hx265_0 hHeld ⊢
      refine pu_ 0 (some 19) (bm_ 10 1) rfl HT_ ⟨by rfl, by intro w'; go_simp; with_reducible rfl⟩ ?_
      refine pu_ 2 (some 21) (bm_ 10 5) rfl HT_ ⟨by rfl, by intro w'; go_simp; with_reducible rfl⟩ ?_
      refine pu_ 3 (some 22) (bm_ 10 13) rfl HT_ ⟨by rfl, by intro w'; go_simp; with_reducible rfl⟩ ?_
      refine pu_ 4 (some 23) (bm_ 10 29) rfl HT_ ⟨by rfl, by intro w'; go_simp; with_reducible rfl⟩ ?_
      refine ta_ 1 (some 20) (bm_ 10 31) rfl HT_ HW_ ⟨by rfl, by rintro w' ⟨s0, s1, s2⟩; go_simp; with_reducible rfl⟩ hHeld ?_
      refine ta_ 5 (some 24) (bm_ 10 63) rfl HT_ HW_ ⟨by rfl, by rintro w' ⟨s0, s1, s2⟩; go_simp; with_reducible rfl⟩ hHeld ?_
      refine pu_ 6 (some 25) (bm_ 10 127) rfl HT_ ⟨by rfl, by intro w'; go_simp; with_reducible rfl⟩ ?_
      refine pu_ 7 (some 26) (bm_ 10 255) rfl HT_ ⟨by rfl, by intro w'; go_simp; with_reducible rfl⟩ ?_
      refine pu_ 8 (some 27) (bm_ 10 511) rfl HT_ ⟨by rfl, by intro w'; go_simp; with_reducible rfl⟩ ?_
      refine last_ (i := 9) (N := none) (bm_ 10 1023) rfl rfl (one_of HT_.out (by kernel_rfl)) (by decide) (fun K hK => ?_)
      have hs13 : w12.cell? ⟨gb264, 0, none⟩ = some (.int .u64 (IntKind.u64.wrap (x265000_1 * 2))) := kc_ BK264 0
      have hfs13 := blk_frozen BK264.out 0
      have hns13_0 := NB263_264.out
      have hms13_0 := NB264_263.out
      refine skip_ (w1 := ?_) (by rfl) rfl ?_ ?_
      rotate_left
      ·
       go_simp
       rfl
      refine hK.out _ _ ?_
      clear hK K
      refine done_ (done_of HT_.out (by kernel_rfl)) ?_
      try go_wp2
      go_roundg k1
      case measure => have := HK1.out; omega
      case rel => exact ⟨(wrap64 (x4_1 - 1)), (IntKind.u64.wrap ((IntKind.u64.wrap (x265000_1 * 2)) + (IntKind.u64.wrap (rd l0 x4_1)))), (by first | rfl | (simp; done) | (simp [*]; done)), H', ⟨by have := HK1.out; omega⟩, ⟨by refine pw_ ?_; refine blk_far ?_ NB263_264.out _; refine pw_ ?_; exact BK263.out⟩, ⟨by refine pw_ ?_; refine blk_put (cs := #[.int .u64 (IntKind.u64.wrap (x265000_1 * 2)), .int .u64 0]) ?_ 0 _ rfl; refine pw_ ?_; exact BK264.out⟩, ⟨pb_ HB⟩⟩
     ·
      rw [if_neg c8] at H
      exact absurd H (by simp)
    ·
     rw [if_neg c7] at H
     have c7b0 : decide (x4_1 < (l0.length : Int)) = false := decide_eq_false c7
     clear c7
     have H' := Aside0.mk H
     clear H
     have hnb14 := NB264_263.out
     have hnc14 := NB263_264.out
     obtain ⟨hcz15_0, hcz15_1, hfz15_0, hfz15_1⟩ := c2_ BK264
     go_wp2
     go_roundg k1
     case measure => have := HK1.out; omega
     case rel => exact ⟨(wrap64 (x4_1 - 1)), (IntKind.u64.wrap (x265000_1 * 2)), (by first | rfl | (simp; done) | (simp [*]; done)), H', ⟨by have := HK1.out; omega⟩, ⟨by refine pw_ ?_; refine blk_far ?_ NB263_264.out _; refine pw_ ?_; exact BK263.out⟩, ⟨by refine pw_ ?_; refine blk_put (cs := #[.int .u64 x265000_1, .int .u64 0]) ?_ 0 _ rfl; refine pw_ ?_; exact BK264.out⟩, ⟨pb_ HB⟩⟩
   ·
    rw [if_neg c6] at H
    have c6b0 : decide (64 ≤ x4_1) = false := decide_eq_false c6
    clear c6
    have H' := Aside0.mk H
    clear H
    go_wp2
    go_loopg [5] k1 (fun kq v5 w' => ∃ (x5_2 : Int) (x265001_2 : Int), v5 = .int .i64 x5_2 ∧ Aside0 (platbookref01_Num.l1 kq l0 x5_2 x265000_1 x265001_2 = some (r1, r2)) ∧ Aside0 (kq ≤ k1) ∧ Aside0 (w'.heap[gb263]? = some (.cells #[.int .u64 0, .int .u64 0] 24 (0, 0))) ∧ Aside0 (w'.heap[gb264]? = some (.cells #[.int .u64 x265000_1, .int .u64 x265001_2] 24 (0, 0))) ∧ Aside0 (Below w.heap.size w w'))
    case atStart => exact ⟨(63), (0), (by first | rfl | (simp; done) | (simp [*]; done)), H', ⟨Nat.le_refl _⟩, ⟨by refine pw_ ?_; exact BK263.out⟩, ⟨by refine pw_ ?_; exact BK264.out⟩, ⟨pb_ HB⟩⟩
    case round =>
     clear H'
     try clear c1
     try clear p2
     try clear q2
     try clear hx2
     try clear c4
     try clear c6
     try clear c6b0
     try clear p6
     try clear c7
     try clear c7b0
     try clear c8
     try clear c8b0
     try clear c9
     try clear c14
     try clear hcz10_0
     try clear hcz10_1
     try clear hcz15_0
     try clear hcz15_1
     try clear hcz5_0
     try clear hcz5_1
     try clear hfz10_0
     try clear hfz10_1
     try clear hfz15_0
     try clear hfz15_1
     try clear hfz5_0
     try clear hfz5_1
     try clear hx265_0
     try clear p2
     try clear p265
     try clear q265
     obtain ⟨x5_2, x265001_2, rfl, HA, HK2, BK263, BK264, HB⟩ := hrel
     cases gk with
     | zero => exact absurd HA.out (by simp [platbookref01_Num.l1])
     | succ k2 =>
      have H := HA.out
      clear HA
      simp only [platbookref01_Num.l1] at H
      by_cases c16 : x5_2 ≥ 0
      ·
       rw [if_pos c16] at H
       have c16b0 : decide (0 ≤ x5_2) = true := decide_eq_true c16
       clear c16
       by_cases c17 : x5_2 < (l0.length : Int)
       ·
        rw [if_pos c17] at H
        have c17b0 : decide (x5_2 < (l0.length : Int)) = true := decide_eq_true c17
        clear c17
        by_cases c18 : 0 ≤ x5_2
        ·
         rw [if_pos c18] at H
         have c18b0 : decide (0 ≤ x5_2) = true := decide_eq_true c18
         clear c18
         have H' := Aside0.mk H
         clear H
         have hnb19 := NB264_263.out
         have hnc19 := NB263_264.out
         obtain ⟨hcz20_0, hcz20_1, hfz20_0, hfz20_1⟩ := c2_ BK264
         try go_wp2
         have n0_ : Aside0 ((wr.setCell ⟨gb264, 1, none⟩ (.int .u64 (IntKind.u64.wrap (x265001_2 * 2)))).heap[gb263]? = some (.cells #[.int .u64 0, .int .u64 0] 24 (0, 0))) := ⟨by refine pw_ ?_; refine blk_far ?_ NB263_264.out _; refine pw_ ?_; exact BK263.out⟩
         have n1_ : Aside0 ((wr.setCell ⟨gb264, 1, none⟩ (.int .u64 (IntKind.u64.wrap (x265001_2 * 2)))).heap[gb264]? = some (.cells #[.int .u64 x265000_1, .int .u64 (IntKind.u64.wrap (x265001_2 * 2))] 24 (0, 0))) := ⟨by refine pw_ ?_; refine blk_put (cs := #[.int .u64 x265000_1, .int .u64 x265001_2]) ?_ 1 _ rfl; refine pw_ ?_; exact BK264.out⟩
         have n2_ : Aside0 (Below w.heap.size w (wr.setCell ⟨gb264, 1, none⟩ (.int .u64 (IntKind.u64.wrap (x265001_2 * 2))))) := ⟨pb_ HB⟩
         (try clear BK263)
         (try clear BK264)
         (try clear HB)
         generalize (wr.setCell ⟨gb264, 1, none⟩ (.int .u64 (IntKind.u64.wrap (x265001_2 * 2)))) = w21 at n0_ n1_ n2_ ⊢
         have BK263 := n0_
         have BK264 := n1_
         have HB := n2_
         clear n0_ n1_ n2_
         replace BK263 := Aside0.mk (blk_drew BK263.out)
         replace BK264 := Aside0.mk (blk_drew BK264.out)
         replace HB := Aside0.mk (below_drew1 HB.out)
         have p266 : 0 ≤ (x5_2 : Int) := of_decide_eq_true (by first | (with_reducible assumption) | assumption)
         have q266 : x5_2 < (l0.length : Int) := of_decide_eq_true (by first | (with_reducible assumption) | assumption)
         obtain ⟨ad266, e266, hx266_0⟩ := Kd.at_int HR0.out x5_2 p266 q266
         have hw266_0 := hx266_0
         cases e266
         replace hx266_0 := (HB.out.cell (World.block_lt_of_cell? w _ hx266_0)).trans hx266_0
         replace p266 := eq_true p266
         replace q266 := eq_true q266
         refine start_ (n := 10) (S := fun w' => w'.cell? ⟨gb264, 0, none⟩ = some (.int .u64 x265000_1) ∧ w'.cell? ⟨gb264, 1, none⟩ = some (.int .u64 (IntKind.u64.wrap (x265001_2 * 2))) ∧ w'.cell? (ad266.add (x5_2).toNat) = some (.int .i64 (rd l0 x5_2))) (ds := [9]) (bm_ 10 0) (by kernel_rfl) rfl rfl ⟨kc_ BK264 0, kc_ BK264 1, ((HB.out.cell (World.block_lt_of_cell? w _ hw266_0)).trans hw266_0)⟩ (fun hHeld => ?_); refine with_tabW platbookref01_Num.tab13 platbookref01_Num.bits13 (fun HT_ HW_ => ?_)
         generalize w21.drew = w22 at BK263 BK264 HB hx266_0 hHeld ⊢
         refine pu_ 0 (some 40) (bm_ 10 1) rfl HT_ ⟨by rfl, by intro w'; go_simp; with_reducible rfl⟩ ?_
         refine pu_ 2 (some 42) (bm_ 10 5) rfl HT_ ⟨by rfl, by intro w'; go_simp; with_reducible rfl⟩ ?_
         refine pu_ 3 (some 43) (bm_ 10 13) rfl HT_ ⟨by rfl, by intro w'; go_simp; with_reducible rfl⟩ ?_
         refine pu_ 4 (some 44) (bm_ 10 29) rfl HT_ ⟨by rfl, by intro w'; go_simp; with_reducible rfl⟩ ?_
         refine ta_ 1 (some 41) (bm_ 10 31) rfl HT_ HW_ ⟨by rfl, by rintro w' ⟨s0, s1, s2⟩; go_simp; with_reducible rfl⟩ hHeld ?_
         refine ta_ 5 (some 45) (bm_ 10 63) rfl HT_ HW_ ⟨by rfl, by rintro w' ⟨s0, s1, s2⟩; go_simp; with_reducible rfl⟩ hHeld ?_
         refine pu_ 6 (some 46) (bm_ 10 127) rfl HT_ ⟨by rfl, by intro w'; go_simp; with_reducible rfl⟩ ?_
         refine pu_ 7 (some 47) (bm_ 10 255) rfl HT_ ⟨by rfl, by intro w'; go_simp; with_reducible rfl⟩ ?_
         refine pu_ 8 (some 48) (bm_ 10 511) rfl HT_ ⟨by rfl, by intro w'; go_simp; with_reducible rfl⟩ ?_
         refine last_ (i := 9) (N := none) (bm_ 10 1023) rfl rfl (one_of HT_.out (by kernel_rfl)) (by decide) (fun K hK => ?_)
         have hs23 : w22.cell? ⟨gb264, 1, none⟩ = some (.int .u64 (IntKind.u64.wrap (x265001_2 * 2))) := kc_ BK264 1
         have hfs23 := blk_frozen BK264.out 1
         have hns23_0 := NB263_264.out
         have hms23_0 := NB264_263.out
         refine skip_ (w1 := ?_) (by rfl) rfl ?_ ?_
         rotate_left
         ·
          go_simp
          rfl
         refine hK.out _ _ ?_
         clear hK K
         refine done_ (done_of HT_.out (by kernel_rfl)) ?_
         try go_wp2
         go_roundg k2
         case measure => have := HK1.out; have := HK2.out; omega
         case rel => exact ⟨(wrap64 (x5_2 - 1)), (IntKind.u64.wrap ((IntKind.u64.wrap (x265001_2 * 2)) + (IntKind.u64.wrap (rd l0 x5_2)))), (by first | rfl | (simp; done) | (simp [*]; done)), H', ⟨by have := HK1.out; have := HK2.out; omega⟩, ⟨by refine pw_ ?_; refine blk_far ?_ NB263_264.out _; refine pw_ ?_; exact BK263.out⟩, ⟨by refine pw_ ?_; refine blk_put (cs := #[.int .u64 x265000_1, .int .u64 (IntKind.u64.wrap (x265001_2 * 2))]) ?_ 1 _ rfl; refine pw_ ?_; exact BK264.out⟩, ⟨pb_ HB⟩⟩
        ·
         rw [if_neg c18] at H
         exact absurd H (by simp)
       ·
        rw [if_neg c17] at H
        have c17b0 : decide (x5_2 < (l0.length : Int)) = false := decide_eq_false c17
        clear c17
        have H' := Aside0.mk H
        clear H
        have hnb24 := NB264_263.out
        have hnc24 := NB263_264.out
        obtain ⟨hcz25_0, hcz25_1, hfz25_0, hfz25_1⟩ := c2_ BK264
        go_wp2
        go_roundg k2
        case measure => have := HK1.out; have := HK2.out; omega
        case rel => exact ⟨(wrap64 (x5_2 - 1)), (IntKind.u64.wrap (x265001_2 * 2)), (by first | rfl | (simp; done) | (simp [*]; done)), H', ⟨by have := HK1.out; have := HK2.out; omega⟩, ⟨by refine pw_ ?_; refine blk_far ?_ NB263_264.out _; refine pw_ ?_; exact BK263.out⟩, ⟨by refine pw_ ?_; refine blk_put (cs := #[.int .u64 x265000_1, .int .u64 x265001_2]) ?_ 1 _ rfl; refine pw_ ?_; exact BK264.out⟩, ⟨pb_ HB⟩⟩
      ·
       rw [if_neg c16] at H
       have c16b0 : decide (0 ≤ x5_2) = false := decide_eq_false c16
       clear c16
       simp only [Option.some.injEq, Prod.mk.injEq] at H
       obtain ⟨rfl, rfl⟩ := H
       have hnb26 := NB264_263.out
       have hnc26 := NB263_264.out
       obtain ⟨hcz27_0, hcz27_1, hfz27_0, hfz27_1⟩ := c2_ BK264
       obtain ⟨hcz28_0, hcz28_1, hfz28_0, hfz28_1⟩ := c2_ BK263
       go_wp2
       refine bodyPost_ret (results_cell_row rfl _ _ gb263 24 #[.int .u64 x265000_1, .int .u64 x265001_2] (0, 0) _ rfl (by refine pw_ ?_; refine blk_put (cs := #[.int .u64 x265000_1, .int .u64 0]) ?_ 1 _ rfl; refine pw_ ?_; refine blk_put (cs := #[.int .u64 0, .int .u64 0]) ?_ 0 _ rfl; refine pw_ ?_; exact BK263.out) Tryz.underlying24 rfl (by kernel_rfl)) rfl ?_
       exact ⟨by first | rfl | (simp [errW_none, errW_some] <;> rfl) | (simp [*, errW_none, errW_some] <;> rfl), pb_ HB⟩

def platbookref03_Addr.l0 : Nat → Bool → List Int → List Int → Int → Option (Bool × Int × Int)
 | 0, _, _, _, _ => none
 | k + 1, x0, x1, x5, x6 => if x6 ≥ 0 then (if 0 ≤ x6 then (if x6 < (x1.length : Int) then (if x5.length < 17592186044416 then (platbookref03_Addr.l0 k x0 x1 (x5 ++ [rd x1 x6]) (wrap64 (x6 - 1))) else (none)) else (none)) else (none)) else ((platbookref01_Num.f k x5).bind fun bt275 => (some (x0, bt275.1, bt275.2)))
def platbookref03_Addr.f (k : Nat) (a0 : Bool) (l1 : List Int) : Option (Bool × Int × Int) := platbookref03_Addr.l0 k a0 l1 (([] : List Int)) (wrap64 ((l1.length : Int) - 1))
set_option maxHeartbeats 8000000 in
set_option maxRecDepth 100000 in
theorem platbookref03_Addr.calls (k : Nat) (a0 : Bool) (A1 : Option Addr) (c1 : Nat) (l1 : List Int) (r1 : Bool) (r2 : Int) (r3 : Int) (w : World) (hr1 : Kd.C (Kd.int .i64) w A1 l1.length l1) (hc1 : l1.length ≤ c1) (h : platbookref03_Addr.f k a0 l1 = some (r1, r2, r3)) :
  Calls Tryz.prog 146 #[.bool a0, .slice A1 l1.length c1] w fun e w' => e = .returned (.agg #[.bool r1, .int .u64 r2, .int .u64 r3]) ∧ Below w.heap.size w w' := by
 have hu26 := Tryz.underlying26
 have HR1 := Aside0.mk hr1
 have HC1 := Aside0.mk hc1
 clear hr1 hc1
 have HB := Aside0.mk (Below.refl w.heap.size w)
 have H : (platbookref03_Addr.l0 k a0 l1 (([] : List Int)) (wrap64 ((l1.length : Int) - 1))) = some (r1, r2, r3) := h
 clear h
 obtain ⟨y268, hy268⟩ : ∃ y_ : List Int, y_ = (([] : List Int)) := ⟨_, rfl⟩
 replace H : (platbookref03_Addr.l0 k a0 l1 y268 (wrap64 ((l1.length : Int) - 1))) = some (r1, r2, r3) := by first | (rw [hy268]; with_reducible exact H) | (have H2_ := (Option.bind_some _ _).symm.trans H; rw [hy268]; with_reducible exact H2_) | (have H2_ := (Option.bind_some _ _).symm.trans H; with_reducible exact H2_) | with_reducible exact H | (rw [hy268]; exact H) | exact H
 have Ny268 := Aside0.mk hy268
 clear hy268
 have H' := Aside0.mk H
 clear H
 go_enter Tryz.func146, Tryz.ntmps146
 go_wp2_with (first | ((with_reducible refine gate_dst (N := 4) rfl ?_); refine bx_ 4 #[.bool false, .int .u64 0, .int .u64 0] 26 ?_; intro gb267 hg w3 hbox hb; have BK267 := Aside0.mk (hbox); have GW267 := gw_ HB hg; have GE267 := gw_ HB hg; replace HB := bs_ HB hb; clear hb hbox hg) | ((with_reducible refine gate_dst (N := 7) rfl ?_); refine Kd.R_lit (Kd.int .i64) _ 3 ?hg (N := 7) ?hd (xs := ([] : List Int)) (inner := []) (ok := fun _ => True) (okp := fun _ => True) ?hr ?hp (fun _ hk => hk) trivial (Below.refl _ _) (Nat.le_refl _) (by simp) ?_; (case hd => rfl); (case hg => rfl); (case hr => first | (go_simp; done) | (go_simp; rfl)); (case hp => exact (Reps.none _ _)); intro v269 w4 ho5 hb hg_ hnew_; clear hg_ hnew_; (first | rw [← Ny268.out] at ho5 | (simp only [Int.reduceToNat] at ho5; rw [← Ny268.out] at ho5)); have HO270 := Aside0.mk (Kd.R_lower ho5 (below_size (pb_ HB))); replace BK267 := bb_ BK267 hb; replace HB := bs_ HB hb; clear hb ho5))
 go_loopg [5, 6] k (fun kq v5 v6 w' => ∃ (x5_1 : List Int) (x6_1 : Int), v6 = .int .i64 x6_1 ∧ Aside0 (platbookref03_Addr.l0 kq a0 l1 x5_1 x6_1 = some (r1, r2, r3)) ∧ Aside0 (kq ≤ k) ∧ Aside0 (Kd.R (Kd.int .i64) 3 w' w.heap.size (fun _ => True) v5 x5_1) ∧ Aside0 (w'.heap[gb267]? = some (.cells #[.bool false, .int .u64 0, .int .u64 0] 26 (0, 0))) ∧ Aside0 (Below w.heap.size w w'))
 case atStart => exact ⟨(y268), (wrap64 ((l1.length : Int) - 1)), (by first | rfl | (simp; done) | (simp [*]; done)), H', ⟨Nat.le_refl _⟩, ⟨by (with_reducible repeat (first | apply Kd.R_alloc | apply Kd.R_drewN | apply Kd.R_drew)); exact HO270.out⟩, ⟨by refine pw_ ?_; exact BK267.out⟩, ⟨pb_ HB⟩⟩
 case round =>
  clear H'
  try clear c1
  try clear p2
  obtain ⟨x5_1, x6_1, rfl, HA, HK1, HO_5, BK267, HB⟩ := hrel
  cases gk with
  | zero => exact absurd HA.out (by simp [platbookref03_Addr.l0])
  | succ k1 =>
   have H := HA.out
   clear HA
   simp only [platbookref03_Addr.l0] at H
   by_cases c6 : x6_1 ≥ 0
   ·
    rw [if_pos c6] at H
    have c6b0 : decide (0 ≤ x6_1) = true := decide_eq_true c6
    clear c6
    by_cases c7 : 0 ≤ x6_1
    ·
     rw [if_pos c7] at H
     have c7b0 : decide (0 ≤ x6_1) = true := decide_eq_true c7
     clear c7
     by_cases c8 : x6_1 < (l1.length : Int)
     ·
      rw [if_pos c8] at H
      have c8b0 : decide (x6_1 < (l1.length : Int)) = true := decide_eq_true c8
      clear c8
      by_cases c9 : x5_1.length < 17592186044416
      ·
       rw [if_pos c9] at H
       have LMc9 := Aside0.mk c9
       clear c9
       obtain ⟨y272, hy272⟩ : ∃ y_ : List Int, y_ = (x5_1 ++ [rd l1 x6_1]) := ⟨_, rfl⟩
       replace H : (platbookref03_Addr.l0 k1 a0 l1 y272 (wrap64 (x6_1 - 1))) = some (r1, r2, r3) := by first | (rw [hy272]; with_reducible exact H) | (have H2_ := (Option.bind_some _ _).symm.trans H; rw [hy272]; with_reducible exact H2_) | (have H2_ := (Option.bind_some _ _).symm.trans H; with_reducible exact H2_) | with_reducible exact H | (rw [hy272]; exact H) | exact H
       have Ny272 := Aside0.mk hy272
       clear hy272
       have H' := Aside0.mk H
       clear H
       have p271 : 0 ≤ (x6_1 : Int) := of_decide_eq_true (by first | (with_reducible assumption) | assumption)
       have q271 : x6_1 < (l1.length : Int) := of_decide_eq_true (by first | (with_reducible assumption) | assumption)
       obtain ⟨ad271, e271, hx271_0⟩ := Kd.at_int HR1.out x6_1 p271 q271
       cases e271
       replace hx271_0 := (HB.out.cell (World.block_lt_of_cell? w _ hx271_0)).trans hx271_0
       replace p271 := eq_true p271
       replace q271 := eq_true q271
       go_wp2_with (first | ((with_reducible refine gate_builtin (b := .append) (xs := #[.tmp 15, .tmp 20]) rfl ?_); at_builtin; refine Kd.R_append (Kd.int .i64) (w0 := w) w.heap.size rfl (.tmp 15) (.tmp 20) 52 3 (.int .i64 0) 8 rfl Tryz.underlying52 info3 rfl (by decide) (by omega) u5 x5_1 (rd l1 x6_1) [.int .i64 (rd l1 x6_1)] (fun _ => True) (fun _ => False) rfl rfl ?aP (fun _ hk => hk.elim) ?aF ?aO ?aB ?aS ?aL ?_; (case aP => exact rfl); (case aB => exact (pb_ HB)); (case aF => exact (fun _ _ => trivial)); (case aO => exact (by (with_reducible repeat (first | apply Kd.R_alloc | apply Kd.R_drewN | apply Kd.R_drew)); exact HO_5.out)); (case aS => exact (below_size (pb_ HB))); (case aL => have := LMc9.out; omega); intro v273 w10 ho hb hg hat; rw [← Ny272.out] at ho; have HO274 := Aside0.mk (ho); replace BK267 := Aside0.mk (blk_grown (g := gb267) (o := .cells #[.bool false, .int .u64 0, .int .u64 0] 26 (0, 0)) (pk_ BK267) hg (Kd.R_ne HO_5.out BK267.out (by decide))); replace HB := Aside0.mk (hb); clear HO_5; clear ho hb hg hat))
       go_roundg k1
       case measure => have := HK1.out; omega
       case rel => exact ⟨(y272), (wrap64 (x6_1 - 1)), (by first | rfl | (simp; done) | (simp [*]; done)), H', ⟨by have := HK1.out; omega⟩, ⟨by (with_reducible repeat (first | apply Kd.R_alloc | apply Kd.R_drewN | apply Kd.R_drew)); exact HO274.out⟩, ⟨by refine pw_ ?_; exact BK267.out⟩, ⟨pb_ HB⟩⟩
      ·
       rw [if_neg c9] at H
       exact absurd H (by simp)
     ·
      rw [if_neg c8] at H
      exact absurd H (by simp)
    ·
     rw [if_neg c7] at H
     exact absurd H (by simp)
   ·
    rw [if_neg c6] at H
    have c6b0 : decide (0 ≤ x6_1) = false := decide_eq_false c6
    clear c6
    replace H := Option.bind_eq_some_iff.mp H
    obtain ⟨⟨t275, t276⟩, A110, H⟩ := H
    replace H : (some (a0, t275, t276)) = some (r1, r2, r3) := H
    have A11 := Aside0.mk A110
    clear A110
    simp only [Option.some.injEq, Prod.mk.injEq] at H
    obtain ⟨rfl, rfl, rfl⟩ := H
    obtain ⟨Ao12, co12, eo12⟩ := Kd.R_slice HO_5.out
    subst eo12
    go_wp2_with (first | ((with_reducible refine gate_callee (f := 170) rfl ?_); refine gl_ (some 24) Tryz.func170 #[.slice Ao12 x5_1.length co12] ?_; (with_reducible refine (platbookref01_Num.calls k1 _ _ x5_1 t275 t276 _ ?side1 ?side2 A11.out).mono ?_); (case side1 => repeat (first | exact (Kd.R_reads' HO_5.out).2.2 | (with_reducible refine Kd.C_alloc ?_ _) | (with_reducible refine Kd.C_drewN ?_ _) | (with_reducible refine Kd.C_drew ?_))); (case side2 => exact (Kd.R_reads' HO_5.out).2.1); rintro e w13 ⟨rfl, hb⟩; refine ⟨_, rfl, ?_⟩; replace HO_5 := Aside0.mk (Kd.R_below (by (with_reducible repeat (first | apply Kd.R_alloc | apply Kd.R_drewN | apply Kd.R_drew)); exact HO_5.out) hb); replace BK267 := bb_ BK267 hb; replace HB := bs_ HB hb; (try clear hb); (try clear hb2); (try clear hk); (try clear hi); obtain ⟨hcz14_0, hcz14_1, hcz14_2, hfz14_0, hfz14_1, hfz14_2⟩ := c3_ BK267))
    refine bodyPost_ret (results_cell_row rfl _ _ gb267 26 #[.bool a0, .int .u64 t275, .int .u64 t276] (0, 0) _ rfl (by refine pw_ ?_; refine blk_put (cs := #[.bool a0, .int .u64 t275, .int .u64 0]) ?_ 2 _ rfl; refine pw_ ?_; refine blk_put (cs := #[.bool a0, .int .u64 0, .int .u64 0]) ?_ 1 _ rfl; refine pw_ ?_; refine blk_put (cs := #[.bool false, .int .u64 0, .int .u64 0]) ?_ 0 _ rfl; refine pw_ ?_; exact BK267.out) Tryz.underlying26 rfl (by kernel_rfl)) rfl ?_
    exact ⟨by first | rfl | (simp [errW_none, errW_some] <;> rfl) | (simp [*, errW_none, errW_some] <;> rfl), pb_ HB⟩

end Go.Proofs.YtpfilldnfpcpkaaGreatDoor.PPo

namespace Go.Proofs.YtpfilldnfpcpkaaGreatDoor.PPo
open Go.RowKit Go.Proofs.YtpfilldnfpcpkaaGreatDoorW.PrintWords Go.Proofs.YtpfilldnfpcpkaaGreatDoorW.PrintLast Go.Proofs.YtpfilldnfpcpkaaGreatDoorW.PrintMore
attribute [local go_sem] max2_int min2_int max_two min_two max_three min_three max_four min_four   -- for this text's walks alone

attribute [local go_sem high] eqA26
def platbookref03_Filled.l0 : Nat → Int → List Int → Int → Bool → Int → Int → Option (Bool × Int × Int)
 | 0, _, _, _, _, _, _ => none
 | k + 1, x2, x7, x8, x278000, x278001, x278002 => if x8 < (x7.length : Int) then (if 0 ≤ x8 then (platbookref03_Filled.l0 k x2 (x7.set (x8 : Int).toNat x2) (wrap64 (x8 + 1)) x278000 x278001 x278002) else (none)) else ((platbookref03_Addr.f k x278000 x7).bind fun bt283 => (some (bt283.1, bt283.2.1, bt283.2.2)))
def platbookref03_Filled.f (k : Nat) (a0_0 : Bool) (a0_1 : Int) (a0_2 : Int) (a1 : Int) (a2 : Int) : Option (Bool × Int × Int) := (platbookref03_Row.f k a0_0 a0_1 a0_2).bind fun t279 => (platbookref03_Filled.l0 k a2 t279 a1 a0_0 a0_1 a0_2)
set_option maxHeartbeats 8000000 in
set_option maxRecDepth 100000 in
theorem platbookref03_Filled.calls (k : Nat) (a0_0 : Bool) (a0_1 : Int) (a0_2 : Int) (a1 : Int) (a2 : Int) (r1 : Bool) (r2 : Int) (r3 : Int) (w : World) (h : platbookref03_Filled.f k a0_0 a0_1 a0_2 a1 a2 = some (r1, r2, r3)) :
  Calls Tryz.prog 108 #[.agg #[.bool a0_0, .int .u64 a0_1, .int .u64 a0_2], .int .i64 a1, .int .i64 a2] w fun e w' => e = .returned (.agg #[.bool r1, .int .u64 r2, .int .u64 r3]) ∧ Below w.heap.size w w' := by
 have hu26 := Tryz.underlying26
 have HB := Aside0.mk (Below.refl w.heap.size w)
 have H : ((platbookref03_Row.f k a0_0 a0_1 a0_2).bind fun t279 => (platbookref03_Filled.l0 k a2 t279 a1 a0_0 a0_1 a0_2)) = some (r1, r2, r3) := h
 clear h
 replace H := Option.bind_eq_some_iff.mp H
 obtain ⟨t279, A40, H⟩ := H
 replace H : (platbookref03_Filled.l0 k a2 t279 a1 a0_0 a0_1 a0_2) = some (r1, r2, r3) := H
 have A4 := Aside0.mk A40
 clear A40
 have H' := Aside0.mk H
 clear H
 go_enter Tryz.func108, Tryz.ntmps108
 go_wp2_with (first | ((with_reducible refine gate_dst (N := 3) rfl ?_); refine bx_ 3 #[.bool a0_0, .int .u64 a0_1, .int .u64 a0_2] 26 ?_; intro gb277 hg w5 hbox hb; have BK277 := Aside0.mk (hbox); have GW277 := gw_ HB hg; have GE277 := gw_ HB hg; replace HB := bs_ HB hb; clear hb hbox hg) | ((with_reducible refine gate_dst (N := 6) rfl ?_); refine bx_ 6 #[.bool false, .int .u64 0, .int .u64 0] 26 ?_; intro gb278 hg w6 hbox hb; have BK278 := Aside0.mk (hbox); have GW278 := gw_ HB hg; have GE278 := gw_ HB hg; have NB277_278 := nl_ BK277 hg; have NB278_277 := ng_ BK277 hg; replace BK277 := bb_ BK277 hb; replace HB := bs_ HB hb; clear hb hbox hg; have hnb7 := NB277_278.out; have hnc7 := NB278_277.out; obtain ⟨hcz8_0, hcz8_1, hcz8_2, hfz8_0, hfz8_1, hfz8_2⟩ := c3_ BK277) | ((with_reducible refine gate_callee (f := 107) rfl ?_); refine gl_ (some 10) Tryz.func107 #[.agg #[.bool a0_0, .int .u64 a0_1, .int .u64 a0_2]] ?_; (with_reducible refine (platbookref03_Row.calls k a0_0 a0_1 a0_2 t279 _ A4.out).mono ?_); rintro e w9 ⟨v280, rfl, ho0, hb⟩; refine ⟨_, rfl, ?_⟩; have HO281 := Aside0.mk (Kd.R_lower ho0 (below_size (pb_ HB))); replace BK277 := bb_ BK277 hb; replace BK278 := bb_ BK278 hb; replace HB := bs_ HB hb; (try clear hb); (try clear hb2); (try clear hk); (try clear hi); (try clear ho0)))
 go_loopg [8] k (fun kq v8 w' => ∃ (x7_1 : List Int) (x8_1 : Int), v8 = .int .i64 x8_1 ∧ Aside0 (platbookref03_Filled.l0 kq a2 x7_1 x8_1 a0_0 a0_1 a0_2 = some (r1, r2, r3)) ∧ Aside0 (kq ≤ k) ∧ Aside0 (Kd.R (Kd.int .i64) 3 w' w.heap.size (fun _ => True) v280 x7_1) ∧ Aside0 (w'.heap[gb277]? = some (.cells #[.bool a0_0, .int .u64 a0_1, .int .u64 a0_2] 26 (0, 0))) ∧ Aside0 (w'.heap[gb278]? = some (.cells #[.bool false, .int .u64 0, .int .u64 0] 26 (0, 0))) ∧ Aside0 (Below w.heap.size w w'))
 case atStart => exact ⟨(t279), (a1), (by first | rfl | (simp; done) | (simp [*]; done)), H', ⟨Nat.le_refl _⟩, ⟨by (with_reducible repeat (first | apply Kd.R_alloc | apply Kd.R_drewN | apply Kd.R_drew)); exact HO281.out⟩, ⟨by refine pw_ ?_; exact BK277.out⟩, ⟨by refine pw_ ?_; exact BK278.out⟩, ⟨pb_ HB⟩⟩
 case round =>
  clear H'
  try clear c1
  try clear p2
  try clear c7
  try clear hcz8_0
  try clear hcz8_1
  try clear hcz8_2
  try clear hfz8_0
  try clear hfz8_1
  try clear hfz8_2
  obtain ⟨x7_1, x8_1, rfl, HA, HK1, HO_7, BK277, BK278, HB⟩ := hrel
  cases gk with
  | zero => exact absurd HA.out (by simp [platbookref03_Filled.l0])
  | succ k1 =>
   have H := HA.out
   clear HA
   simp only [platbookref03_Filled.l0] at H
   by_cases c10 : x8_1 < (x7_1.length : Int)
   ·
    rw [if_pos c10] at H
    have c10b0 : decide (x8_1 < (x7_1.length : Int)) = true := decide_eq_true c10
    clear c10
    by_cases c11 : 0 ≤ x8_1
    ·
     rw [if_pos c11] at H
     have c11b0 : decide (0 ≤ x8_1) = true := decide_eq_true c11
     clear c11
     obtain ⟨y282, hy282⟩ : ∃ y_ : List Int, y_ = (x7_1.set (x8_1 : Int).toNat a2) := ⟨_, rfl⟩
     replace H : (platbookref03_Filled.l0 k1 a2 y282 (wrap64 (x8_1 + 1)) a0_0 a0_1 a0_2) = some (r1, r2, r3) := by first | (rw [hy282]; with_reducible exact H) | (have H2_ := (Option.bind_some _ _).symm.trans H; rw [hy282]; with_reducible exact H2_) | (have H2_ := (Option.bind_some _ _).symm.trans H; with_reducible exact H2_) | with_reducible exact H | (rw [hy282]; exact H) | exact H
     have Ny282 := Aside0.mk hy282
     clear hy282
     have H' := Aside0.mk H
     clear H
     obtain ⟨Ao13, co13, eo13⟩ := Kd.R_slice HO_7.out
     subst eo13
     have p12 : 0 ≤ (x8_1 : Int) := of_decide_eq_true (by first | (with_reducible assumption) | assumption)
     have q12 : (x8_1 : Int) < ((x7_1.length : Int) : Int) := of_decide_eq_true (by first | (with_reducible assumption) | assumption)
     obtain ⟨go12, co12, eo12, gb12, gl12, cl12, HG12⟩ := Kd.R_form HO_7.out (by omega)
     (first | cases eo12 | (injection eo12 with ea_ en_ ec_; (first | subst ea_ | (injection ea_ with ea_; subst ea_)); subst ec_; clear en_))
     have GB12 := Aside0.mk gb12
     have GG12 := Aside0.mk HG12
     clear gb12 gl12 HG12
     obtain ⟨hx12_0, hf12_0⟩ := Kd.R_celln 0 HO_7.out (x8_1 : Int) p12 q12
     replace p12 := eq_true p12
     replace q12 := eq_true q12
     have HP14 := Kd.R_putg HO_7.out (x8_1 : Int) a2
     go_wp2_with (first | ((with_reducible refine gate_store (t := 3) (p := 21) rfl ?_); refine store_event (t := 3) (p := 21) (v := ?vo_w15) (w1 := (wr.setCell ⟨go12, (x8_1 : Int).toNat, none⟩ (.int .i64 a2))) ?hg ?ho ?hn ?hr ?_; (case ho => rfl); (case hg => rfl); (case hn => rfl); (case hr => first | (go_simp; done) | (go_simp; rfl)); intro w15 hw; have hg : wr.grownBy w15 (some go12) := (by rw [hw]; exact HP14.2); have hp_ : Kd.R (Kd.int .i64) 3 w15 w.heap.size (fun _ => True) (.slice (some ⟨go12, 0, none⟩) x7_1.length co13) y282 := (by rw [hw, Ny282.out]; exact HP14.1); clear HP14; have n0_ := Aside0.mk (hp_); have n1_ := Aside0.mk (blk_grown (g := gb277) (o := .cells #[.bool a0_0, .int .u64 a0_1, .int .u64 a0_2] 26 (0, 0)) (pk_ BK277) hg (Kd.R_ne HO_7.out BK277.out (by decide))); have n2_ := Aside0.mk (blk_grown (g := gb278) (o := .cells #[.bool false, .int .u64 0, .int .u64 0] 26 (0, 0)) (pk_ BK278) hg (Kd.R_ne HO_7.out BK278.out (by decide))); have n3_ := Aside0.mk ((by rw [hw]; exact below_set (HB.out) GB12.out : Below w.heap.size w w15)); clear HO_7; clear BK277; clear BK278; clear HB; have HO_7 := n0_; have BK277 := n1_; have BK278 := n2_; have HB := n3_; clear n0_ n1_ n2_ n3_; clear hg hw hp_))
     go_roundg k1
     case measure => have := HK1.out; omega
     case rel => exact ⟨(y282), (wrap64 (x8_1 + 1)), (by first | rfl | (simp; done) | (simp [*]; done)), H', ⟨by have := HK1.out; omega⟩, ⟨by (with_reducible repeat (first | apply Kd.R_alloc | apply Kd.R_drewN | apply Kd.R_drew)); exact HO_7.out⟩, ⟨by refine pw_ ?_; exact BK277.out⟩, ⟨by refine pw_ ?_; exact BK278.out⟩, ⟨pb_ HB⟩⟩
    ·
     rw [if_neg c11] at H
     exact absurd H (by simp)
   ·
    rw [if_neg c10] at H
    have c10b0 : decide (x8_1 < (x7_1.length : Int)) = false := decide_eq_false c10
    clear c10
    replace H := Option.bind_eq_some_iff.mp H
    obtain ⟨⟨t283, t284, t285⟩, A160, H⟩ := H
    replace H : (some (t283, t284, t285)) = some (r1, r2, r3) := H
    have A16 := Aside0.mk A160
    clear A160
    simp only [Option.some.injEq, Prod.mk.injEq] at H
    obtain ⟨rfl, rfl, rfl⟩ := H
    obtain ⟨Ao17, co17, eo17⟩ := Kd.R_slice HO_7.out
    subst eo17
    have hnb18 := NB277_278.out
    have hnc18 := NB278_277.out
    obtain ⟨hcz19_0, hcz19_1, hcz19_2, hfz19_0, hfz19_1, hfz19_2⟩ := c3_ BK277
    go_wp2_with (first | ((with_reducible refine gate_callee (f := 146) rfl ?_); refine gl_ (some 25) Tryz.func146 #[.bool a0_0, .slice Ao17 x7_1.length co17] ?_; (with_reducible refine (platbookref03_Addr.calls k1 a0_0 _ _ x7_1 t283 t284 t285 _ ?side1 ?side2 A16.out).mono ?_); (case side1 => repeat (first | exact (Kd.R_reads' HO_7.out).2.2 | (with_reducible refine Kd.C_alloc ?_ _) | (with_reducible refine Kd.C_drewN ?_ _) | (with_reducible refine Kd.C_drew ?_))); (case side2 => exact (Kd.R_reads' HO_7.out).2.1); rintro e w20 ⟨rfl, hb⟩; refine ⟨_, rfl, ?_⟩; replace HO_7 := Aside0.mk (Kd.R_below (by (with_reducible repeat (first | apply Kd.R_alloc | apply Kd.R_drewN | apply Kd.R_drew)); exact HO_7.out) hb); replace BK277 := bb_ BK277 hb; replace BK278 := bb_ BK278 hb; replace HB := bs_ HB hb; (try clear hb); (try clear hb2); (try clear hk); (try clear hi); obtain ⟨hcz21_0, hcz21_1, hcz21_2, hfz21_0, hfz21_1, hfz21_2⟩ := c3_ BK278))
    refine bodyPost_ret (results_cell_row rfl _ _ gb278 26 #[.bool t283, .int .u64 t284, .int .u64 t285] (0, 0) _ rfl (by refine pw_ ?_; refine blk_put (cs := #[.bool t283, .int .u64 t284, .int .u64 0]) ?_ 2 _ rfl; refine pw_ ?_; refine blk_put (cs := #[.bool t283, .int .u64 0, .int .u64 0]) ?_ 1 _ rfl; refine pw_ ?_; refine blk_put (cs := #[.bool false, .int .u64 0, .int .u64 0]) ?_ 0 _ rfl; refine pw_ ?_; exact BK278.out) Tryz.underlying26 rfl (by kernel_rfl)) rfl ?_
    exact ⟨by first | rfl | (simp [errW_none, errW_some] <;> rfl) | (simp [*, errW_none, errW_some] <;> rfl), pb_ HB⟩

def platbookref03_Right.f (k : Nat) (a0_0 : Bool) (a0_1 : Int) (a0_2 : Int) (a0_3 : Int) : Option (Bool) := (platbookref02_Right.f a0_0 a0_1 a0_2).bind fun t287 => (if t287 = true then (if a0_3 < 0 then (some false) else ((platbookref02_Width.f a0_0 a0_1 a0_2).bind fun t288 => (if a0_3 > t288 then (some false) else ((platbookref03_Filled.f k a0_0 a0_1 a0_2 a0_3 0).bind fun bt289 => (some (bt289.1 == a0_0 && ((bt289.2.1 == a0_1 && (bt289.2.2 == a0_2))))))))) else (some false))
def platbookref03_Right.T1 : Bool × List (List Nat × List Nat) := (true, [([], []), ([0], [0]), ([1], [1]), ([2], [2]), ([3, 2], [3]), ([4], [4]), ([5, 4], [4, 5]), ([6, 4], [4, 6]), ([4, 7], [4, 7]), ([8, 4], [8]), ([9], [9]), ([10, 9], [9, 10]), ([9], [9]), ([12, 9], [9, 12]), ([13, 9, 9], [9, 13]), ([11, 14, 9], [9, 11, 14]), ([9, 15], [9, 15])])
def platbookref03_Right.B1 : List Nat := [0, 1, 3, 7, 15, 31, 63, 127, 255, 511, 1023, 2047, 1023, 5119, 13311, 32767, 65535]
theorem platbookref03_Right.tab1 : rtab .any (opsOf Tryz.f55 1) = platbookref03_Right.T1 := by kernel_rfl
theorem platbookref03_Right.bits1 : waitsOk platbookref03_Right.T1.2 platbookref03_Right.B1 = true := by kernel_rfl
def platbookref03_Right.T3 : Bool × List (List Nat × List Nat) := (true, [([], []), ([0], [0]), ([], []), ([2], [2]), ([1, 3], [1, 3]), ([], []), ([5], [5]), ([4, 6], [4, 6]), ([7, 4, 0, 1, 2, 3, 4, 5, 6, 7], [7])])
def platbookref03_Right.B3 : List Nat := [0, 1, 0, 4, 15, 0, 32, 127, 255]
theorem platbookref03_Right.tab3 : rtab .any (opsOf Tryz.f55 3) = platbookref03_Right.T3 := by kernel_rfl
theorem platbookref03_Right.bits3 : waitsOk platbookref03_Right.T3.2 platbookref03_Right.B3 = true := by kernel_rfl
set_option maxHeartbeats 8000000 in
set_option maxRecDepth 100000 in
theorem platbookref03_Right.calls (k : Nat) (a0_0 : Bool) (a0_1 : Int) (a0_2 : Int) (a0_3 : Int) (r : Bool) (w : World) (h : platbookref03_Right.f k a0_0 a0_1 a0_2 a0_3 = some r) :
  Calls Tryz.prog 55 #[.agg #[.bool a0_0, .int .u64 a0_1, .int .u64 a0_2, .int .i64 a0_3]] w fun e w' => e = .returned (.bool r) ∧ Below w.heap.size w w' := by
 have hu28 := Tryz.underlying28
 have hu26 := Tryz.underlying26
 have HB := Aside0.mk (Below.refl w.heap.size w)
 have H : ((platbookref02_Right.f a0_0 a0_1 a0_2).bind fun t287 => (if t287 = true then (if a0_3 < 0 then (some false) else ((platbookref02_Width.f a0_0 a0_1 a0_2).bind fun t288 => (if a0_3 > t288 then (some false) else ((platbookref03_Filled.f k a0_0 a0_1 a0_2 a0_3 0).bind fun bt289 => (some (bt289.1 == a0_0 && ((bt289.2.1 == a0_1 && (bt289.2.2 == a0_2))))))))) else (some false))) = some r := h
 clear h
 replace H := Option.bind_eq_some_iff.mp H
 obtain ⟨t287, A20, H⟩ := H
 replace H : (if t287 = true then (if a0_3 < 0 then (some false) else ((platbookref02_Width.f a0_0 a0_1 a0_2).bind fun t288 => (if a0_3 > t288 then (some false) else ((platbookref03_Filled.f k a0_0 a0_1 a0_2 a0_3 0).bind fun bt289 => (some (bt289.1 == a0_0 && ((bt289.2.1 == a0_1 && (bt289.2.2 == a0_2))))))))) else (some false)) = some r := H
 have A2 := Aside0.mk A20
 clear A20
 by_cases c3 : t287 = true
 ·
  subst c3
  rw [if_pos rfl] at H
  by_cases c4 : a0_3 < 0
  ·
   rw [if_pos c4] at H
   have c4b0 : decide (a0_3 < 0) = true := decide_eq_true c4
   clear c4
   obtain rfl := Option.some.inj H
   go_enter Tryz.func55, Tryz.ntmps55
   try go_wp2_with (first | ((with_reducible refine gate_dst (N := 1) rfl ?_); refine bx_ 1 #[.bool a0_0, .int .u64 a0_1, .int .u64 a0_2, .int .i64 a0_3] 28 ?_; intro gb286 hg w5 hbox hb; have BK286 := Aside0.mk (hbox); have GW286 := gw_ HB hg; have GE286 := gw_ HB hg; replace HB := bs_ HB hb; clear hb hbox hg))
   replace BK286 := Aside0.mk (blk_drew BK286.out)
   replace HB := Aside0.mk (below_drew1 HB.out)
   refine start_ (n := 17) (S := fun w' => w'.cell? ⟨gb286, 0, none⟩ = some (.bool a0_0) ∧ w'.cell? ⟨gb286, 1, none⟩ = some (.int .u64 a0_1) ∧ w'.cell? ⟨gb286, 2, none⟩ = some (.int .u64 a0_2) ∧ w'.cell? ⟨gb286, 3, none⟩ = some (.int .i64 a0_3)) (ds := []) (bm_ 17 0) (by kernel_rfl) rfl rfl ⟨kc_ BK286 0, kc_ BK286 1, kc_ BK286 2, kc_ BK286 3⟩ (fun hHeld => ?_); refine with_tabW platbookref03_Right.tab1 platbookref03_Right.bits1 (fun HT_ HW_ => ?_)
   generalize w5.drew = w6 at BK286 HB hHeld ⊢
   refine pu_ 0 (some 3) (bm_ 17 1) rfl HT_ ⟨by rfl, by intro w'; go_simp; with_reducible rfl⟩ ?_
   refine ta_ 1 (some 4) (bm_ 17 3) rfl HT_ HW_ ⟨by rfl, by rintro w' ⟨s0, s1, s2, s3⟩; go_simp; with_reducible rfl⟩ hHeld ?_
   refine one_ (i := 2) (N := some 5) (bm_ 17 7) rfl rfl (one_of HT_.out (by kernel_rfl)) (by decide) (fun K hK => ?_)
   refine gr_ Tryz.func105 #[.agg #[.bool a0_0, .int .u64 a0_1, .int .u64 a0_2]] ?_
   with_reducible refine (platbookref02_Right.calls a0_0 a0_1 a0_2 true _ A2.out).mono ?_
   rintro e w7 ⟨rfl, hb⟩
   refine ⟨_, rfl, ?_⟩
   replace BK286 := bb_ BK286 hb
   replace HB := bs_ HB hb
   (try clear hb)
   (try clear hb2)
   (try clear hk)
   (try clear hi)
   refine hK.out _ _ ⟨kc_ BK286 0, kc_ BK286 1, kc_ BK286 2, kc_ BK286 3⟩ (fun hHeld => ?_)
   clear hK K
   refine norm_ (a' := ?_) ?_ ?_
   rotate_left
   ·
    show Act.put _ (some 5) _ = _
    simp only [Act.put, List.setIfInBounds_toArray, List.set_cons_zero, List.set_cons_succ, i64_w, i32_w]
    rfl
   refine pu_ 3 (some 6) (bm_ 17 15) rfl HT_ ⟨by rfl, by intro w'; go_simp; with_reducible rfl⟩ ?_
   refine pu_ 4 (some 7) (bm_ 17 31) rfl HT_ ⟨by rfl, by intro w'; go_simp; with_reducible rfl⟩ ?_
   refine pu_ 5 (some 8) (bm_ 17 63) rfl HT_ ⟨by rfl, by intro w'; go_simp; with_reducible rfl⟩ ?_
   refine ta_ 6 (some 9) (bm_ 17 127) rfl HT_ HW_ ⟨by rfl, by rintro w' ⟨s0, s1, s2, s3⟩; go_simp; with_reducible rfl⟩ hHeld ?_
   refine pu_ 7 (some 10) (bm_ 17 255) rfl HT_ ⟨by rfl, by intro w'; go_simp; with_reducible rfl⟩ ?_
   refine pu_ 8 (some 11) (bm_ 17 511) rfl HT_ ⟨by rfl, by intro w'; go_simp; with_reducible rfl⟩ ?_
   refine pu_ 9 (some 12) (bm_ 17 1023) rfl HT_ ⟨by rfl, by intro w'; go_simp; with_reducible rfl⟩ ?_
   refine pure_ (i := 10) (N := some 13) (v := undef) (a' := ?_) (bm_ 17 2047) rfl rfl (any_of HT_.out (by kernel_rfl)) (fun _ _ _ h => h) (Or.inr ⟨by rfl, rfl⟩) ?_ ?_
   rotate_left
   ·
    simp only [Act.put, List.setIfInBounds_toArray, List.set_cons_zero, List.set_cons_succ, i64_w, i32_w]
    rfl
   refine pure_ (i := 11) (N := some 14) (v := undef) (a' := ?_) (bm_ 17 4095) rfl rfl (any_of HT_.out (by kernel_rfl)) (fun _ _ _ h => h) (Or.inr ⟨by rfl, rfl⟩) ?_ ?_
   rotate_left
   ·
    simp only [Act.put, List.setIfInBounds_toArray, List.set_cons_zero, List.set_cons_succ, i64_w, i32_w]
    rfl
   refine pure_ (i := 12) (N := some 15) (v := undef) (a' := ?_) (bm_ 17 8191) rfl rfl (any_of HT_.out (by kernel_rfl)) (fun _ _ _ h => h) (Or.inr ⟨by rfl, rfl⟩) ?_ ?_
   rotate_left
   ·
    simp only [Act.put, List.setIfInBounds_toArray, List.set_cons_zero, List.set_cons_succ, i64_w, i32_w]
    rfl
   refine pure_ (i := 13) (N := some 16) (v := undef) (a' := ?_) (bm_ 17 16383) rfl rfl (any_of HT_.out (by kernel_rfl)) (fun _ _ _ h => h) (Or.inr ⟨by rfl, rfl⟩) ?_ ?_
   rotate_left
   ·
    simp only [Act.put, List.setIfInBounds_toArray, List.set_cons_zero, List.set_cons_succ, i64_w, i32_w]
    rfl
   refine pure_ (i := 14) (N := some 17) (v := undef) (a' := ?_) (bm_ 17 32767) rfl rfl (any_of HT_.out (by kernel_rfl)) (fun _ _ _ h => h) (Or.inr ⟨by rfl, rfl⟩) ?_ ?_
   rotate_left
   ·
    simp only [Act.put, List.setIfInBounds_toArray, List.set_cons_zero, List.set_cons_succ, i64_w, i32_w]
    rfl
   refine pure_ (i := 15) (N := some 18) (v := undef) (a' := ?_) (bm_ 17 65535) rfl rfl (any_of HT_.out (by kernel_rfl)) (fun _ _ _ h => h) (Or.inr ⟨by rfl, rfl⟩) ?_ ?_
   rotate_left
   ·
    simp only [Act.put, List.setIfInBounds_toArray, List.set_cons_zero, List.set_cons_succ, i64_w, i32_w]
    rfl
   refine pu_ 16 (some 19) (bm_ 17 131071) rfl HT_ ⟨by rfl, by intro w'; go_simp; with_reducible rfl⟩ ?_
   refine done_ (done_of HT_.out (by kernel_rfl)) ?_
   try go_wp2
   go_ret
   exact ⟨by first | rfl | (simp [errW_none, errW_some] <;> rfl) | (simp [*, errW_none, errW_some] <;> rfl), pb_ HB⟩
  ·
   rw [if_neg c4] at H
   have c4b0 : decide (a0_3 < 0) = false := decide_eq_false c4
   clear c4
   replace H := Option.bind_eq_some_iff.mp H
   obtain ⟨t288, A80, H⟩ := H
   replace H : (if a0_3 > t288 then (some false) else ((platbookref03_Filled.f k a0_0 a0_1 a0_2 a0_3 0).bind fun bt289 => (some (bt289.1 == a0_0 && ((bt289.2.1 == a0_1 && (bt289.2.2 == a0_2))))))) = some r := H
   have A8 := Aside0.mk A80
   clear A80
   by_cases c9 : a0_3 > t288
   ·
    rw [if_pos c9] at H
    have c9b0 : decide (t288 < a0_3) = true := decide_eq_true c9
    clear c9
    obtain rfl := Option.some.inj H
    go_enter Tryz.func55, Tryz.ntmps55
    try go_wp2_with (first | ((with_reducible refine gate_dst (N := 1) rfl ?_); refine bx_ 1 #[.bool a0_0, .int .u64 a0_1, .int .u64 a0_2, .int .i64 a0_3] 28 ?_; intro gb286 hg w10 hbox hb; have BK286 := Aside0.mk (hbox); have GW286 := gw_ HB hg; have GE286 := gw_ HB hg; replace HB := bs_ HB hb; clear hb hbox hg))
    replace BK286 := Aside0.mk (blk_drew BK286.out)
    replace HB := Aside0.mk (below_drew1 HB.out)
    refine start_ (n := 17) (S := fun w' => w'.cell? ⟨gb286, 0, none⟩ = some (.bool a0_0) ∧ w'.cell? ⟨gb286, 1, none⟩ = some (.int .u64 a0_1) ∧ w'.cell? ⟨gb286, 2, none⟩ = some (.int .u64 a0_2) ∧ w'.cell? ⟨gb286, 3, none⟩ = some (.int .i64 a0_3)) (ds := []) (bm_ 17 0) (by kernel_rfl) rfl rfl ⟨kc_ BK286 0, kc_ BK286 1, kc_ BK286 2, kc_ BK286 3⟩ (fun hHeld => ?_); refine with_tabW platbookref03_Right.tab1 platbookref03_Right.bits1 (fun HT_ HW_ => ?_)
    generalize w10.drew = w11 at BK286 HB hHeld ⊢
    refine pu_ 0 (some 3) (bm_ 17 1) rfl HT_ ⟨by rfl, by intro w'; go_simp; with_reducible rfl⟩ ?_
    refine ta_ 1 (some 4) (bm_ 17 3) rfl HT_ HW_ ⟨by rfl, by rintro w' ⟨s0, s1, s2, s3⟩; go_simp; with_reducible rfl⟩ hHeld ?_
    refine one_ (i := 2) (N := some 5) (bm_ 17 7) rfl rfl (one_of HT_.out (by kernel_rfl)) (by decide) (fun K hK => ?_)
    refine gr_ Tryz.func105 #[.agg #[.bool a0_0, .int .u64 a0_1, .int .u64 a0_2]] ?_
    with_reducible refine (platbookref02_Right.calls a0_0 a0_1 a0_2 true _ A2.out).mono ?_
    rintro e w12 ⟨rfl, hb⟩
    refine ⟨_, rfl, ?_⟩
    replace BK286 := bb_ BK286 hb
    replace HB := bs_ HB hb
    (try clear hb)
    (try clear hb2)
    (try clear hk)
    (try clear hi)
    refine hK.out _ _ ⟨kc_ BK286 0, kc_ BK286 1, kc_ BK286 2, kc_ BK286 3⟩ (fun hHeld => ?_)
    clear hK K
    refine norm_ (a' := ?_) ?_ ?_
    rotate_left
    ·
     show Act.put _ (some 5) _ = _
     simp only [Act.put, List.setIfInBounds_toArray, List.set_cons_zero, List.set_cons_succ, i64_w, i32_w]
     rfl
    refine pu_ 3 (some 6) (bm_ 17 15) rfl HT_ ⟨by rfl, by intro w'; go_simp; with_reducible rfl⟩ ?_
    refine pu_ 4 (some 7) (bm_ 17 31) rfl HT_ ⟨by rfl, by intro w'; go_simp; with_reducible rfl⟩ ?_
    refine pu_ 5 (some 8) (bm_ 17 63) rfl HT_ ⟨by rfl, by intro w'; go_simp; with_reducible rfl⟩ ?_
    refine ta_ 6 (some 9) (bm_ 17 127) rfl HT_ HW_ ⟨by rfl, by rintro w' ⟨s0, s1, s2, s3⟩; go_simp; with_reducible rfl⟩ hHeld ?_
    refine pu_ 7 (some 10) (bm_ 17 255) rfl HT_ ⟨by rfl, by intro w'; go_simp; with_reducible rfl⟩ ?_
    refine pu_ 8 (some 11) (bm_ 17 511) rfl HT_ ⟨by rfl, by intro w'; go_simp; with_reducible rfl⟩ ?_
    refine pu_ 9 (some 12) (bm_ 17 1023) rfl HT_ ⟨by rfl, by intro w'; go_simp; with_reducible rfl⟩ ?_
    refine pu_ 10 (some 13) (bm_ 17 2047) rfl HT_ ⟨by rfl, by intro w'; go_simp; with_reducible rfl⟩ ?_
    refine pu_ 12 (some 15) (bm_ 17 6143) rfl HT_ ⟨by rfl, by intro w'; go_simp; with_reducible rfl⟩ ?_
    refine ta_ 11 (some 14) (bm_ 17 8191) rfl HT_ HW_ ⟨by rfl, by rintro w' ⟨s0, s1, s2, s3⟩; go_simp; with_reducible rfl⟩ hHeld ?_
    refine ta_ 13 (some 16) (bm_ 17 16383) rfl HT_ HW_ ⟨by rfl, by rintro w' ⟨s0, s1, s2, s3⟩; go_simp; with_reducible rfl⟩ hHeld ?_
    refine one_ (i := 14) (N := some 17) (bm_ 17 32767) rfl rfl (one_of HT_.out (by kernel_rfl)) (by decide) (fun K hK => ?_)
    refine gr_ Tryz.func67 #[.agg #[.bool a0_0, .int .u64 a0_1, .int .u64 a0_2]] ?_
    with_reducible refine (platbookref02_Width.calls a0_0 a0_1 a0_2 t288 _ A8.out).mono ?_
    rintro e w13 ⟨rfl, hb⟩
    refine ⟨_, rfl, ?_⟩
    replace BK286 := bb_ BK286 hb
    replace HB := bs_ HB hb
    (try clear hb)
    (try clear hb2)
    (try clear hk)
    (try clear hi)
    refine hK.out _ _ ⟨kc_ BK286 0, kc_ BK286 1, kc_ BK286 2, kc_ BK286 3⟩ (fun hHeld => ?_)
    clear hK K
    refine norm_ (a' := ?_) ?_ ?_
    rotate_left
    ·
     show Act.put _ (some 17) _ = _
     simp only [Act.put, List.setIfInBounds_toArray, List.set_cons_zero, List.set_cons_succ, i64_w, i32_w]
     rfl
    refine pu_ 15 (some 18) (bm_ 17 65535) rfl HT_ ⟨by rfl, by intro w'; go_simp; with_reducible rfl⟩ ?_
    refine pu_ 16 (some 19) (bm_ 17 131071) rfl HT_ ⟨by rfl, by intro w'; go_simp; with_reducible rfl⟩ ?_
    refine done_ (done_of HT_.out (by kernel_rfl)) ?_
    try go_wp2
    go_ret
    exact ⟨by first | rfl | (simp [errW_none, errW_some] <;> rfl) | (simp [*, errW_none, errW_some] <;> rfl), pb_ HB⟩
   ·
    rw [if_neg c9] at H
    have c9b0 : decide (t288 < a0_3) = false := decide_eq_false c9
    clear c9
    replace H := Option.bind_eq_some_iff.mp H
    obtain ⟨⟨t289, t290, t291⟩, A140, H⟩ := H
    replace H : (some (t289 == a0_0 && ((t290 == a0_1 && (t291 == a0_2))))) = some r := H
    have A14 := Aside0.mk A140
    clear A140
    obtain rfl := Option.some.inj H
    go_enter Tryz.func55, Tryz.ntmps55
    try go_wp2_with (first | ((with_reducible refine gate_dst (N := 1) rfl ?_); refine bx_ 1 #[.bool a0_0, .int .u64 a0_1, .int .u64 a0_2, .int .i64 a0_3] 28 ?_; intro gb286 hg w15 hbox hb; have BK286 := Aside0.mk (hbox); have GW286 := gw_ HB hg; have GE286 := gw_ HB hg; replace HB := bs_ HB hb; clear hb hbox hg))
    replace BK286 := Aside0.mk (blk_drew BK286.out)
    replace HB := Aside0.mk (below_drew1 HB.out)
    refine start_ (n := 17) (S := fun w' => w'.cell? ⟨gb286, 0, none⟩ = some (.bool a0_0) ∧ w'.cell? ⟨gb286, 1, none⟩ = some (.int .u64 a0_1) ∧ w'.cell? ⟨gb286, 2, none⟩ = some (.int .u64 a0_2) ∧ w'.cell? ⟨gb286, 3, none⟩ = some (.int .i64 a0_3)) (ds := []) (bm_ 17 0) (by kernel_rfl) rfl rfl ⟨kc_ BK286 0, kc_ BK286 1, kc_ BK286 2, kc_ BK286 3⟩ (fun hHeld => ?_); refine with_tabW platbookref03_Right.tab1 platbookref03_Right.bits1 (fun HT_ HW_ => ?_)
    generalize w15.drew = w16 at BK286 HB hHeld ⊢
    refine pu_ 0 (some 3) (bm_ 17 1) rfl HT_ ⟨by rfl, by intro w'; go_simp; with_reducible rfl⟩ ?_
    refine ta_ 1 (some 4) (bm_ 17 3) rfl HT_ HW_ ⟨by rfl, by rintro w' ⟨s0, s1, s2, s3⟩; go_simp; with_reducible rfl⟩ hHeld ?_
    refine one_ (i := 2) (N := some 5) (bm_ 17 7) rfl rfl (one_of HT_.out (by kernel_rfl)) (by decide) (fun K hK => ?_)
    refine gr_ Tryz.func105 #[.agg #[.bool a0_0, .int .u64 a0_1, .int .u64 a0_2]] ?_
    with_reducible refine (platbookref02_Right.calls a0_0 a0_1 a0_2 true _ A2.out).mono ?_
    rintro e w17 ⟨rfl, hb⟩
    refine ⟨_, rfl, ?_⟩
    replace BK286 := bb_ BK286 hb
    replace HB := bs_ HB hb
    (try clear hb)
    (try clear hb2)
    (try clear hk)
    (try clear hi)
    refine hK.out _ _ ⟨kc_ BK286 0, kc_ BK286 1, kc_ BK286 2, kc_ BK286 3⟩ (fun hHeld => ?_)
    clear hK K
    refine norm_ (a' := ?_) ?_ ?_
    rotate_left
    ·
     show Act.put _ (some 5) _ = _
     simp only [Act.put, List.setIfInBounds_toArray, List.set_cons_zero, List.set_cons_succ, i64_w, i32_w]
     rfl
    refine pu_ 3 (some 6) (bm_ 17 15) rfl HT_ ⟨by rfl, by intro w'; go_simp; with_reducible rfl⟩ ?_
    refine pu_ 4 (some 7) (bm_ 17 31) rfl HT_ ⟨by rfl, by intro w'; go_simp; with_reducible rfl⟩ ?_
    refine pu_ 5 (some 8) (bm_ 17 63) rfl HT_ ⟨by rfl, by intro w'; go_simp; with_reducible rfl⟩ ?_
    refine ta_ 6 (some 9) (bm_ 17 127) rfl HT_ HW_ ⟨by rfl, by rintro w' ⟨s0, s1, s2, s3⟩; go_simp; with_reducible rfl⟩ hHeld ?_
    refine pu_ 7 (some 10) (bm_ 17 255) rfl HT_ ⟨by rfl, by intro w'; go_simp; with_reducible rfl⟩ ?_
    refine pu_ 8 (some 11) (bm_ 17 511) rfl HT_ ⟨by rfl, by intro w'; go_simp; with_reducible rfl⟩ ?_
    refine pu_ 9 (some 12) (bm_ 17 1023) rfl HT_ ⟨by rfl, by intro w'; go_simp; with_reducible rfl⟩ ?_
    refine pu_ 10 (some 13) (bm_ 17 2047) rfl HT_ ⟨by rfl, by intro w'; go_simp; with_reducible rfl⟩ ?_
    refine pu_ 12 (some 15) (bm_ 17 6143) rfl HT_ ⟨by rfl, by intro w'; go_simp; with_reducible rfl⟩ ?_
    refine ta_ 11 (some 14) (bm_ 17 8191) rfl HT_ HW_ ⟨by rfl, by rintro w' ⟨s0, s1, s2, s3⟩; go_simp; with_reducible rfl⟩ hHeld ?_
    refine ta_ 13 (some 16) (bm_ 17 16383) rfl HT_ HW_ ⟨by rfl, by rintro w' ⟨s0, s1, s2, s3⟩; go_simp; with_reducible rfl⟩ hHeld ?_
    refine one_ (i := 14) (N := some 17) (bm_ 17 32767) rfl rfl (one_of HT_.out (by kernel_rfl)) (by decide) (fun K hK => ?_)
    refine gr_ Tryz.func67 #[.agg #[.bool a0_0, .int .u64 a0_1, .int .u64 a0_2]] ?_
    with_reducible refine (platbookref02_Width.calls a0_0 a0_1 a0_2 t288 _ A8.out).mono ?_
    rintro e w18 ⟨rfl, hb⟩
    refine ⟨_, rfl, ?_⟩
    replace BK286 := bb_ BK286 hb
    replace HB := bs_ HB hb
    (try clear hb)
    (try clear hb2)
    (try clear hk)
    (try clear hi)
    refine hK.out _ _ ⟨kc_ BK286 0, kc_ BK286 1, kc_ BK286 2, kc_ BK286 3⟩ (fun hHeld => ?_)
    clear hK K
    refine norm_ (a' := ?_) ?_ ?_
    rotate_left
    ·
     show Act.put _ (some 17) _ = _
     simp only [Act.put, List.setIfInBounds_toArray, List.set_cons_zero, List.set_cons_succ, i64_w, i32_w]
     rfl
    refine pu_ 15 (some 18) (bm_ 17 65535) rfl HT_ ⟨by rfl, by intro w'; go_simp; with_reducible rfl⟩ ?_
    refine pu_ 16 (some 19) (bm_ 17 131071) rfl HT_ ⟨by rfl, by intro w'; go_simp; with_reducible rfl⟩ ?_
    refine done_ (done_of HT_.out (by kernel_rfl)) ?_
    try go_wp2
    replace BK286 := Aside0.mk (blk_drew BK286.out)
    replace HB := Aside0.mk (below_drew1 HB.out)
    refine start_ (n := 9) (S := fun w' => w'.cell? ⟨gb286, 0, none⟩ = some (.bool a0_0) ∧ w'.cell? ⟨gb286, 1, none⟩ = some (.int .u64 a0_1) ∧ w'.cell? ⟨gb286, 2, none⟩ = some (.int .u64 a0_2) ∧ w'.cell? ⟨gb286, 3, none⟩ = some (.int .i64 a0_3)) (ds := []) (bm_ 9 0) (by kernel_rfl) rfl rfl ⟨kc_ BK286 0, kc_ BK286 1, kc_ BK286 2, kc_ BK286 3⟩ (fun hHeld => ?_); refine with_tabW platbookref03_Right.tab3 platbookref03_Right.bits3 (fun HT_ HW_ => ?_)
    generalize w18.drew = w19 at BK286 HB hHeld ⊢
    refine pu_ 0 (some 20) (bm_ 9 1) rfl HT_ ⟨by rfl, by intro w'; go_simp; with_reducible rfl⟩ ?_
    refine pu_ 2 (some 22) (bm_ 9 5) rfl HT_ ⟨by rfl, by intro w'; go_simp; with_reducible rfl⟩ ?_
    refine pu_ 5 (some 25) (bm_ 9 37) rfl HT_ ⟨by rfl, by intro w'; go_simp; with_reducible rfl⟩ ?_
    refine ta_ 1 (some 21) (bm_ 9 39) rfl HT_ HW_ ⟨by rfl, by rintro w' ⟨s0, s1, s2, s3⟩; go_simp; with_reducible rfl⟩ hHeld ?_
    refine ta_ 3 (some 23) (bm_ 9 47) rfl HT_ HW_ ⟨by rfl, by rintro w' ⟨s0, s1, s2, s3⟩; go_simp; with_reducible rfl⟩ hHeld ?_
    refine ta_ 6 (some 26) (bm_ 9 111) rfl HT_ HW_ ⟨by rfl, by rintro w' ⟨s0, s1, s2, s3⟩; go_simp; with_reducible rfl⟩ hHeld ?_
    refine one_ (i := 4) (N := some 24) (bm_ 9 127) rfl rfl (one_of HT_.out (by kernel_rfl)) (by decide) (fun K hK => ?_)
    refine gr_ Tryz.func108 #[.agg #[.bool a0_0, .int .u64 a0_1, .int .u64 a0_2], .int .i64 a0_3, .int .i64 0] ?_
    with_reducible refine (platbookref03_Filled.calls k a0_0 a0_1 a0_2 a0_3 0 t289 t290 t291 _ A14.out).mono ?_
    rintro e w20 ⟨rfl, hb⟩
    refine ⟨_, rfl, ?_⟩
    replace BK286 := bb_ BK286 hb
    replace HB := bs_ HB hb
    (try clear hb)
    (try clear hb2)
    (try clear hk)
    (try clear hi)
    refine hK.out _ _ ⟨kc_ BK286 0, kc_ BK286 1, kc_ BK286 2, kc_ BK286 3⟩ (fun hHeld => ?_)
    clear hK K
    refine norm_ (a' := ?_) ?_ ?_
    rotate_left
    ·
     show Act.put _ (some 24) _ = _
     simp only [Act.put, List.setIfInBounds_toArray, List.set_cons_zero, List.set_cons_succ, i64_w, i32_w]
     rfl
    refine pu_ 7 (some 27) (bm_ 9 255) rfl HT_ ⟨by rfl, by intro w'; go_simp; with_reducible rfl⟩ ?_
    refine pu_ 8 (some 2) (bm_ 9 511) rfl HT_ ⟨by rfl, by intro w'; go_simp; with_reducible rfl⟩ ?_
    refine done_ (done_of HT_.out (by kernel_rfl)) ?_
    try go_wp2
    go_ret
    exact ⟨by first | rfl | (simp [errW_none, errW_some] <;> rfl) | (simp [*, errW_none, errW_some] <;> rfl), pb_ HB⟩
 ·
  replace c3 := Bool.eq_false_iff.mpr c3
  subst c3
  have H1 : (some false) = some r := by rw [if_neg (show ¬ (false = true) by decide)] at H; exact H
  clear H
  have H := H1
  clear H1
  obtain rfl := Option.some.inj H
  go_enter Tryz.func55, Tryz.ntmps55
  try go_wp2_with (first | ((with_reducible refine gate_dst (N := 1) rfl ?_); refine bx_ 1 #[.bool a0_0, .int .u64 a0_1, .int .u64 a0_2, .int .i64 a0_3] 28 ?_; intro gb286 hg w21 hbox hb; have BK286 := Aside0.mk (hbox); have GW286 := gw_ HB hg; have GE286 := gw_ HB hg; replace HB := bs_ HB hb; clear hb hbox hg))
  replace BK286 := Aside0.mk (blk_drew BK286.out)
  replace HB := Aside0.mk (below_drew1 HB.out)
  refine start_ (n := 17) (S := fun w' => w'.cell? ⟨gb286, 0, none⟩ = some (.bool a0_0) ∧ w'.cell? ⟨gb286, 1, none⟩ = some (.int .u64 a0_1) ∧ w'.cell? ⟨gb286, 2, none⟩ = some (.int .u64 a0_2) ∧ w'.cell? ⟨gb286, 3, none⟩ = some (.int .i64 a0_3)) (ds := []) (bm_ 17 0) (by kernel_rfl) rfl rfl ⟨kc_ BK286 0, kc_ BK286 1, kc_ BK286 2, kc_ BK286 3⟩ (fun hHeld => ?_); refine with_tabW platbookref03_Right.tab1 platbookref03_Right.bits1 (fun HT_ HW_ => ?_)
  generalize w21.drew = w22 at BK286 HB hHeld ⊢
  refine pu_ 0 (some 3) (bm_ 17 1) rfl HT_ ⟨by rfl, by intro w'; go_simp; with_reducible rfl⟩ ?_
  refine ta_ 1 (some 4) (bm_ 17 3) rfl HT_ HW_ ⟨by rfl, by rintro w' ⟨s0, s1, s2, s3⟩; go_simp; with_reducible rfl⟩ hHeld ?_
  refine one_ (i := 2) (N := some 5) (bm_ 17 7) rfl rfl (one_of HT_.out (by kernel_rfl)) (by decide) (fun K hK => ?_)
  refine gr_ Tryz.func105 #[.agg #[.bool a0_0, .int .u64 a0_1, .int .u64 a0_2]] ?_
  with_reducible refine (platbookref02_Right.calls a0_0 a0_1 a0_2 false _ A2.out).mono ?_
  rintro e w23 ⟨rfl, hb⟩
  refine ⟨_, rfl, ?_⟩
  replace BK286 := bb_ BK286 hb
  replace HB := bs_ HB hb
  (try clear hb)
  (try clear hb2)
  (try clear hk)
  (try clear hi)
  refine hK.out _ _ ⟨kc_ BK286 0, kc_ BK286 1, kc_ BK286 2, kc_ BK286 3⟩ (fun hHeld => ?_)
  clear hK K
  refine norm_ (a' := ?_) ?_ ?_
  rotate_left
  ·
   show Act.put _ (some 5) _ = _
   simp only [Act.put, List.setIfInBounds_toArray, List.set_cons_zero, List.set_cons_succ, i64_w, i32_w]
   rfl
  refine pu_ 3 (some 6) (bm_ 17 15) rfl HT_ ⟨by rfl, by intro w'; go_simp; with_reducible rfl⟩ ?_
  refine pu_ 4 (some 7) (bm_ 17 31) rfl HT_ ⟨by rfl, by intro w'; go_simp; with_reducible rfl⟩ ?_
  refine pure_ (i := 5) (N := some 8) (v := undef) (a' := ?_) (bm_ 17 63) rfl rfl (any_of HT_.out (by kernel_rfl)) (fun _ _ _ h => h) (Or.inr ⟨by rfl, rfl⟩) ?_ ?_
  rotate_left
  ·
   simp only [Act.put, List.setIfInBounds_toArray, List.set_cons_zero, List.set_cons_succ, i64_w, i32_w]
   rfl
  refine pure_ (i := 6) (N := some 9) (v := undef) (a' := ?_) (bm_ 17 127) rfl rfl (any_of HT_.out (by kernel_rfl)) (fun _ _ _ h => h) (Or.inr ⟨by rfl, rfl⟩) ?_ ?_
  rotate_left
  ·
   simp only [Act.put, List.setIfInBounds_toArray, List.set_cons_zero, List.set_cons_succ, i64_w, i32_w]
   rfl
  refine pure_ (i := 7) (N := some 10) (v := undef) (a' := ?_) (bm_ 17 255) rfl rfl (any_of HT_.out (by kernel_rfl)) (fun _ _ _ h => h) (Or.inr ⟨by rfl, rfl⟩) ?_ ?_
  rotate_left
  ·
   simp only [Act.put, List.setIfInBounds_toArray, List.set_cons_zero, List.set_cons_succ, i64_w, i32_w]
   rfl
  refine pu_ 8 (some 11) (bm_ 17 511) rfl HT_ ⟨by rfl, by intro w'; go_simp; with_reducible rfl⟩ ?_
  refine pu_ 9 (some 12) (bm_ 17 1023) rfl HT_ ⟨by rfl, by intro w'; go_simp; with_reducible rfl⟩ ?_
  refine pure_ (i := 10) (N := some 13) (v := undef) (a' := ?_) (bm_ 17 2047) rfl rfl (any_of HT_.out (by kernel_rfl)) (fun _ _ _ h => h) (Or.inr ⟨by rfl, rfl⟩) ?_ ?_
  rotate_left
  ·
   simp only [Act.put, List.setIfInBounds_toArray, List.set_cons_zero, List.set_cons_succ, i64_w, i32_w]
   rfl
  refine pure_ (i := 11) (N := some 14) (v := undef) (a' := ?_) (bm_ 17 4095) rfl rfl (any_of HT_.out (by kernel_rfl)) (fun _ _ _ h => h) (Or.inr ⟨by rfl, rfl⟩) ?_ ?_
  rotate_left
  ·
   simp only [Act.put, List.setIfInBounds_toArray, List.set_cons_zero, List.set_cons_succ, i64_w, i32_w]
   rfl
  refine pure_ (i := 12) (N := some 15) (v := undef) (a' := ?_) (bm_ 17 8191) rfl rfl (any_of HT_.out (by kernel_rfl)) (fun _ _ _ h => h) (Or.inr ⟨by rfl, rfl⟩) ?_ ?_
  rotate_left
  ·
   simp only [Act.put, List.setIfInBounds_toArray, List.set_cons_zero, List.set_cons_succ, i64_w, i32_w]
   rfl
  refine pure_ (i := 13) (N := some 16) (v := undef) (a' := ?_) (bm_ 17 16383) rfl rfl (any_of HT_.out (by kernel_rfl)) (fun _ _ _ h => h) (Or.inr ⟨by rfl, rfl⟩) ?_ ?_
  rotate_left
  ·
   simp only [Act.put, List.setIfInBounds_toArray, List.set_cons_zero, List.set_cons_succ, i64_w, i32_w]
   rfl
  refine pure_ (i := 14) (N := some 17) (v := undef) (a' := ?_) (bm_ 17 32767) rfl rfl (any_of HT_.out (by kernel_rfl)) (fun _ _ _ h => h) (Or.inr ⟨by rfl, rfl⟩) ?_ ?_
  rotate_left
  ·
   simp only [Act.put, List.setIfInBounds_toArray, List.set_cons_zero, List.set_cons_succ, i64_w, i32_w]
   rfl
  refine pure_ (i := 15) (N := some 18) (v := undef) (a' := ?_) (bm_ 17 65535) rfl rfl (any_of HT_.out (by kernel_rfl)) (fun _ _ _ h => h) (Or.inr ⟨by rfl, rfl⟩) ?_ ?_
  rotate_left
  ·
   simp only [Act.put, List.setIfInBounds_toArray, List.set_cons_zero, List.set_cons_succ, i64_w, i32_w]
   rfl
  refine pu_ 16 (some 19) (bm_ 17 131071) rfl HT_ ⟨by rfl, by intro w'; go_simp; with_reducible rfl⟩ ?_
  refine done_ (done_of HT_.out (by kernel_rfl)) ?_
  try go_wp2
  go_ret
  exact ⟨by first | rfl | (simp [errW_none, errW_some] <;> rfl) | (simp [*, errW_none, errW_some] <;> rfl), pb_ HB⟩

end Go.Proofs.YtpfilldnfpcpkaaGreatDoor.PPo

namespace Go.Proofs.YtpfilldnfpcpkaaGreatDoor.PPo
open Go.RowKit Go.Proofs.YtpfilldnfpcpkaaGreatDoorW.PrintWords Go.Proofs.YtpfilldnfpcpkaaGreatDoorW.PrintLast Go.Proofs.YtpfilldnfpcpkaaGreatDoorW.PrintMore
attribute [local go_sem] max2_int min2_int max_two min_two max_three min_three max_four min_four   -- for this text's walks alone

def platbookref04_Cuts.f (k : Nat) (a0_0 : Bool) (a0_1 : Int) (a0_2 : Int) (a0_3 : Int) (a1 : Int) : Option (Bool) := (platbookref03_Right.f k a0_0 a0_1 a0_2 a0_3).bind fun t340 => (if t340 = true then (if a1 ≥ a0_3 then ((platbookref02_Width.f a0_0 a0_1 a0_2).bind fun t341 => (some (decide (a1 ≤ t341)))) else (some false)) else (some false))
set_option maxHeartbeats 8000000 in
set_option maxRecDepth 100000 in
theorem platbookref04_Cuts.calls (k : Nat) (a0_0 : Bool) (a0_1 : Int) (a0_2 : Int) (a0_3 : Int) (a1 : Int) (r : Bool) (w : World) (h : platbookref04_Cuts.f k a0_0 a0_1 a0_2 a0_3 a1 = some r) :
  Calls Tryz.prog 54 #[.agg #[.bool a0_0, .int .u64 a0_1, .int .u64 a0_2, .int .i64 a0_3], .int .i64 a1] w fun e w' => e = .returned (.bool r) ∧ Below w.heap.size w w' := by
 have hu28 := Tryz.underlying28
 have hu26 := Tryz.underlying26
 have HB := Aside0.mk (Below.refl w.heap.size w)
 have H : ((platbookref03_Right.f k a0_0 a0_1 a0_2 a0_3).bind fun t340 => (if t340 = true then (if a1 ≥ a0_3 then ((platbookref02_Width.f a0_0 a0_1 a0_2).bind fun t341 => (some (decide (a1 ≤ t341)))) else (some false)) else (some false))) = some r := h
 clear h
 replace H := Option.bind_eq_some_iff.mp H
 obtain ⟨t340, A30, H⟩ := H
 replace H : (if t340 = true then (if a1 ≥ a0_3 then ((platbookref02_Width.f a0_0 a0_1 a0_2).bind fun t341 => (some (decide (a1 ≤ t341)))) else (some false)) else (some false)) = some r := H
 have A3 := Aside0.mk A30
 clear A30
 by_cases c4 : t340 = true
 ·
  subst c4
  rw [if_pos rfl] at H
  by_cases c5 : a1 ≥ a0_3
  ·
   rw [if_pos c5] at H
   have c5b0 : decide (a0_3 ≤ a1) = true := decide_eq_true c5
   clear c5
   replace H := Option.bind_eq_some_iff.mp H
   obtain ⟨t341, A60, H⟩ := H
   replace H : (some (decide (a1 ≤ t341))) = some r := H
   have A6 := Aside0.mk A60
   clear A60
   obtain rfl := Option.some.inj H
   go_enter Tryz.func54, Tryz.ntmps54
   go_wp2_with (first | ((with_reducible refine gate_dst (N := 2) rfl ?_); refine bx_ 2 #[.bool a0_0, .int .u64 a0_1, .int .u64 a0_2, .int .i64 a0_3] 28 ?_; intro gb339 hg w7 hbox hb; have BK339 := Aside0.mk (hbox); have GW339 := gw_ HB hg; have GE339 := gw_ HB hg; replace HB := bs_ HB hb; clear hb hbox hg; obtain ⟨hcz8_0, hcz8_1, hcz8_2, hcz8_3, hfz8_0, hfz8_1, hfz8_2, hfz8_3⟩ := c4_ BK339) | ((with_reducible refine gate_callee (f := 55) rfl ?_); refine gl_ (some 6) Tryz.func55 #[.agg #[.bool a0_0, .int .u64 a0_1, .int .u64 a0_2, .int .i64 a0_3]] ?_; (with_reducible refine (platbookref03_Right.calls k a0_0 a0_1 a0_2 a0_3 true _ A3.out).mono ?_); rintro e w9 ⟨rfl, hb⟩; refine ⟨_, rfl, ?_⟩; replace BK339 := bb_ BK339 hb; replace HB := bs_ HB hb; (try clear hb); (try clear hb2); (try clear hk); (try clear hi); obtain ⟨hcz10_0, hcz10_1, hcz10_2, hcz10_3, hfz10_0, hfz10_1, hfz10_2, hfz10_3⟩ := c4_ BK339) | (go_at_call 67; (with_reducible refine (platbookref02_Width.calls a0_0 a0_1 a0_2 t341 _ A6.out).mono ?_); rintro e w11 ⟨rfl, hb⟩; replace BK339 := bb_ BK339 hb; replace HB := bs_ HB hb; (try clear hb); (try clear hb2); (try clear hk); (try clear hi)))
   go_ret
   exact ⟨by first | rfl | (simp [errW_none, errW_some] <;> rfl) | (simp [*, errW_none, errW_some] <;> rfl), pb_ HB⟩
  ·
   rw [if_neg c5] at H
   have c5b0 : decide (a0_3 ≤ a1) = false := decide_eq_false c5
   clear c5
   obtain rfl := Option.some.inj H
   go_enter Tryz.func54, Tryz.ntmps54
   go_wp2_with (first | ((with_reducible refine gate_dst (N := 2) rfl ?_); refine bx_ 2 #[.bool a0_0, .int .u64 a0_1, .int .u64 a0_2, .int .i64 a0_3] 28 ?_; intro gb339 hg w12 hbox hb; have BK339 := Aside0.mk (hbox); have GW339 := gw_ HB hg; have GE339 := gw_ HB hg; replace HB := bs_ HB hb; clear hb hbox hg; obtain ⟨hcz13_0, hcz13_1, hcz13_2, hcz13_3, hfz13_0, hfz13_1, hfz13_2, hfz13_3⟩ := c4_ BK339) | ((with_reducible refine gate_callee (f := 55) rfl ?_); refine gl_ (some 6) Tryz.func55 #[.agg #[.bool a0_0, .int .u64 a0_1, .int .u64 a0_2, .int .i64 a0_3]] ?_; (with_reducible refine (platbookref03_Right.calls k a0_0 a0_1 a0_2 a0_3 true _ A3.out).mono ?_); rintro e w14 ⟨rfl, hb⟩; refine ⟨_, rfl, ?_⟩; replace BK339 := bb_ BK339 hb; replace HB := bs_ HB hb; (try clear hb); (try clear hb2); (try clear hk); (try clear hi); obtain ⟨hcz15_0, hcz15_1, hcz15_2, hcz15_3, hfz15_0, hfz15_1, hfz15_2, hfz15_3⟩ := c4_ BK339))
   go_ret
   exact ⟨by first | rfl | (simp [errW_none, errW_some] <;> rfl) | (simp [*, errW_none, errW_some] <;> rfl), pb_ HB⟩
 ·
  replace c4 := Bool.eq_false_iff.mpr c4
  subst c4
  have H1 : (some false) = some r := by rw [if_neg (show ¬ (false = true) by decide)] at H; exact H
  clear H
  have H := H1
  clear H1
  obtain rfl := Option.some.inj H
  go_enter Tryz.func54, Tryz.ntmps54
  go_wp2_with (first | ((with_reducible refine gate_dst (N := 2) rfl ?_); refine bx_ 2 #[.bool a0_0, .int .u64 a0_1, .int .u64 a0_2, .int .i64 a0_3] 28 ?_; intro gb339 hg w16 hbox hb; have BK339 := Aside0.mk (hbox); have GW339 := gw_ HB hg; have GE339 := gw_ HB hg; replace HB := bs_ HB hb; clear hb hbox hg; obtain ⟨hcz17_0, hcz17_1, hcz17_2, hcz17_3, hfz17_0, hfz17_1, hfz17_2, hfz17_3⟩ := c4_ BK339) | ((with_reducible refine gate_callee (f := 55) rfl ?_); refine gl_ (some 6) Tryz.func55 #[.agg #[.bool a0_0, .int .u64 a0_1, .int .u64 a0_2, .int .i64 a0_3]] ?_; (with_reducible refine (platbookref03_Right.calls k a0_0 a0_1 a0_2 a0_3 false _ A3.out).mono ?_); rintro e w18 ⟨rfl, hb⟩; refine ⟨_, rfl, ?_⟩; replace BK339 := bb_ BK339 hb; replace HB := bs_ HB hb; (try clear hb); (try clear hb2); (try clear hk); (try clear hi)))
  go_ret
  exact ⟨by first | rfl | (simp [errW_none, errW_some] <;> rfl) | (simp [*, errW_none, errW_some] <;> rfl), pb_ HB⟩

end Go.Proofs.YtpfilldnfpcpkaaGreatDoor.PPo

namespace Go.Proofs.YtpfilldnfpcpkaaGreatDoor.PPo
open Go.RowKit Go.Proofs.YtpfilldnfpcpkaaGreatDoorW.PrintWords Go.Proofs.YtpfilldnfpcpkaaGreatDoorW.PrintLast Go.Proofs.YtpfilldnfpcpkaaGreatDoorW.PrintMore
attribute [local go_sem] max2_int min2_int max_two min_two max_three min_three max_four min_four   -- for this text's walks alone

attribute [local go_sem high] eqA28
def platbooklaw07_small.f (k : Nat) (a0_0 : Bool) (a0_1 : Int) (a0_2 : Int) (a0_3 : Int) (a1 : Int) : Option (Bool) := (platbookref04_Cuts.f k a0_0 a0_1 a0_2 a0_3 a1).bind fun t389 => (if t389 = true then (some (decide ((wrap64 (a1 - a0_3)) ≤ 8))) else (some false))
set_option maxHeartbeats 8000000 in
set_option maxRecDepth 100000 in
theorem platbooklaw07_small.calls (k : Nat) (a0_0 : Bool) (a0_1 : Int) (a0_2 : Int) (a0_3 : Int) (a1 : Int) (r : Bool) (w : World) (h : platbooklaw07_small.f k a0_0 a0_1 a0_2 a0_3 a1 = some r) :
  Calls Tryz.prog 36 #[.agg #[.bool a0_0, .int .u64 a0_1, .int .u64 a0_2, .int .i64 a0_3], .int .i64 a1] w fun e w' => e = .returned (.bool r) ∧ Below w.heap.size w w' := by
 have hu28 := Tryz.underlying28
 have HB := Aside0.mk (Below.refl w.heap.size w)
 have H : ((platbookref04_Cuts.f k a0_0 a0_1 a0_2 a0_3 a1).bind fun t389 => (if t389 = true then (some (decide ((wrap64 (a1 - a0_3)) ≤ 8))) else (some false))) = some r := h
 clear h
 replace H := Option.bind_eq_some_iff.mp H
 obtain ⟨t389, A30, H⟩ := H
 replace H : (if t389 = true then (some (decide ((wrap64 (a1 - a0_3)) ≤ 8))) else (some false)) = some r := H
 have A3 := Aside0.mk A30
 clear A30
 by_cases c4 : t389 = true
 ·
  subst c4
  rw [if_pos rfl] at H
  obtain rfl := Option.some.inj H
  go_enter Tryz.func36, Tryz.ntmps36
  go_wp2_with (first | ((with_reducible refine gate_dst (N := 2) rfl ?_); refine bx_ 2 #[.bool a0_0, .int .u64 a0_1, .int .u64 a0_2, .int .i64 a0_3] 28 ?_; intro gb388 hg w5 hbox hb; have BK388 := Aside0.mk (hbox); have GW388 := gw_ HB hg; have GE388 := gw_ HB hg; replace HB := bs_ HB hb; clear hb hbox hg; obtain ⟨hcz6_0, hcz6_1, hcz6_2, hcz6_3, hfz6_0, hfz6_1, hfz6_2, hfz6_3⟩ := c4_ BK388) | ((with_reducible refine gate_callee (f := 54) rfl ?_); refine gl_ (some 7) Tryz.func54 #[.agg #[.bool a0_0, .int .u64 a0_1, .int .u64 a0_2, .int .i64 a0_3], .int .i64 a1] ?_; (with_reducible refine (platbookref04_Cuts.calls k a0_0 a0_1 a0_2 a0_3 a1 true _ A3.out).mono ?_); rintro e w7 ⟨rfl, hb⟩; refine ⟨_, rfl, ?_⟩; replace BK388 := bb_ BK388 hb; replace HB := bs_ HB hb; (try clear hb); (try clear hb2); (try clear hk); (try clear hi); obtain ⟨hcz8_0, hcz8_1, hcz8_2, hcz8_3, hfz8_0, hfz8_1, hfz8_2, hfz8_3⟩ := c4_ BK388))
  go_ret
  exact ⟨by first | rfl | (simp [errW_none, errW_some] <;> rfl) | (simp [*, errW_none, errW_some] <;> rfl), pb_ HB⟩
 ·
  replace c4 := Bool.eq_false_iff.mpr c4
  subst c4
  have H1 : (some false) = some r := by rw [if_neg (show ¬ (false = true) by decide)] at H; exact H
  clear H
  have H := H1
  clear H1
  obtain rfl := Option.some.inj H
  go_enter Tryz.func36, Tryz.ntmps36
  go_wp2_with (first | ((with_reducible refine gate_dst (N := 2) rfl ?_); refine bx_ 2 #[.bool a0_0, .int .u64 a0_1, .int .u64 a0_2, .int .i64 a0_3] 28 ?_; intro gb388 hg w9 hbox hb; have BK388 := Aside0.mk (hbox); have GW388 := gw_ HB hg; have GE388 := gw_ HB hg; replace HB := bs_ HB hb; clear hb hbox hg; obtain ⟨hcz10_0, hcz10_1, hcz10_2, hcz10_3, hfz10_0, hfz10_1, hfz10_2, hfz10_3⟩ := c4_ BK388) | ((with_reducible refine gate_callee (f := 54) rfl ?_); refine gl_ (some 7) Tryz.func54 #[.agg #[.bool a0_0, .int .u64 a0_1, .int .u64 a0_2, .int .i64 a0_3], .int .i64 a1] ?_; (with_reducible refine (platbookref04_Cuts.calls k a0_0 a0_1 a0_2 a0_3 a1 false _ A3.out).mono ?_); rintro e w11 ⟨rfl, hb⟩; refine ⟨_, rfl, ?_⟩; replace BK388 := bb_ BK388 hb; replace HB := bs_ HB hb; (try clear hb); (try clear hb2); (try clear hk); (try clear hi)))
  go_ret
  exact ⟨by first | rfl | (simp [errW_none, errW_some] <;> rfl) | (simp [*, errW_none, errW_some] <;> rfl), pb_ HB⟩

end Go.Proofs.YtpfilldnfpcpkaaGreatDoor.PPo

namespace Go.Proofs.YtpfilldnfpcpkaaGreatDoor

theorem upd_same (f : Nat → Bool) (i : Nat) (b : Bool) : upd f i b i = b := by simp [upd]
theorem cnt_all {f : Nat → Bool} {a : Nat} : ∀ {n}, (∀ x, a ≤ x → x < a + n → f x = true) → cnt f a n = n
  | 0, _ => rfl
  | n + 1, h => by rw [cnt, cnt_all (n := n) fun x h1 h2 => h x h1 (by omega), h (a + n) (by omega) (by omega)]; rfl
end Go.Proofs.YtpfilldnfpcpkaaGreatDoor

namespace Go.Proofs.YtpfilldnfpcpkaaGreatDoor
open Go.RowKit

theorem count_words (g c n : Nat) (f : Nat → Bool) (w : World) (h : MapAt w g c n f) :
    Calls Tryz.prog 73 #[.pointer (some ⟨g, 0, none⟩)] w fun e w' => e = .returned (.int .i64 (cnt f 0 (64 * ((n + 63) / 64)))) ∧ w = w' := by
  have h1 := h.words
  have hs := h.small
  have hw : ∀ k, k < (n + 63) / 64 → w.cell? ⟨c, k, none⟩ = some (.int .u64 (W f k : Nat)) := fun k hk => h.word hk
  have HW := Lib.hid hw
  clear hw
  generalize hK : (n + 63) / 64 = K at *
  have hK2 : K ≤ 1024 := by omega
  clear hK
  go_enter Tryz.func73, Tryz.ntmps73
  go_wp2_with fail
  go_loop [3, 13] (fun s i => ∃ k : Nat, k ≤ K ∧ i = .int .i64 k ∧ s = .int .i64 (cnt f 0 (64 * k) : Nat)) (fun _ i => K - (intOf i).toNat)
  case atStart => exact ⟨0, by omega, rfl, rfl⟩
  case round =>
    obtain ⟨k, hk, rfl, rfl⟩ := hrel
    by_cases hlt : k < K
    · have hc := HW.out k hlt
      have hb := cnt_le f 0 (64 * k)
      have hb2 := cnt_le f (64 * k) 64
      have hj : cnt f 0 (64 * (k + 1)) = cnt f 0 (64 * k) + cnt f (64 * k) 64 := by
        rw [show 64 * (k + 1) = 64 * k + 64 from by omega, cnt_join, Nat.zero_add]
      have HJ := Lib.hid hj
      clear hj
      have dk : decide (k < K) = true := decide_eq_true hlt
      go_wp2_with fail
      refine (bones_c f k _).mono ?_
      rintro e w' ⟨rfl, rfl⟩
      go_wp2_with fail
      go_round
      case rel => exact ⟨k + 1, by omega, by go_num, by rw [HJ.out]; go_num⟩
      case measure => simp [intOf]; omega
    · have dk : decide (k < K) = false := decide_eq_false hlt
      obtain rfl : k = K := by omega
      go_wp2_with fail
      go_ret
      exact ⟨rfl, rfl⟩

end Go.Proofs.YtpfilldnfpcpkaaGreatDoor

namespace Go.Proofs.YtpfilldnfpcpkaaGreatDoor
open Go.RowKit

theorem boolsV_get (f : Nat → Bool) {n k : Nat} (h : k < n) : (boolsV f n).toArray[k]? = some (.bool (f k)) := by simp [boolsV, h]
theorem RefAt.bit {w : World} {g c n : Nat} {f : Nat → Bool} (h : RefAt w g c n f) {k : Nat} (hk : k < n) : w.cell? ⟨c, k, none⟩ = some (.bool (f k)) := (h.row.cell k).trans (boolsV_get f hk)
end Go.Proofs.YtpfilldnfpcpkaaGreatDoor

namespace Go.Proofs.YtpfilldnfpcpkaaGreatDoor
open Go.RowKit Go.Proofs.YtpfilldnfpcpkaaGreatDoorW.PrintWords Go.Proofs.YtpfilldnfpcpkaaGreatDoor.PPo

/-- the lowest d bits, the lowest one first -/
def rowL : Nat → Nat → List Int
  | _, 0 => []
  | x, d + 1 => ((x % 2 : Nat) : Int) :: rowL (x / 2) d
theorem rowL_succ (x d : Nat) : rowL x (d + 1) = ((x % 2 : Nat) : Int) :: rowL (x / 2) d := rfl
theorem bit_nat {b : Int} (h : b = 0 ∨ b = 1) : ∃ c : Nat, b = (c : Int) ∧ c ≤ 1 := by
  rcases h with rfl | rfl
  · exact ⟨0, rfl, by omega⟩
  · exact ⟨1, rfl, by omega⟩
theorem rowL_len : ∀ (d x : Nat), (rowL x d).length = d
  | 0, _ => rfl
  | d + 1, x => by simp [rowL, rowL_len d]
theorem rowL_add : ∀ (a b x : Nat), rowL x (a + b) = rowL x a ++ rowL (x / 2 ^ a) b
  | 0, b, x => by simp [rowL]
  | a + 1, b, x => by
    rw [show a + 1 + b = (a + b) + 1 by omega, rowL, rowL_add a b, rowL, List.cons_append, Nat.div_div_eq_div_mul, Nat.pow_succ, Nat.mul_comm 2]
theorem rowL_mod : ∀ (a h l : Nat), rowL (h * 2 ^ a + l) a = rowL l a
  | 0, _, _ => rfl
  | a + 1, h, l => by
    have e : h * 2 ^ (a + 1) = 2 * (h * 2 ^ a) := by rw [Nat.pow_succ]; rw [← Nat.mul_assoc, Nat.mul_comm 2]
    rw [rowL, rowL, show (h * 2 ^ (a + 1) + l) % 2 = l % 2 by omega, show (h * 2 ^ (a + 1) + l) / 2 = h * 2 ^ a + l / 2 by omega, rowL_mod a h]
theorem rowL_join {a b h l : Nat} (hl : l < 2 ^ a) : rowL (h * 2 ^ a + l) (a + b) = rowL l a ++ rowL h b := by
  rw [rowL_add, rowL_mod]
  congr 2
  rw [Nat.mul_comm, Nat.mul_add_div (Nat.two_pow_pos a), Nat.div_eq_of_lt hl, Nat.add_zero]
theorem rowL_bit : ∀ (d x : Nat), ∀ b ∈ rowL x d, b = 0 ∨ b = 1
  | 0, _, b, h => by cases h
  | d + 1, x, b, h => by
    rw [rowL] at h
    rcases List.mem_cons.1 h with rfl | h
    · omega
    · exact rowL_bit d (x / 2) b h
theorem tmod2 (x : Nat) : wrap64 (Int.tmod (x : Int) 2) = ((x % 2 : Nat) : Int) := by
  rw [Int.tmod_eq_emod_of_nonneg (by omega)]; unfold wrap64; omega
theorem tdiv2 (x : Nat) (h : x < 18446744073709551616) : IntKind.u64.wrap (Int.tdiv (x : Int) 2) = ((x / 2 : Nat) : Int) := by
  rw [Int.tdiv_eq_ediv_of_nonneg (by omega)]
  show ((x : Int) / 2) % 18446744073709551616 = _
  omega
theorem pbits_l1 (d : Nat) : ∀ (k : Nat) (acc : List Int) (x : Nat), d ≤ 64 → x < 18446744073709551616 → acc.length + d ≤ 1000 → platbookref01_Bits.l1 (k + d + 1) acc x (64 - (d : Int)) = some (acc ++ rowL x d) := by
  induction d with
  | zero => intro k acc x _ _ _; rw [platbookref01_Bits.l1, if_neg (by omega)]; simp [rowL]
  | succ d ih =>
    intro k acc x hd hx ha
    rw [show k + (d + 1) + 1 = (k + d + 1) + 1 by omega, platbookref01_Bits.l1, if_pos (by omega), if_pos (by omega), tmod2, tdiv2 x hx, w64 (by omega) (by omega), show (64 : Int) - ((d + 1 : Nat) : Int) + 1 = 64 - (d : Int) by omega, ih k _ (x / 2) (by omega) (by omega) (by simp; omega), rowL_succ x d]
    simp
theorem pbits_l0 (d : Nat) : ∀ (k : Nat) (acc : List Int) (x h : Nat), d ≤ 64 → x < 18446744073709551616 → h < 18446744073709551616 → acc.length + d + 64 ≤ 1000 → platbookref01_Bits.l0 (k + d + 66) acc x h (64 - (d : Int)) = some (acc ++ rowL x d ++ rowL h 64) := by
  induction d with
  | zero =>
    intro k acc x h _ _ hh ha
    rw [show k + 0 + 66 = (k + 64 + 1) + 1 by omega, platbookref01_Bits.l0, if_neg (by omega)]
    have := pbits_l1 64 k acc h (by omega) hh (by omega)
    rw [show (64 : Int) - ((64 : Nat) : Int) = 0 by omega] at this
    rw [this]; simp [rowL]
  | succ d ih =>
    intro k acc x h hd hx hh ha
    rw [show k + (d + 1) + 66 = (k + d + 66) + 1 by omega, platbookref01_Bits.l0, if_pos (by omega), if_pos (by omega), tmod2, tdiv2 x hx, w64 (by omega) (by omega), show (64 : Int) - ((d + 1 : Nat) : Int) + 1 = 64 - (d : Int) by omega, ih k _ (x / 2) h (by omega) (by omega) hh (by simp; omega), rowL_succ x d]
    simp
theorem pbits_f (k n : Nat) (hn : n < 340282366920938463463374607431768211456) : platbookref01_Bits.f (k + 130) (hi n) (lo n) = some (rowL n 128) := by
  unfold platbookref01_Bits.f hi lo
  have := pbits_l0 64 k [] (n % 18446744073709551616) (n / 18446744073709551616 % 18446744073709551616) (by omega) (by omega) (by omega) (by simp)
  rw [show (64 : Int) - ((64 : Nat) : Int) = 0 by omega] at this
  rw [show k + 130 = k + 64 + 66 by omega, this]
  have e := rowL_join (a := 64) (b := 64) (h := n / 18446744073709551616 % 18446744073709551616) (l := n % 18446744073709551616) (Nat.mod_lt _ (by decide))
  rw [show (2 : Nat) ^ 64 = 18446744073709551616 by decide, show n / 18446744073709551616 % 18446744073709551616 * 18446744073709551616 + n % 18446744073709551616 = n by omega] at e
  rw [List.nil_append, ← e]
/-- an address's bits, the highest one first -/
def rowT (n w : Nat) : List Int := (rowL n w).reverse
theorem prow_l0 (j : Nat) : ∀ (k : Nat) (xs acc : List Int), j ≤ xs.length → xs.length ≤ 1000 → acc.length + j ≤ 1000 → platbookref03_Row.l0 (k + j + 1) xs acc ((j : Int) - 1) = some (acc ++ (xs.take j).reverse) := by
  induction j with
  | zero => intro k xs acc _ _ _; rw [platbookref03_Row.l0, if_neg (by omega)]; simp
  | succ j ih =>
    intro k xs acc hj hx ha
    have e : rd xs (((j + 1 : Nat) : Int) - 1) = xs[j] := by
      unfold rd; rw [show ((((j + 1 : Nat) : Int) - 1)).toNat = j by omega]; simp [List.getD, List.getElem?_eq_getElem (show j < xs.length by omega)]
    rw [show k + (j + 1) + 1 = (k + j + 1) + 1 by omega, platbookref03_Row.l0, if_pos (by omega), if_pos (by omega), if_pos (by omega), if_pos (by omega), w64 (by omega) (by omega), e, show ((j + 1 : Nat) : Int) - 1 - 1 = (j : Int) - 1 by omega, ih k xs _ (by omega) hx (by simp; omega), List.take_succ_eq_append_getElem (show j < xs.length by omega), List.reverse_append]
    simp
theorem width_hl (v : Bool) (n : Nat) : platbookref02_Width.f v (hi n) (lo n) = some ((widthN v : Nat) : Int) := by
  unfold platbookref02_Width.f; rw [if_pos (by simpa using okW_hl n)]
theorem widthN_pos (v : Bool) : 32 ≤ widthN v := by cases v <;> decide
theorem prow_f (k : Nat) (v : Bool) (n : Nat) (hn : n < 340282366920938463463374607431768211456) : platbookref03_Row.f (k + 300) v (hi n) (lo n) = some (rowT n (widthN v)) := by
  unfold platbookref03_Row.f
  rw [show k + 300 = (k + 170) + 130 by omega, pbits_f _ n hn, width_hl]
  simp only [Option.bind_some]
  have hw := widthN_le v
  have hp := widthN_pos v
  rw [w64 (by omega) (by omega), show k + 170 + 130 = (k + 299 - widthN v) + widthN v + 1 by omega, prow_l0 _ _ _ _ (by rw [rowL_len]; exact hw) (by rw [rowL_len]; omega) (by simp; omega)]
  have e : rowL n 128 = rowL n (widthN v) ++ rowL (n / 2 ^ widthN v) (128 - widthN v) := by rw [← rowL_add]; congr 1; omega
  rw [e, List.take_left' (rowL_len _ _)]; rfl
/-- the number of a row of bits, the lowest one first -/
def valL : List Int → Nat
  | [] => 0
  | b :: r => b.toNat + 2 * valL r
theorem valL_append : ∀ (a b : List Int), valL (a ++ b) = valL a + 2 ^ a.length * valL b
  | [], b => by simp [valL]
  | x :: a, b => by rw [List.cons_append, valL, valL, valL_append a b, List.length_cons, Nat.pow_succ, Nat.mul_add]; rw [Nat.mul_comm (2 ^ a.length) 2, Nat.mul_assoc]; omega
theorem valL_lt : ∀ (a : List Int), (∀ b ∈ a, b = 0 ∨ b = 1) → valL a < 2 ^ a.length
  | [], _ => by simp [valL]
  | x :: a, h => by
    have h1 := valL_lt a (fun b hb => h b (by simp [hb]))
    have h2 := h x (by simp)
    rw [valL, List.length_cons, Nat.pow_succ]
    rcases h2 with rfl | rfl
    · simp; omega
    · simp; omega
theorem valL_row : ∀ (d x : Nat), valL (rowL x d) = x % 2 ^ d
  | 0, x => by simp [rowL, valL, Nat.mod_one]
  | d + 1, x => by
    rw [rowL, valL, valL_row d, Nat.pow_succ, Nat.mul_comm (2 ^ d) 2, Nat.mod_mul]
    omega
theorem valL_rep (d : Nat) : valL (List.replicate d 0) = 0 := by
  induction d with
  | zero => rfl
  | succ d ih => rw [List.replicate_succ, valL, ih]; rfl
theorem valL_ones (d : Nat) : valL (List.replicate d 1) = 2 ^ d - 1 := by
  induction d with
  | zero => rfl
  | succ d ih => rw [List.replicate_succ, valL, ih, Nat.pow_succ]; have := Nat.two_pow_pos d; simp; omega
theorem u64w {x : Nat} (h : x < 18446744073709551616) : IntKind.u64.wrap (x : Int) = (x : Int) := by show (x : Int) % 18446744073709551616 = _; omega
theorem pnum_l1 (j : Nat) : ∀ (k : Nat) (L : List Int) (H x : Nat), (∀ b ∈ L, b = 0 ∨ b = 1) → L.length ≤ 1000 → j ≤ 1000 → x * 2 ^ j + valL (L.take j) < 18446744073709551616 → platbookref01_Num.l1 (k + j + 1) L ((j : Int) - 1) H x = some ((H : Int), ((x * 2 ^ j + valL (L.take j) : Nat) : Int)) := by
  induction j with
  | zero => intro k L H x _ _ _ _; rw [platbookref01_Num.l1, if_neg (by omega)]; simp [valL]
  | succ j ih =>
    intro k L H x hb hl hj hx
    have hp : 2 ^ (j + 1) = 2 * 2 ^ j := by rw [Nat.pow_succ]; omega
    have hp0 := Nat.two_pow_pos j
    rw [show k + (j + 1) + 1 = (k + j + 1) + 1 by omega, platbookref01_Num.l1, if_pos (by omega)]
    by_cases h : j < L.length
    · have e : L.take (j + 1) = L.take j ++ [L[j]] := List.take_succ_eq_append_getElem h
      have hbj : L[j] = 0 ∨ L[j] = 1 := hb _ (List.getElem_mem h)
      obtain ⟨c, hc, hc2⟩ : ∃ c : Nat, L[j] = (c : Int) ∧ c ≤ 1 := by exact bit_nat hbj
      have er : rd L (((j + 1 : Nat) : Int) - 1) = (c : Int) := by
        unfold rd; rw [show ((((j + 1 : Nat) : Int) - 1)).toNat = j by omega]; simp [List.getD, List.getElem?_eq_getElem h, hc]
      have ev : valL (L.take (j + 1)) = valL (L.take j) + 2 ^ j * c := by
        rw [e, valL_append, List.length_take, Nat.min_eq_left (by omega), hc]; simp [valL]
      have e2 : x * 2 ^ (j + 1) + valL (L.take (j + 1)) = (2 * x + c) * 2 ^ j + valL (L.take j) := by
        rw [ev, hp, Nat.add_mul, Nat.mul_comm (2 ^ j) c, ← Nat.mul_assoc, Nat.mul_comm x 2]; omega
      rw [e2] at hx ⊢
      have hx2 : (2 * x + c) * 1 ≤ (2 * x + c) * 2 ^ j := Nat.mul_le_mul_left _ hp0
      rw [if_pos (by omega), if_pos (by omega), er, w64 (by omega) (by omega), show ((x : Int) * 2) = ((2 * x : Nat) : Int) by omega, u64w (x := 2 * x) (by omega), u64w (x := c) (by omega), show ((2 * x : Nat) : Int) + (c : Int) = ((2 * x + c : Nat) : Int) by omega, u64w (by omega), show ((j + 1 : Nat) : Int) - 1 - 1 = (j : Int) - 1 by omega]
      exact ih k L H (2 * x + c) hb hl (by omega) hx
    · have e : L.take (j + 1) = L.take j := by rw [List.take_of_length_le (by omega), List.take_of_length_le (by omega)]
      have e2 : x * 2 ^ (j + 1) + valL (L.take (j + 1)) = (2 * x) * 2 ^ j + valL (L.take j) := by
        rw [e, hp, ← Nat.mul_assoc, Nat.mul_comm x 2]
      rw [e2] at hx ⊢
      have hx2 : (2 * x) * 1 ≤ (2 * x) * 2 ^ j := Nat.mul_le_mul_left _ hp0
      rw [if_neg (by omega), w64 (by omega) (by omega), show ((x : Int) * 2) = ((2 * x : Nat) : Int) by omega, u64w (by omega), show ((j + 1 : Nat) : Int) - 1 - 1 = (j : Int) - 1 by omega]
      exact ih k L H (2 * x) hb hl (by omega) hx
theorem pnum_l0 (j : Nat) : ∀ (k : Nat) (L : List Int) (x : Nat), (∀ b ∈ L, b = 0 ∨ b = 1) → L.length ≤ 1000 → j ≤ 64 → x * 2 ^ j + valL ((L.drop 64).take j) < 18446744073709551616 → platbookref01_Num.l0 (k + j + 66) L (64 + (j : Int) - 1) x 0 = some (((x * 2 ^ j + valL ((L.drop 64).take j) : Nat) : Int), ((valL (L.take 64) : Nat) : Int)) := by
  induction j with
  | zero =>
    intro k L x hb hl _ _
    rw [show k + 0 + 66 = (k + 64 + 1) + 1 by omega, platbookref01_Num.l0, if_neg (by omega)]
    have hv : valL (L.take 64) < 2 ^ 64 := Nat.lt_of_lt_of_le (valL_lt _ (fun b h => hb b (List.mem_of_mem_take h))) (Nat.pow_le_pow_right (by omega) (by rw [List.length_take]; omega))
    have := pnum_l1 64 k L x 0 hb hl (by omega) (by rw [Nat.zero_mul, Nat.zero_add]; exact hv)
    rw [show ((64 : Nat) : Int) - 1 = 63 by omega, show k + 64 + 1 = k + 65 from rfl, show ((0 : Nat) : Int) = 0 from rfl] at this
    rw [this]; simp [valL]
  | succ j ih =>
    intro k L x hb hl hj hx
    have hp : 2 ^ (j + 1) = 2 * 2 ^ j := by rw [Nat.pow_succ]; omega
    have hp0 := Nat.two_pow_pos j
    rw [show k + (j + 1) + 66 = (k + j + 66) + 1 by omega, platbookref01_Num.l0, if_pos (by omega)]
    by_cases h : 64 + j < L.length
    · have hd : j < (L.drop 64).length := by rw [List.length_drop]; omega
      have e : (L.drop 64).take (j + 1) = (L.drop 64).take j ++ [L[64 + j]] := by rw [List.take_succ_eq_append_getElem hd, List.getElem_drop]
      have hbj : L[64 + j] = 0 ∨ L[64 + j] = 1 := hb _ (List.getElem_mem h)
      obtain ⟨c, hc, hc2⟩ : ∃ c : Nat, L[64 + j] = (c : Int) ∧ c ≤ 1 := by exact bit_nat hbj
      have er : rd L (64 + ((j + 1 : Nat) : Int) - 1) = (c : Int) := by
        unfold rd; rw [show (64 + ((j + 1 : Nat) : Int) - 1).toNat = 64 + j by omega]; simp [List.getD, List.getElem?_eq_getElem h, hc]
      have ev : valL ((L.drop 64).take (j + 1)) = valL ((L.drop 64).take j) + 2 ^ j * c := by
        rw [e, valL_append, List.length_take, Nat.min_eq_left (by omega), hc]; simp [valL]
      have e2 : x * 2 ^ (j + 1) + valL ((L.drop 64).take (j + 1)) = (2 * x + c) * 2 ^ j + valL ((L.drop 64).take j) := by
        rw [ev, hp, Nat.add_mul, Nat.mul_comm (2 ^ j) c, ← Nat.mul_assoc, Nat.mul_comm x 2]; omega
      rw [e2] at hx ⊢
      have hx2 : (2 * x + c) * 1 ≤ (2 * x + c) * 2 ^ j := Nat.mul_le_mul_left _ hp0
      rw [if_pos (by omega), if_pos (by omega), er, w64 (by omega) (by omega), show ((x : Int) * 2) = ((2 * x : Nat) : Int) by omega, u64w (x := 2 * x) (by omega), u64w (x := c) (by omega), show ((2 * x : Nat) : Int) + (c : Int) = ((2 * x + c : Nat) : Int) by omega, u64w (by omega), show 64 + ((j + 1 : Nat) : Int) - 1 - 1 = 64 + (j : Int) - 1 by omega]
      exact ih k L (2 * x + c) hb hl (by omega) hx
    · have hd : (L.drop 64).length ≤ j := by rw [List.length_drop]; omega
      have e : (L.drop 64).take (j + 1) = (L.drop 64).take j := by rw [List.take_of_length_le (by omega), List.take_of_length_le (by omega)]
      have e2 : x * 2 ^ (j + 1) + valL ((L.drop 64).take (j + 1)) = (2 * x) * 2 ^ j + valL ((L.drop 64).take j) := by
        rw [e, hp, ← Nat.mul_assoc, Nat.mul_comm x 2]
      rw [e2] at hx ⊢
      have hx2 : (2 * x) * 1 ≤ (2 * x) * 2 ^ j := Nat.mul_le_mul_left _ hp0
      rw [if_neg (by omega), w64 (by omega) (by omega), show ((x : Int) * 2) = ((2 * x : Nat) : Int) by omega, u64w (by omega), show 64 + ((j + 1 : Nat) : Int) - 1 - 1 = 64 + (j : Int) - 1 by omega]
      exact ih k L (2 * x) hb hl (by omega) hx
theorem pnum_f (k : Nat) (L : List Int) (hb : ∀ b ∈ L, b = 0 ∨ b = 1) (hl : L.length ≤ 128) : platbookref01_Num.f (k + 130) L = some (hi (valL L), lo (valL L)) := by
  unfold platbookref01_Num.f
  have hbd : ∀ b ∈ L.drop 64, b = 0 ∨ b = 1 := fun b h => hb b (List.mem_of_mem_drop h)
  have hv : valL (L.drop 64) < 2 ^ 64 := Nat.lt_of_lt_of_le (valL_lt _ hbd) (Nat.pow_le_pow_right (by omega) (by rw [List.length_drop]; omega))
  have ht : (L.drop 64).take 64 = L.drop 64 := List.take_of_length_le (by rw [List.length_drop]; omega)
  have := pnum_l0 64 k L 0 hb (by omega) (by omega) (by rw [Nat.zero_mul, Nat.zero_add, ht]; exact hv)
  rw [show (64 : Int) + ((64 : Nat) : Int) - 1 = 127 by omega, Nat.zero_mul, Nat.zero_add, ht] at this
  rw [show k + 130 = k + 64 + 66 by omega]
  rw [show ((0 : Nat) : Int) = 0 from rfl] at this
  rw [this]
  have hlo : valL (L.take 64) < 2 ^ 64 := Nat.lt_of_lt_of_le (valL_lt _ (fun b h => hb b (List.mem_of_mem_take h))) (Nat.pow_le_pow_right (by omega) (by rw [List.length_take]; omega))
  have e : valL L = valL (L.take 64) + 2 ^ (L.take 64).length * valL (L.drop 64) := by rw [← valL_append, List.take_append_drop]
  have e2 : valL L = valL (L.take 64) + 18446744073709551616 * valL (L.drop 64) := by
    by_cases h : 64 ≤ L.length
    · rw [e, List.length_take, Nat.min_eq_left h]
    · have : L.drop 64 = [] := List.drop_eq_nil_of_le (by omega)
      rw [e, this]; simp [valL]
  rw [show (2 : Nat) ^ 64 = 18446744073709551616 by decide] at hv hlo
  unfold hi lo
  rw [show valL L / 18446744073709551616 % 18446744073709551616 = valL (L.drop 64) by omega, show valL L % 18446744073709551616 = valL (L.take 64) by omega]
theorem paddr_l0 (j : Nat) : ∀ (k : Nat) (v : Bool) (xs acc : List Int), j ≤ xs.length → xs.length ≤ 128 → acc.length + j ≤ 128 → (∀ b ∈ xs, b = 0 ∨ b = 1) → (∀ b ∈ acc, b = 0 ∨ b = 1) → platbookref03_Addr.l0 (k + j + 131) v xs acc ((j : Int) - 1) = some (v, hi (valL (acc ++ (xs.take j).reverse)), lo (valL (acc ++ (xs.take j).reverse))) := by
  induction j with
  | zero =>
    intro k v xs acc _ _ ha hb1 hb2
    rw [show k + 0 + 131 = (k + 130) + 1 by omega, platbookref03_Addr.l0, if_neg (by omega), pnum_f k acc hb2 (by omega)]
    simp
  | succ j ih =>
    intro k v xs acc hj hx ha hb1 hb2
    have e : rd xs (((j + 1 : Nat) : Int) - 1) = xs[j] := by
      unfold rd; rw [show ((((j + 1 : Nat) : Int) - 1)).toNat = j by omega]; simp [List.getD, List.getElem?_eq_getElem (show j < xs.length by omega)]
    rw [show k + (j + 1) + 131 = (k + j + 131) + 1 by omega, platbookref03_Addr.l0, if_pos (by omega), if_pos (by omega), if_pos (by omega), if_pos (by omega), w64 (by omega) (by omega), e, show ((j + 1 : Nat) : Int) - 1 - 1 = (j : Int) - 1 by omega, ih k v xs _ (by omega) hx (by simp; omega) hb1 (by
      intro b h
      rcases List.mem_append.1 h with h | h
      · exact hb2 b h
      · rw [List.mem_singleton] at h; subst h; exact hb1 _ (List.getElem_mem _)), List.take_succ_eq_append_getElem (show j < xs.length by omega), List.reverse_append]
    simp
theorem paddr_f (k : Nat) (v : Bool) (xs : List Int) (hx : xs.length ≤ 128) (hb : ∀ b ∈ xs, b = 0 ∨ b = 1) : platbookref03_Addr.f (k + 300) v xs = some (v, hi (valL xs.reverse), lo (valL xs.reverse)) := by
  unfold platbookref03_Addr.f
  rw [w64 (by omega) (by omega), show k + 300 = (k + 169 - xs.length) + xs.length + 131 by omega, paddr_l0 _ _ _ _ _ (Nat.le_refl _) hx (by simpa using hx) hb (by simp)]
  simp
theorem pfilled_l0 (d : Nat) : ∀ (k i : Nat) (bit : Int) (xs : List Int) (v : Bool) (h l : Int), i + d = xs.length → xs.length ≤ 128 → (∀ b ∈ xs, b = 0 ∨ b = 1) → (bit = 0 ∨ bit = 1) → platbookref03_Filled.l0 (k + d + 301) bit xs i v h l = some (v, hi (valL (xs.take i ++ List.replicate d bit).reverse), lo (valL (xs.take i ++ List.replicate d bit).reverse)) := by
  induction d with
  | zero =>
    intro k i bit xs v h l hi hx hb _
    rw [show k + 0 + 301 = (k + 300) + 1 by omega, platbookref03_Filled.l0, if_neg (by omega), paddr_f k v xs hx hb, List.take_of_length_le (by omega)]
    simp
  | succ d ih =>
    intro k i bit xs v h l hi hx hb hbit
    rw [show k + (d + 1) + 301 = (k + d + 301) + 1 by omega, platbookref03_Filled.l0, if_pos (by omega), if_pos (by omega), w64 (by omega) (by omega), show ((i : Int)).toNat = i by omega, show (i : Int) + 1 = ((i + 1 : Nat) : Int) by omega, ih k (i + 1) bit (xs.set i bit) v h l (by rw [List.length_set]; omega) (by rw [List.length_set]; omega) (by
      intro b h
      rcases List.mem_or_eq_of_mem_set h with h | rfl
      · exact hb b h
      · exact hbit) hbit]
    have e : (xs.set i bit).take (i + 1) = xs.take i ++ [bit] := by
      rw [List.take_succ_eq_append_getElem (by rw [List.length_set]; omega), List.getElem_set_self, List.take_set_of_le (Nat.le_refl _)]
    rw [e, List.append_assoc, List.replicate_succ]; rfl
theorem rowT_len (n w : Nat) : (rowT n w).length = w := by unfold rowT; rw [List.length_reverse, rowL_len]
theorem pfilled_f (k : Nat) (v : Bool) (n : Nat) (i : Nat) (bit : Int) (hn : n < 340282366920938463463374607431768211456) (hi' : i ≤ widthN v) (hbit : bit = 0 ∨ bit = 1) : platbookref03_Filled.f (k + 500) v (hi n) (lo n) i bit = some (v, hi (n / 2 ^ (widthN v - i) % 2 ^ i * 2 ^ (widthN v - i) + bit.toNat * (2 ^ (widthN v - i) - 1)), lo (n / 2 ^ (widthN v - i) % 2 ^ i * 2 ^ (widthN v - i) + bit.toNat * (2 ^ (widthN v - i) - 1))) := by
  unfold platbookref03_Filled.f
  have hw := widthN_le v
  rw [show k + 500 = (k + 200) + 300 by omega, prow_f _ v n hn]
  simp only [Option.bind_some]
  rw [show k + 200 + 300 = (k + 199 - (widthN v - i)) + (widthN v - i) + 301 by omega, pfilled_l0 (widthN v - i) _ i bit _ v _ _ (by rw [rowT_len]; omega) (by rw [rowT_len]; omega) (by intro b h; unfold rowT at h; rw [List.mem_reverse] at h; exact rowL_bit _ _ b h) hbit]
  have e : valL ((rowT n (widthN v)).take i ++ List.replicate (widthN v - i) bit).reverse = n / 2 ^ (widthN v - i) % 2 ^ i * 2 ^ (widthN v - i) + bit.toNat * (2 ^ (widthN v - i) - 1) := by
    rw [List.reverse_append, List.reverse_replicate, valL_append, List.length_replicate]
    have e1 : ((rowT n (widthN v)).take i).reverse = rowL (n / 2 ^ (widthN v - i)) i := by
      unfold rowT
      rw [show widthN v = (widthN v - i) + i by omega, rowL_add, List.reverse_append, List.take_left' (by rw [List.length_reverse, rowL_len]), List.reverse_reverse]
      rw [show widthN v - i + i - i = widthN v - i by omega]
    have e2 : valL (List.replicate (widthN v - i) bit) = bit.toNat * (2 ^ (widthN v - i) - 1) := by
      rcases hbit with rfl | rfl
      · rw [valL_rep]; simp
      · rw [valL_ones]; simp
    rw [e1, valL_row, e2, Nat.mul_comm (2 ^ (widthN v - i))]
    omega
  rw [e]
end Go.Proofs.YtpfilldnfpcpkaaGreatDoor

namespace Go.Proofs.YtpfilldnfpcpkaaGreatDoor
open Go.RowKit Go.Proofs.YtpfilldnfpcpkaaGreatDoorW.PrintWords Go.Proofs.YtpfilldnfpcpkaaGreatDoor.PPo

theorem rright02_hl (v : Bool) {n : Nat} (hn : n < 340282366920938463463374607431768211456) : platbookref02_Right.f v (hi n) (lo n) = some (rightB v n) := by
  unfold platbookref02_Right.f; rw [if_pos (okW_hl n), num_hi_lo hn]
/-- without the bits behind: the reference's way -/
theorem top_ref {v : Bool} {n i : Nat} (hn : n < 2 ^ widthN v) (hi : i ≤ widthN v) : n / 2 ^ (widthN v - i) % 2 ^ i * 2 ^ (widthN v - i) = topN (widthN v - i) n := by
  unfold topN
  rw [Nat.mod_eq_of_lt]
  rw [Nat.div_lt_iff_lt_mul (Nat.two_pow_pos _), ← Nat.pow_add, show i + (widthN v - i) = widthN v by omega]; exact hn
theorem rrightP_f (K : Nat) (hK : 600 ≤ K) (v : Bool) (n : Nat) (b : Int) (hn : n < 340282366920938463463374607431768211456) : platbookref03_Right.f K v (hi n) (lo n) b = some (rightP v n b) := by
  obtain ⟨k, rfl⟩ : ∃ k, K = k + 500 := ⟨K - 500, by omega⟩
  unfold platbookref03_Right.f
  rw [rright02_hl v hn]
  simp only [bsome]
  unfold rightP
  cases hr : rightB v n
  · rw [if_neg (by simp)]; rfl
  · rw [if_pos rfl]
    by_cases h0 : b < 0
    · rw [if_pos h0, decide_eq_false (by omega)]; rfl
    · rw [if_neg h0, width_hl, decide_eq_true (show 0 ≤ b by omega)]
      simp only [bsome]
      by_cases h1 : b ≤ (widthN v : Int)
      · rw [if_neg (by omega), decide_eq_true h1]
        obtain ⟨i, rfl⟩ := Int.eq_ofNat_of_zero_le (show 0 ≤ b by omega)
        rw [pfilled_f k v n i 0 hn (by omega) (.inl rfl), top_ref (rightB_iff.1 hr) (by omega)]
        have e : fr v (i : Int) = widthN v - i := by unfold fr; omega
        simp only [bsome, Int.toNat_zero, Nat.zero_mul, Nat.add_zero]
        rw [hl_eq (top_lt hn) hn, e]
        simp only [beq_self_eq_true, Bool.true_and, Option.some.injEq]
        rw [Bool.eq_iff_iff]; simp [topN_eq]
      · rw [if_pos (by omega), decide_eq_false h1]; rfl
end Go.Proofs.YtpfilldnfpcpkaaGreatDoor

namespace Go.Proofs.YtpfilldnfpcpkaaGreatDoor
open Go.RowKit Go.Proofs.YtpfilldnfpcpkaaGreatDoorW.PrintWords Go.Proofs.YtpfilldnfpcpkaaGreatDoor.PPo

theorem rcuts_f (K : Nat) (hK : 600 ≤ K) (v : Bool) (n : Nat) (b bits : Int) (hn : n < 340282366920938463463374607431768211456) : platbookref04_Cuts.f K v (hi n) (lo n) b bits = some (cutsS v n b bits) := by
  unfold platbookref04_Cuts.f cutsS
  rw [rrightP_f K hK v n b hn]
  simp only [bsome]
  cases rightP v n b
  · rfl
  · rw [if_pos rfl]
    by_cases h : b ≤ bits
    · rw [if_pos h, width_hl, decide_eq_true h]
      simp only [bsome, Bool.true_and]
    · rw [if_neg h, decide_eq_false h]; rfl
end Go.Proofs.YtpfilldnfpcpkaaGreatDoor

namespace Go.Proofs.YtpfilldnfpcpkaaGreatDoor
open Go.RowKit

/-- in w the pool of a prefix lies at block q, its map at g, its words at c; f: which numbers are used, or kept -/
structure PoolAt (w : World) (q g c : Nat) (v : Bool) (n : Nat) (b : Int) (f : Nat → Bool) : Prop where
  head : Blk w q 105 #[.bool v, .int .u64 (hi n), .int .u64 (lo n), .int .i64 b, .pointer (some ⟨g, 0, none⟩)]
  map : MapAt w g c (cntP (fr v b)) f
  right : rightP v n b = true
  big : 2 ≤ fr v b
theorem PoolAt.drew {w : World} {q g c : Nat} {v : Bool} {n : Nat} {b : Int} {f : Nat → Bool} (h : PoolAt w q g c v n b f) : PoolAt w.drew q g c v n b f := ⟨h.head.drew, h.map.drew, h.right, h.big⟩
theorem PoolAt.alloc {w : World} {q g c : Nat} {v : Bool} {n : Nat} {b : Int} {f : Nat → Bool} (h : PoolAt w q g c v n b f) (o : Obj) : PoolAt (w.alloc o) q g c v n b f := ⟨h.head.alloc o, h.map.alloc o, h.right, h.big⟩
theorem PoolAt.after {w w' : World} {q g c : Nat} {v : Bool} {n : Nat} {b : Int} {f : Nat → Bool} (h : PoolAt w q g c v n b f) (hb : Below w.heap.size w w') : PoolAt w' q g c v n b f := ⟨h.head.after hb, h.map.after hb, h.right, h.big⟩
theorem PoolAt.cells {w : World} {q g c : Nat} {v : Bool} {n : Nat} {b : Int} {f : Nat → Bool} (h : PoolAt w q g c v n b f) :
    w.cell? ⟨q, 0, none⟩ = some (.bool v) ∧ w.cell? ⟨q, 1, none⟩ = some (.int .u64 (hi n)) ∧ w.cell? ⟨q, 2, none⟩ = some (.int .u64 (lo n)) ∧ w.cell? ⟨q, 3, none⟩ = some (.int .i64 b) ∧ w.cell? ⟨q, 4, none⟩ = some (.pointer (some ⟨g, 0, none⟩)) :=
  ⟨(h.head.cell 0).trans rfl, (h.head.cell 1).trans rfl, (h.head.cell 2).trans rfl, (h.head.cell 3).trans rfl, (h.head.cell 4).trans rfl⟩
theorem PoolAt.ne {w : World} {q g c : Nat} {v : Bool} {n : Nat} {b : Int} {f : Nat → Bool} (h : PoolAt w q g c v n b f) : q ≠ c := h.head.ne h.map.row (by decide)
theorem PoolAt.put {w w' : World} {q g c : Nat} {v : Bool} {n : Nat} {b : Int} {f f' : Nat → Bool} (h : PoolAt w q g c v n b f) (hm : MapAt w' g c (cntP (fr v b)) f') (hg : w.grownBy w' (some c)) : PoolAt w' q g c v n b f' :=
  ⟨h.head.grown hg (some_ne h.ne), hm, h.right, h.big⟩
theorem PoolAt.lt {w : World} {q g c : Nat} {v : Bool} {n : Nat} {b : Int} {f : Nat → Bool} (h : PoolAt w q g c v n b f) : n < 340282366920938463463374607431768211456 := Nat.lt_of_lt_of_le (rightP_iff.1 h.right).1 (pow_w v)

end Go.Proofs.YtpfilldnfpcpkaaGreatDoor

namespace Go.Proofs.YtpfilldnfpcpkaaGreatDoor
open Go.RowKit

theorem MapAt.far {w : World} {g c n : Nat} {f : Nat → Bool} (h : MapAt w g c n f) {p : Addr} (h2 : g ≠ p.block) (h3 : c ≠ p.block) (u : Value) : MapAt (w.setCell p u) g c n f :=
  ⟨h.head.far h2 u, h.row.far h3 u, h.ne, h.small, h.top⟩
theorem PoolAt.far {w : World} {q g c : Nat} {v : Bool} {n : Nat} {b : Int} {f : Nat → Bool} (h : PoolAt w q g c v n b f) {p : Addr} (h1 : q ≠ p.block) (h2 : g ≠ p.block) (h3 : c ≠ p.block) (u : Value) : PoolAt (w.setCell p u) q g c v n b f :=
  ⟨h.head.far h1 u, h.map.far h2 h3 u, h.right, h.big⟩
end Go.Proofs.YtpfilldnfpcpkaaGreatDoor

namespace Go.Proofs.YtpfilldnfpcpkaaGreatDoor
open Go.RowKit Go.Proofs.YtpfilldnfpcpkaaGreatDoorW.PrintWords Go.Proofs.YtpfilldnfpcpkaaGreatDoor.PPo

/-- how many blocks a prefix has -/
def nB (b bits : Int) : Nat := 2 ^ (bits - b).toNat
/-- in w the set of blocks of a prefix lies at block q, its map at g, the words at c -/
structure SetAt (w : World) (q g c : Nat) (v : Bool) (n : Nat) (b bits : Int) (f : Nat → Bool) (cur : Nat) : Prop where
  head : Blk w q 129 #[.bool v, .int .u64 (hi n), .int .u64 (lo n), .int .i64 b, .int .i64 bits, .pointer (some ⟨g, 0, none⟩), .int .i64 cur]
  map : MapAt w g c (nB b bits) f
  cuts : cutsS v n b bits = true
  few : bits - b ≤ 16
  at_ : cur < nB b bits
theorem nB_le {b bits : Int} (h : bits - b ≤ 16) : nB b bits ≤ 65536 := Nat.pow_le_pow_right (n := 2) (i := (bits - b).toNat) (j := 16) (by decide) (by omega)
theorem nB_pos (b bits : Int) : 0 < nB b bits := Nat.two_pow_pos _
theorem SetAt.after {w w' : World} {q g c : Nat} {v : Bool} {n : Nat} {b bits : Int} {f : Nat → Bool} {cur : Nat} (h : SetAt w q g c v n b bits f cur) (hb : Below w.heap.size w w') : SetAt w' q g c v n b bits f cur := ⟨h.head.after hb, h.map.after hb, h.cuts, h.few, h.at_⟩
theorem set_cells {w : World} {q g c : Nat} {v : Bool} {n : Nat} {b bits : Int} {f : Nat → Bool} {cur : Nat} (h : SetAt w q g c v n b bits f cur) :
    w.cell? ⟨q, 0, none⟩ = some (.bool v) ∧ w.cell? ⟨q, 1, none⟩ = some (.int .u64 (hi n)) ∧ w.cell? ⟨q, 2, none⟩ = some (.int .u64 (lo n)) ∧ w.cell? ⟨q, 3, none⟩ = some (.int .i64 b) ∧ w.cell? ⟨q, 4, none⟩ = some (.int .i64 bits) ∧ w.cell? ⟨q, 5, none⟩ = some (.pointer (some ⟨g, 0, none⟩)) ∧ w.cell? ⟨q, 6, none⟩ = some (.int .i64 cur) :=
  ⟨(h.head.cell 0).trans rfl, (h.head.cell 1).trans rfl, (h.head.cell 2).trans rfl, (h.head.cell 3).trans rfl, (h.head.cell 4).trans rfl, (h.head.cell 5).trans rfl, (h.head.cell 6).trans rfl⟩
theorem SetAt.lt {w : World} {q g c : Nat} {v : Bool} {n : Nat} {b bits : Int} {f : Nat → Bool} {cur : Nat} (h : SetAt w q g c v n b bits f cur) : n < 340282366920938463463374607431768211456 := Nat.lt_of_lt_of_le (rightP_iff.1 (cutsS_iff.1 h.cuts).1).1 (pow_w v)
theorem SetAt.put {w w' : World} {q g c : Nat} {v : Bool} {n : Nat} {b bits : Int} {f f' : Nat → Bool} {cur : Nat} (h : SetAt w q g c v n b bits f cur) (hm : MapAt w' g c (nB b bits) f') (hg : w.grownBy w' (some c)) : SetAt w' q g c v n b bits f' cur :=
  ⟨h.head.grown hg (some_ne (h.head.ne h.map.row (by decide))), hm, h.cuts, h.few, h.at_⟩

theorem blocks_k (v : Bool) (n : Nat) (b bits : Int) (w : World) (hn : n < 340282366920938463463374607431768211456) :
    Calls Tryz.prog 95 #[.agg #[.bool v, .int .u64 (hi n), .int .u64 (lo n), .int .i64 b], .int .i64 bits] w fun e w' =>
      e = .returned (.tuple #[.agg #[.int .u64 (hi (blocksS v n b bits).1), .int .u64 (lo (blocksS v n b bits).1)], .bool (blocksS v n b bits).2.1, .int .i64 (blocksS v n b bits).2.2]) ∧ Below w.heap.size w w' :=
  carve_Blocks.calls v (hi n) (lo n) b bits _ _ _ _ w (blocks_f v n b bits hn)
theorem block_k (v : Bool) (n : Nat) (b bits : Int) (i : Nat) (w : World) (hc : cutsS v n b bits = true) (hi' : i < nB b bits) (h64 : i < 18446744073709551616) :
    Calls Tryz.prog 142 #[.agg #[.bool v, .int .u64 (hi n), .int .u64 (lo n), .int .i64 b], .int .i64 bits, .agg #[.int .u64 (hi i), .int .u64 (lo i)]] w fun e w' =>
      e = .returned (.tuple #[.agg #[.bool v, .int .u64 (hi (n + i * 2 ^ fr v bits)), .int .u64 (lo (n + i * 2 ^ fr v bits)), .int .i64 bits], .int .i64 0]) ∧ Below w.heap.size w w' := by
  have hn : n < 340282366920938463463374607431768211456 := Nat.lt_of_lt_of_le (rightP_iff.1 (cutsS_iff.1 hc).1).1 (pow_w v)
  have hbb := (cutsS_iff.1 hc).2.1
  have hl : (lenN i : Int) ≤ bits - b := by
    have := (lenN_iff i (bits - b).toNat).2 hi'
    omega
  obtain ⟨e, _⟩ := block_at hc hl
  have hf := block_f v n b bits i hn (by omega)
  rw [e] at hf
  exact carve_Block.calls v (hi n) (lo n) b bits (hi i) (lo i) _ _ _ _ _ w hf
theorem span_k (v : Bool) (n : Nat) (b bits : Int) (u : Bool) (m : Nat) (c : Int) (w : World) (hn : n < 340282366920938463463374607431768211456) (hm : m < 340282366920938463463374607431768211456) :
    Calls Tryz.prog 139 #[.agg #[.bool v, .int .u64 (hi n), .int .u64 (lo n), .int .i64 b], .int .i64 bits, .agg #[.bool u, .int .u64 (hi m), .int .u64 (lo m), .int .i64 c]] w fun e w' =>
      e = .returned (.tuple #[.agg #[.int .u64 (hi (spanS v n b bits u m c).1), .int .u64 (lo (spanS v n b bits u m c).1)], .agg #[.int .u64 (hi (spanS v n b bits u m c).2.1), .int .u64 (lo (spanS v n b bits u m c).2.1)], .int .i64 (spanS v n b bits u m c).2.2]) ∧ Below w.heap.size w w' :=
  carve_Span.calls 10 v (hi n) (lo n) b bits u (hi m) (lo m) c _ _ _ _ _ w (span_f 10 (by omega) v n b bits u m c hn hm)
set_option maxRecDepth 20000 in
set_option maxHeartbeats 1000000 in
theorem knew_c (v : Bool) (n : Nat) (b bits : Int) (w : World) (hc : cutsS v n b bits = true) (h16 : bits - b ≤ 16) :
    Calls Tryz.prog 37 #[.agg #[.bool v, .int .u64 (hi n), .int .u64 (lo n), .int .i64 b], .int .i64 bits] w fun e w' => ∃ q g c, e = .returned (.tuple #[.pointer (some ⟨q, 0, none⟩), .int .i64 0]) ∧
      SetAt w' q g c v n b bits (fun _ => false) 0 ∧ Below w.heap.size w w' ∧ w.heap.size ≤ q ∧ w.heap.size ≤ g ∧ w.heap.size ≤ c := by
  have hn : n < 340282366920938463463374607431768211456 := Nat.lt_of_lt_of_le (rightP_iff.1 (cutsS_iff.1 hc).1).1 (pow_w v)
  have H := Lib.hid (fun w => blocks_k v n b bits w hn)
  have hbb := (cutsS_iff.1 hc).2.1
  have hS : blocksS v n b bits = (nB b bits, true, 0) := by unfold blocksS; rw [if_pos hc, powS_small (by omega)]; rfl
  rw [hS] at H
  have hN := nB_le h16
  have hN0 := nB_pos b bits
  have hk64 : nB b bits < 18446744073709551616 := by omega
  have hwk : IntKind.i64.wrap ((nB b bits : Nat) : Int) = ((nB b bits : Nat) : Int) := by rw [IntKind.wrap_i64]; omega
  clear hS
  simp only at H
  go_enter Tryz.func37, Tryz.ntmps37
  go_wp2_with fail
  have hA : Blk (w.alloc (Obj.cells #[Value.bool v, Value.int IntKind.u64 (hi n), Value.int IntKind.u64 (lo n), Value.int IntKind.i64 b] 28)) w.heap.size 28 (PfxC v n b) := Blk.new _ _ _
  have hbel : Below w.heap.size w (w.alloc (Obj.cells #[Value.bool v, Value.int IntKind.u64 (hi n), Value.int IntKind.u64 (lo n), Value.int IntKind.i64 b] 28)) := bl_
  generalize w.alloc (Obj.cells #[Value.bool v, Value.int IntKind.u64 (hi n), Value.int IntKind.u64 (lo n), Value.int IntKind.i64 b] 28) = wz at *
  refine (H.out _).mono ?_
  rintro e w1 ⟨rfl, hb1⟩
  replace hA := hA.after hb1
  replace hbel := bl_trans hbel hb1
  clear hb1
  go_wp2_with fail
  refine (small_k (nB b bits) _ (by omega)).mono ?_
  rintro e w2 ⟨rfl, hb2⟩
  replace hA := (hA.alloc _).after hb2
  replace hbel := bl_trans (bl_alloc hbel _) hb2
  clear hb2
  rw [smallS_lt hk64]
  have d1 : decide (65536 < nB b bits) = false := decide_eq_false (by omega)
  go_wp2_with fail
  refine (new_c _ _ hN).mono ?_
  rintro e w3 ⟨rfl, hm, hb3⟩
  replace hA := hA.after hb3
  have hws := hbel.size
  replace hbel := bl_trans hbel hb3
  clear hb3
  obtain ⟨a0, a1, a2, a3, _⟩ := blk_pfx hA
  have hs3 := hbel.size
  go_wp2_with fail
  go_ret2
  exact ⟨w3.heap.size, w2.heap.size + 1, w2.heap.size, rfl, ⟨Blk.new _ _ _, hm.alloc _, hc, h16, hN0⟩, bl_alloc hbel _, hs3, by omega, hws⟩
end Go.Proofs.YtpfilldnfpcpkaaGreatDoor

namespace Go.Proofs.YtpfilldnfpcpkaaGreatDoor
open Go.RowKit

theorem blk_fill4 {w : World} {g : Nat} {t : TypeId} {u v z o x y k m : Value} (h : Blk w g t #[u, v, z, o]) : Blk ((((w.setCell ⟨g, 0, none⟩ x).setCell ⟨g, 1, none⟩ y).setCell ⟨g, 2, none⟩ k).setCell ⟨g, 3, none⟩ m) g t #[x, y, k, m] := (((h.put 0 x).put 1 y).put 2 k).put 3 m
set_option maxRecDepth 20000 in
set_option maxHeartbeats 1600000 in
theorem kblock_c (q g c : Nat) (v : Bool) (n : Nat) (b bits : Int) (f : Nat → Bool) (cur : Nat) (i : Nat) (w : World) (h : SetAt w q g c v n b bits f cur) (hi' : i < nB b bits) :
    Calls Tryz.prog 99 #[.pointer (some ⟨q, 0, none⟩), .int .i64 i] w fun e w' => e = .returned (.agg #[.bool v, .int .u64 (hi (n + i * 2 ^ fr v bits)), .int .u64 (lo (n + i * 2 ^ fr v bits)), .int .i64 bits]) ∧ Below w.heap.size w w' := by
  have hN2 := nB_le h.few
  have H1 := Lib.hid (fun w => block_k v n b bits i w h.cuts hi' (by omega))
  have H2 := Lib.hid (fun w => numof_k i w (by omega))
  have hw64 : IntKind.u64.wrap (i : Int) = (i : Int) := by show _ % 18446744073709551616 = _; omega
  generalize n + i * 2 ^ fr v bits = y at *
  go_enter Tryz.func99, Tryz.ntmps99
  go_wp2_with fail
  have hR : Blk (w.alloc (Obj.cells #[Value.bool false, Value.int IntKind.u64 0, Value.int IntKind.u64 0, Value.int IntKind.i64 0] 28)) w.heap.size 28 (PfxC false 0 0) := Blk.new _ _ _
  have hbel : Below w.heap.size w (w.alloc (Obj.cells #[Value.bool false, Value.int IntKind.u64 0, Value.int IntKind.u64 0, Value.int IntKind.i64 0] 28)) := bl_
  generalize w.alloc (Obj.cells #[Value.bool false, Value.int IntKind.u64 0, Value.int IntKind.u64 0, Value.int IntKind.i64 0] 28) = wz at *
  have hlt := hR.lt
  go_cut [5] from 7 (fun s5 wc => ∃ g5, s5 = .pointer (some ⟨g5, 0, none⟩) ∧ Blk wc g5 28 #[.bool v, .int .u64 (hi y), .int .u64 (lo y), .int .i64 bits] ∧ Blk wc w.heap.size 28 (PfxC false 0 0) ∧ w.heap.size < g5 ∧ Below w.heap.size w wc)
  case first =>
    go_region_held3 (fun w' => (w'.cell? ⟨q, 0, none⟩ = some (.bool v) ∧ w'.cell? ⟨q, 1, none⟩ = some (.int .u64 (hi n)) ∧ w'.cell? ⟨q, 2, none⟩ = some (.int .u64 (lo n)) ∧ w'.cell? ⟨q, 3, none⟩ = some (.int .i64 b) ∧ w'.cell? ⟨q, 4, none⟩ = some (.int .i64 bits) ∧ w'.cell? ⟨q, 5, none⟩ = some (.pointer (some ⟨g, 0, none⟩)) ∧ w'.cell? ⟨q, 6, none⟩ = some (.int .i64 cur)) ∧ Blk w' w.heap.size 28 (PfxC false 0 0) ∧ Below w.heap.size w w')
      (exact ⟨set_cells (h.after bl_), bk_, bl_⟩)
      (first
      | (go_at_call 126; refine (H2.out _).mono ?_; rintro e w3 ⟨rfl, hb3⟩; obtain ⟨hc3, hf3⟩ := bcell hb3; have hz3 := hb3.size; (try simp only [size_alloc', size_setCell', size_drew'] at hz3); (try have hy3 : wz.heap.size < w3.heap.size := by omega))
      | (go_at_call 142; refine (H1.out _).mono ?_; rintro e w4 ⟨rfl, hb4⟩; obtain ⟨hc4, hf4⟩ := bcell hb4; have hz4 := hb4.size; (try simp only [size_alloc', size_setCell', size_drew'] at hz4); (try have hy4 : wz.heap.size < w4.heap.size := by omega)))
    all_goals
      go_wp2_with fail
      go_meet
      case rel => exact ⟨_, rfl, (by first | with_reducible exact Blk.new _ _ _ | exact blk_fill4 (u := .bool false) (v := .int .u64 0) (z := .int .u64 0) (o := .int .i64 0) bk_), bk_, by omega, bl_⟩
  case rest =>
    obtain ⟨g5, rfl, hA, hR, h5, hbel⟩ := hcut
    have a0 := (hA.cell 0).trans rfl
    have a1 := (hA.cell 1).trans rfl
    have a2 := (hA.cell 2).trans rfl
    have a3 := (hA.cell 3).trans rfl
    simp only [List.getElem?_toArray, List.getElem?_cons_zero, List.getElem?_cons_succ] at a0 a1 a2 a3
    obtain ⟨r0, r1, r2, r3, _⟩ := blk_pfx hR
    have z0 := hR.frozen 0
    have z1 := hR.frozen 1
    have z2 := hR.frozen 2
    have z3 := hR.frozen 3
    go_wp2_with fail
    refine bodyPost_ret (v := .agg #[.bool v, .int .u64 (hi y), .int .u64 (lo y), .int .i64 bits]) (results_cell_row (t := 28) Tryz.results99 _ _ w.heap.size _ (0, 0) _ rfl ((((hR.put 0 _).put 1 _).put 2 _).put 3 _) Tryz.underlying28 rfl (by kernel_rfl)) rfl ⟨rfl, bl_⟩
theorem spanS_small (v : Bool) (n : Nat) (b bits : Int) (u : Bool) (m : Nat) (c : Int) (h16 : bits - b ≤ 16) : (spanS v n b bits u m c).1 < 65537 ∧ (spanS v n b bits u m c).2.1 < 65537 := by
  by_cases hc : cutsS v n b bits = true ∧ rightP u m c = true
  · by_cases ho : overlapS v n b u m c = true
    · obtain ⟨rfl, _, _⟩ := overlap_kind ho
      obtain ⟨_, _, s2, s3, _⟩ := span_between hc.1 ho
      have hN := nB_le h16
      have h1 := (lenN_iff (spanS u n b bits u m c).1 (bits - b).toNat).1 (by omega)
      have h2 := (lenN_iff (spanS u n b bits u m c).2.1 (bits - b).toNat).1 (by omega)
      unfold nB at hN
      omega
    · unfold spanS; rw [if_pos hc, if_neg ho]; decide
  · unfold spanS; rw [if_neg hc]; decide
theorem spanS_err (v : Bool) (n : Nat) (b bits : Int) (u : Bool) (m : Nat) (c : Int) (h : (spanS v n b bits u m c).2.2 ≠ 0) : (spanS v n b bits u m c).1 = 0 ∧ (spanS v n b bits u m c).2.1 = 0 := by
  by_cases hc : cutsS v n b bits = true ∧ rightP u m c = true
  · by_cases ho : overlapS v n b u m c = true
    · obtain ⟨rfl, _, _⟩ := overlap_kind ho
      exact absurd (span_between hc.1 ho).1 h
    · unfold spanS; rw [if_pos hc, if_neg ho]; exact ⟨rfl, rfl⟩
  · unfold spanS; rw [if_neg hc]; exact ⟨rfl, rfl⟩
set_option maxRecDepth 20000 in
set_option maxHeartbeats 1600000 in
theorem kspan_c (q g c : Nat) (v : Bool) (n : Nat) (b bits : Int) (f : Nat → Bool) (cur : Nat) (u : Bool) (m : Nat) (k : Int) (w : World) (h : SetAt w q g c v n b bits f cur) (hm : m < 340282366920938463463374607431768211456) :
    Calls Tryz.prog 97 #[.pointer (some ⟨q, 0, none⟩), .agg #[.bool u, .int .u64 (hi m), .int .u64 (lo m), .int .i64 k]] w fun e w' =>
      e = .returned (.tuple #[.int .i64 ((spanS v n b bits u m k).1 : Nat), .int .i64 ((spanS v n b bits u m k).2.1 : Nat), .int .i64 (spanS v n b bits u m k).2.2]) ∧ Below w.heap.size w w' := by
  have hn := h.lt
  have H := Lib.hid (fun w => span_k v n b bits u m k w hn hm)
  obtain ⟨hs1, hs2⟩ := spanS_small v n b bits u m k h.few
  have HE := Lib.hid (spanS_err v n b bits u m k)
  generalize (spanS v n b bits u m k).1 = A at *
  generalize (spanS v n b bits u m k).2.1 = B at *
  generalize (spanS v n b bits u m k).2.2 = E at *
  go_enter Tryz.func97, Tryz.ntmps97
  go_wp2_with fail
  have hA : Blk (w.alloc (Obj.cells #[Value.bool u, Value.int IntKind.u64 (hi m), Value.int IntKind.u64 (lo m), Value.int IntKind.i64 k] 28)) w.heap.size 28 (PfxC u m k) := Blk.new _ _ _
  have hbel : Below w.heap.size w (w.alloc (Obj.cells #[Value.bool u, Value.int IntKind.u64 (hi m), Value.int IntKind.u64 (lo m), Value.int IntKind.i64 k] 28)) := bl_
  generalize w.alloc (Obj.cells #[Value.bool u, Value.int IntKind.u64 (hi m), Value.int IntKind.u64 (lo m), Value.int IntKind.i64 k] 28) = wz at *
  have hlt := hA.lt
  go_cut [7, 8, 9] from 16 (fun s7 s8 s9 wc => ∃ g7 g8, s7 = .pointer (some ⟨g7, 0, none⟩) ∧ s8 = .pointer (some ⟨g8, 0, none⟩) ∧ s9 = .int .i64 E ∧ Blk wc g7 24 #[.int .u64 (hi A), .int .u64 (lo A)] ∧ Blk wc g8 24 #[.int .u64 (hi B), .int .u64 (lo B)] ∧ Below w.heap.size w wc)
  case first =>
    go_region_held3 (fun w' => (w'.cell? ⟨w.heap.size, 0, none⟩ = some (.bool u) ∧ w'.cell? ⟨w.heap.size, 1, none⟩ = some (.int .u64 (hi m)) ∧ w'.cell? ⟨w.heap.size, 2, none⟩ = some (.int .u64 (lo m)) ∧ w'.cell? ⟨w.heap.size, 3, none⟩ = some (.int .i64 k) ∧ Blk w' w.heap.size 28 (PfxC u m k)) ∧ (w'.cell? ⟨q, 0, none⟩ = some (.bool v) ∧ w'.cell? ⟨q, 1, none⟩ = some (.int .u64 (hi n)) ∧ w'.cell? ⟨q, 2, none⟩ = some (.int .u64 (lo n)) ∧ w'.cell? ⟨q, 3, none⟩ = some (.int .i64 b) ∧ w'.cell? ⟨q, 4, none⟩ = some (.int .i64 bits) ∧ w'.cell? ⟨q, 5, none⟩ = some (.pointer (some ⟨g, 0, none⟩)) ∧ w'.cell? ⟨q, 6, none⟩ = some (.int .i64 cur)) ∧ Below w.heap.size w w')
      (exact ⟨blk_pfx bk_, set_cells (h.after bl_), bl_⟩)
      (first
      | (go_at_call 139; refine (H.out _).mono ?_; rintro e w3 ⟨rfl, hb3⟩; obtain ⟨hc3, hf3⟩ := bcell hb3; have hz3 := hb3.size; (try simp only [size_alloc', size_setCell', size_drew'] at hz3); (try have hy3 : wz.heap.size < w3.heap.size := by omega); (try have hy4 : wz.heap.size + 1 < w3.heap.size := by omega); (try have hq1 : Blk w3 wz.heap.size 24 #[.int .u64 0, .int .u64 0] := (((Blk.new wz 24 #[.int .u64 0, .int .u64 0]).alloc _).drew).after hb3); (try have hq1 : Blk w3 wz.heap.size 24 #[.int .u64 0, .int .u64 0] := ((Blk.new wz 24 #[.int .u64 0, .int .u64 0]).drew).after hb3); (try have hq2 : Blk w3 (wz.heap.size + 1) 24 #[.int .u64 0, .int .u64 0] := by (refine (Blk.new' (wz.alloc (.cells #[.int .u64 0, .int .u64 0] 24)) 24 #[.int .u64 0, .int .u64 0] (wz.heap.size + 1) ?_).drew.after hb3; simp; done))))
    all_goals
      go_wp2_with fail
      go_meet
      case rel =>
        refine ⟨_, _, rfl, rfl, rfl, ?_, ?_, bl_⟩
        all_goals
          first
          | (with_reducible exact (Blk.new _ _ _).alloc _)
          | (with_reducible exact (blk_fill hq1).alloc _)
          | (with_reducible exact ((blk_fill hq1).far (Nat.ne_of_lt (Nat.lt_succ_self _)) _).far (Nat.ne_of_lt (Nat.lt_succ_self _)) _)
          | (with_reducible exact ((blk_fill hq2).far (Nat.ne_of_gt (Nat.lt_succ_self _)) _).far (Nat.ne_of_gt (Nat.lt_succ_self _)) _)
          | (with_reducible exact blk_fill ((hq2.far (Nat.ne_of_gt (Nat.lt_succ_self _)) _).far (Nat.ne_of_gt (Nat.lt_succ_self _)) _))
          | (with_reducible exact blk_fill ((hq1.far (Nat.ne_of_lt (Nat.lt_succ_self _)) _).far (Nat.ne_of_lt (Nat.lt_succ_self _)) _))
          | (with_reducible refine Blk.new' _ _ _ _ ?_; simp; done)
  case rest =>
    obtain ⟨g7, g8, rfl, rfl, rfl, hP, hQ, hbel⟩ := hcut
    obtain ⟨n0, n1, _⟩ := blk_two hP
    obtain ⟨m0, m1, _⟩ := blk_two hQ
    by_cases hE : E = 0
    · subst hE
      have hA64 : A < 18446744073709551616 := by omega
      have hB64 : B < 18446744073709551616 := by omega
      go_wp2_with fail
      refine (small_k A _ (by omega)).mono ?_
      rintro e w4 ⟨rfl, hb4⟩
      replace hbel := bl_trans hbel hb4
      replace hQ := hQ.after hb4
      clear hb4 n0 n1 m0 m1 hP
      rw [smallS_lt hA64]
      obtain ⟨m0, m1, _⟩ := blk_two hQ
      go_wp2_with fail
      refine (small_k B _ (by omega)).mono ?_
      rintro e w5 ⟨rfl, hb5⟩
      replace hbel := bl_trans hbel hb5
      clear hb5 m0 m1 hQ
      rw [smallS_lt hB64]
      have hwA : wrap64 (A : Int) = (A : Int) := by unfold wrap64; omega
      have hwB : wrap64 (B : Int) = (B : Int) := by unfold wrap64; omega
      go_wp2_with fail
      go_ret3
      exact ⟨rfl, hbel⟩
    · have d0 : (E == 0) = false := by simpa using hE
      obtain ⟨e1, e2⟩ := HE.out hE
      subst e1 e2
      clear hE HE n0 n1 m0 m1
      go_wp2_with fail
      go_ret3
      exact ⟨rfl, hbel⟩
end Go.Proofs.YtpfilldnfpcpkaaGreatDoor

namespace Go.Proofs.YtpfilldnfpcpkaaGreatDoor
open Go.RowKit

def notF (f : Nat → Bool) : Nat → Bool := fun x => !f x
set_option maxRecDepth 20000 in
set_option maxHeartbeats 1000000 in
theorem kfill_no (q g c : Nat) (v : Bool) (n : Nat) (b bits : Int) (f : Nat → Bool) (cur : Nat) (u : Bool) (m : Nat) (k : Int) (w : World) (h : SetAt w q g c v n b bits f cur) (hm : m < 340282366920938463463374607431768211456) (hE : (spanS v n b bits u m k).2.2 ≠ 0) :
    Calls Tryz.prog 38 #[.pointer (some ⟨q, 0, none⟩), .agg #[.bool u, .int .u64 (hi m), .int .u64 (lo m), .int .i64 k]] w fun e w' =>
      e = .returned (.tuple #[.int .i64 0, .int .i64 (spanS v n b bits u m k).2.2]) ∧ Below w.heap.size w w' := by
  have H := Lib.hid (fun w hh => kspan_c q g c v n b bits f cur u m k w hh hm)
  generalize (spanS v n b bits u m k).1 = A at *
  generalize (spanS v n b bits u m k).2.1 = B at *
  generalize (spanS v n b bits u m k).2.2 = E at *
  have d0 : (E == 0) = false := by simpa using hE
  go_enter Tryz.func38, Tryz.ntmps38
  go_wp2_with fail
  refine (H.out _ (h.after bl_)).mono ?_
  rintro e w1 ⟨rfl, hb1⟩
  have hbel : Below w.heap.size w w1 := bl_trans bl_ hb1
  clear hb1
  go_wp2_with fail
  go_ret2
  exact ⟨rfl, hbel⟩
set_option maxRecDepth 20000 in
set_option maxHeartbeats 1000000 in
theorem kfill_c (q g c : Nat) (v : Bool) (n : Nat) (b bits : Int) (f : Nat → Bool) (cur : Nat) (m : Nat) (k : Int) (w : World) (h : SetAt w q g c v n b bits f cur) (hm : m < 340282366920938463463374607431768211456) (ho : overlapS v n b v m k = true) :
    Calls Tryz.prog 38 #[.pointer (some ⟨q, 0, none⟩), .agg #[.bool v, .int .u64 (hi m), .int .u64 (lo m), .int .i64 k]] w fun e w' =>
      e = .returned (.tuple #[.int .i64 (cnt (notF f) (spanS v n b bits v m k).1 ((spanS v n b bits v m k).2.1 + 1 - (spanS v n b bits v m k).1) : Nat), .int .i64 0]) ∧
      SetAt w' q g c v n b bits (fun x => if (spanS v n b bits v m k).1 ≤ x ∧ x ≤ (spanS v n b bits v m k).2.1 then true else f x) cur ∧ w.grownBy w' (some c) := by
  have H := Lib.hid (fun w hh => kspan_c q g c v n b bits f cur v m k w hh hm)
  obtain ⟨s1, s2, s3, s4, _⟩ := span_between h.cuts ho
  have hB : (spanS v n b bits v m k).2.1 < nB b bits := (lenN_iff _ (bits - b).toNat).1 (by have := (cutsS_iff.1 h.cuts).2.1; omega)
  rw [s1] at H
  generalize (spanS v n b bits v m k).1 = A at *
  generalize (spanS v n b bits v m k).2.1 = B at *
  clear s1 s3 s4
  go_enter Tryz.func38, Tryz.ntmps38
  go_wp2_with fail
  refine (H.out _ (h.after bl_)).mono ?_
  rintro e w1 ⟨rfl, hb1⟩
  have hbel : Below w.heap.size w w1 := bl_trans bl_ hb1
  clear hb1
  obtain ⟨c0, c1, c2, c3, c4, c5, c6⟩ := set_cells (h.after hbel)
  go_wp2_with fail
  refine (fill_c g c (nB b bits) A B f w1 (h.after hbel).map s2 hB).mono ?_
  rintro e w2 ⟨rfl, hm2, hg2⟩
  go_wp2_with fail
  go_ret2
  exact ⟨rfl, (h.after hbel).put hm2 hg2, gb_trans (gb_below hbel) hg2⟩
end Go.Proofs.YtpfilldnfpcpkaaGreatDoor

namespace Go.Proofs.YtpfilldnfpcpkaaGreatDoor
open Go.RowKit

theorem MapAt.far2 {w : World} {g c n : Nat} {f : Nat → Bool} (h : MapAt w g c n f) {p : Addr} (h2 : g ≠ p.block) (h3 : c ≠ p.block) (u : Value) : MapAt (w.setCell p u) g c n f :=
  ⟨h.head.far h2 u, h.row.far h3 u, h.ne, h.small, h.top⟩
theorem SetAt.far {w : World} {q g c : Nat} {v : Bool} {n : Nat} {b bits : Int} {f : Nat → Bool} {cur : Nat} (h : SetAt w q g c v n b bits f cur) {p : Addr} (h1 : q ≠ p.block) (h2 : g ≠ p.block) (h3 : c ≠ p.block) (u : Value) : SetAt (w.setCell p u) q g c v n b bits f cur :=
  ⟨h.head.far h1 u, h.map.far2 h2 h3 u, h.cuts, h.few, h.at_⟩
theorem SetAt.move {w : World} {q g c : Nat} {v : Bool} {n : Nat} {b bits : Int} {f : Nat → Bool} {cur k : Nat} (h : SetAt w q g c v n b bits f cur) (hk : k < nB b bits) : SetAt (w.setCell ⟨q, 6, none⟩ (.int .i64 k)) q g c v n b bits f k :=
  ⟨h.head.put 6 _, h.map.far2 (h.head.ne h.map.head (by decide)).symm (h.head.ne h.map.row (by decide)).symm _, h.cuts, h.few, hk⟩
theorem fr2_new {a c : Nat} {u v : World} (h : Fr2 a c u v) {p : Addr} (hp : u.heap.size ≤ p.block) (x : Value) : Fr2 a c u (v.setCell p x) :=
  ⟨h.os, h.tape, h.output, by simp only [World.setCell]; simpa using h.size, fun i hi h1 h2 => (Below.heap_setCell _ _ _ _ (fun e => by rw [e] at hi; omega)).trans (h.block i hi h1 h2)⟩
theorem fr2_below {a c : Nat} {u v : World} (h : Below u.heap.size u v) : Fr2 a c u v := ⟨h.os, h.tape, h.output, h.size, fun i hi _ _ => h.block i hi⟩
theorem fr2_gb {a c : Nat} {u v : World} (h : u.grownBy v (some c)) : Fr2 a c u v := ⟨h.os, h.tape, h.output, h.size, fun i hi _ h2 => h.block i hi (fun e => h2 (by cases e; rfl))⟩
theorem bl_fr2 {a : World} {q c : Nat} {w w' : World} (h : Below a.heap.size a w) (k : Fr2 q c w w') (hq : a.heap.size ≤ q) (hc : a.heap.size ≤ c) : Below a.heap.size a w' :=
  ⟨k.os.trans h.os, k.tape.trans h.tape, k.output.trans h.output, Nat.le_trans h.size k.size, fun i hi => (k.block i (Nat.lt_of_lt_of_le hi h.size) (by omega) (by omega)).trans (h.block i hi)⟩
/-- what Next answers -/
def KNexted (q g c : Nat) (v : Bool) (n : Nat) (b bits : Int) (f : Nat → Bool) (cur : Nat) (w0 : World) (x : Ending) (w : World) : Prop :=
  (∃ j, IsNext f (nB b bits) cur j ∧ x = .returned (.tuple #[.agg #[.bool v, .int .u64 (hi (n + j * 2 ^ fr v bits)), .int .u64 (lo (n + j * 2 ^ fr v bits)), .int .i64 bits], .int .i64 0]) ∧ SetAt w q g c v n b bits (upd f j true) ((j + 1) % nB b bits) ∧ Fr2 q c w0 w) ∨
  ((∀ y, y < nB b bits → f y = true) ∧ x = .returned (.tuple #[.agg #[.bool false, .int .u64 0, .int .u64 0, .int .i64 0], .int .i64 9]) ∧ Below w0.heap.size w0 w)
set_option maxRecDepth 20000 in
set_option maxHeartbeats 1600000 in
theorem knext_c (q g c : Nat) (v : Bool) (n : Nat) (b bits : Int) (f : Nat → Bool) (cur : Nat) (w : World) (h : SetAt w q g c v n b bits f cur) (hT : Tab w) :
    Calls Tryz.prog 40 #[.pointer (some ⟨q, 0, none⟩)] w (KNexted q g c v n b bits f cur w) := by
  have hql := h.head.lt
  have hgl := h.map.head.lt
  have hcl := h.map.row.lt
  have hTl := hT.lt
  have hN := nB_le h.few
  have hN0 := nB_pos b bits
  have hcur := h.at_
  have HX := Lib.hid (fun w hh hh2 => next_c g c (nB b bits) f (cur : Int) w hh hh2)
  rw [show startAt (cur : Int) (nB b bits) = cur from by unfold startAt; rw [Int.toNat_natCast, Nat.mod_eq_of_lt hcur]] at HX
  go_enter Tryz.func40, Tryz.ntmps40
  go_wp2_with fail
  have hR : Blk (w.alloc (Obj.cells #[Value.bool false, Value.int IntKind.u64 0, Value.int IntKind.u64 0, Value.int IntKind.i64 0] 28)) w.heap.size 28 (PfxC false 0 0) := Blk.new _ _ _
  have hbel : Below w.heap.size w (w.alloc (Obj.cells #[Value.bool false, Value.int IntKind.u64 0, Value.int IntKind.u64 0, Value.int IntKind.i64 0] 28)) := bl_
  generalize w.alloc (Obj.cells #[Value.bool false, Value.int IntKind.u64 0, Value.int IntKind.u64 0, Value.int IntKind.i64 0] 28) = wz at *
  have hlt := hR.lt
  go_cut [4, 5] from 6 (fun s4 s5 wc => ∃ (j : Nat) (B : Bool), s4 = .int .i64 j ∧ s5 = .bool B ∧ (B = true → IsNext f (nB b bits) cur j) ∧ (B = false → ∀ y, y < nB b bits → f y = true) ∧ Blk wc w.heap.size 28 (PfxC false 0 0) ∧ Below w.heap.size w wc)
  case first =>
    go_region_held3 (fun w' => (w'.cell? ⟨q, 0, none⟩ = some (.bool v) ∧ w'.cell? ⟨q, 1, none⟩ = some (.int .u64 (hi n)) ∧ w'.cell? ⟨q, 2, none⟩ = some (.int .u64 (lo n)) ∧ w'.cell? ⟨q, 3, none⟩ = some (.int .i64 b) ∧ w'.cell? ⟨q, 4, none⟩ = some (.int .i64 bits) ∧ w'.cell? ⟨q, 5, none⟩ = some (.pointer (some ⟨g, 0, none⟩)) ∧ w'.cell? ⟨q, 6, none⟩ = some (.int .i64 cur)) ∧ Blk w' w.heap.size 28 (PfxC false 0 0) ∧ Below w.heap.size w w')
      (exact ⟨set_cells (h.after bl_), bk_, bl_⟩)
      (first
      | (go_at_call 89; refine (HX.out _ (h.after bl_).map (hT.after hTl bl_)).mono ?_; rintro e w3 ⟨j, B, rfl, hx1, hx2, hb3⟩))
    all_goals
      go_wp2_with fail
      go_meet
      case rel => exact ⟨j, B, rfl, rfl, hx1, fun q => (hx2 q).2, bk_, bl_⟩
  case rest =>
    obtain ⟨j, B, rfl, rfl, hx1, hx2, hR, hbel⟩ := hcut
    obtain ⟨r0, r1, r2, r3, _⟩ := blk_pfx hR
    have z0 := hR.frozen 0
    have z1 := hR.frozen 1
    have z2 := hR.frozen 2
    have z3 := hR.frozen 3
    cases B
    · have hall := Lib.hid (hx2 rfl)
      clear hx1 hx2
      go_wp2_with fail
      refine bodyPost_ret (v := .tuple #[.agg #[.bool false, .int .u64 0, .int .u64 0, .int .i64 0], .int .i64 9]) (by simp [results, Tryz.results40, go_sem, r0, r1, r2, r3, hi_zero, lo_zero]) rfl (Or.inr ⟨hall.out, rfl, bl_⟩)
    · have hn := Lib.hid (hx1 rfl)
      have hjN := hn.out.1
      have hjf := hn.out.2.1
      clear hx1 hx2 r0 r1 r2 r3 z0 z1 z2 z3
      obtain ⟨c0, c1, c2, c3, c4, c5, c6⟩ := set_cells (h.after hbel)
      have hqz : wc.frozen? ⟨q, 6, none⟩ = false := (h.after hbel).head.frozen 6
      have hw1 : wrap64 ((j : Int) + 1) = ((j + 1 : Nat) : Int) := by unfold wrap64; omega
      have hrem : Int.tmod ((j + 1 : Nat) : Int) ((nB b bits : Nat) : Int) = (((j + 1) % nB b bits : Nat) : Int) := by rw [Int.tmod_eq_emod_of_nonneg (by omega)]; omega
      have hne0 : (((nB b bits : Nat) : Int) == 0) = false := by simp; omega
      go_wp2_with fail
      refine (size_c g c _ f _ (h.after hbel).map).mono ?_
      rintro e w4 ⟨rfl, rfl⟩
      go_wp2_with fail
      rw [show ((j : Int) + 1) % ((nB b bits : Nat) : Int) = (((j + 1) % nB b bits : Nat) : Int) from by simp]
      have hqz : q ≠ w.heap.size := by omega
      have hgz : g ≠ w.heap.size := by omega
      have hcz : c ≠ w.heap.size := by omega
      have h5 := (h.after hbel).move (k := (j + 1) % nB b bits) (Nat.mod_lt _ hN0)
      have hR5 := hR.far (p := ⟨q, 6, none⟩) (by show w.heap.size ≠ q; omega) (.int .i64 (((j + 1) % nB b bits : Nat) : Int))
      have hF5 : Fr2 q c w (wc.setCell ⟨q, 6, none⟩ (.int .i64 (((j + 1) % nB b bits : Nat) : Int))) := (fr2_below hbel).set (p := ⟨q, 6, none⟩) (.inl rfl) _
      have HN := Lib.hid (Nat.mod_lt (j + 1) hN0)
      generalize (((j + 1) % nB b bits : Nat) : Int) = X at *
      generalize hk : (j + 1) % nB b bits = k at *
      clear hqz hw1 hrem hne0 c0 c1 c2 c3 c4 c5 c6
      generalize wc.setCell ⟨q, 6, none⟩ (.int .i64 X) = w5 at *
      obtain ⟨c0, c1, c2, c3, c4, c5, c6⟩ := set_cells h5
      have hqw : q ≠ w.heap.size := by omega
      have hws : w.heap.size ≤ w.heap.size := Nat.le_refl _
      go_region_held3 (fun w' => w'.cell? ⟨q, 5, none⟩ = some (.pointer (some ⟨g, 0, none⟩)))
        (first | with_reducible assumption | exact c5 | exact d5 | exact k5 | exact (((((hp7.head.far hqw _).far hqw _).far hqw _).far hqw _).cell 5).trans rfl)
        (first
        | (go_at_call 99; refine (kblock_c q g c v n b bits f k j _ (h5.after bl_) hjN).mono ?_; rintro e w6 ⟨rfl, hb6⟩; obtain ⟨hc6, hf6⟩ := bcell hb6; have hz6 := hb6.size; (try simp only [size_alloc', size_setCell', size_drew'] at hz6); have h6 := h5.after (show Below w5.heap.size w5 w6 from bl_); obtain ⟨d0, d1, d2, d3, d4, d5, d6⟩ := set_cells h6; have hR6 : Blk w6 w.heap.size 28 (PfxC false 0 0) := hR5.after (show Below w5.heap.size w5 w6 from bl_); have hF6 : Fr2 q c w w6 := hF5.trans (fr2_below (show Below w5.heap.size w5 w6 from bl_)))
        | (go_at_call 70; refine (bput_c g c _ f j w6 h6.map hjN hjf).mono ?_; rintro e w7 ⟨rfl, hm, hg⟩; have hp7 := h6.put hm hg; have hF7 : Fr2 q c w w7 := hF6.trans (fr2_gb hg); have hR7 := hR6.grown hg (some_ne (fun e => hcz e.symm)); obtain ⟨r0, r1, r2, r3, _⟩ := blk_pfx hR7; have z0 := hR7.frozen 0; have z1 := hR7.frozen 1; have z2 := hR7.frozen 2; have z3 := hR7.frozen 3; have k5 := (set_cells hp7).2.2.2.2.2.1))
      all_goals
        go_wp2_with fail
        have hRf := blk_fill4 (x := .bool v) (y := .int .u64 (hi (n + j * 2 ^ fr v bits))) (k := .int .u64 (lo (n + j * 2 ^ fr v bits))) (m := .int .i64 bits) hR7
        have hPf := (((hp7.far (p := ⟨w.heap.size, 0, none⟩) hqw hgz hcz (.bool v)).far (p := ⟨w.heap.size, 1, none⟩) hqw hgz hcz (.int .u64 (hi (n + j * 2 ^ fr v bits)))).far (p := ⟨w.heap.size, 2, none⟩) hqw hgz hcz (.int .u64 (lo (n + j * 2 ^ fr v bits)))).far (p := ⟨w.heap.size, 3, none⟩) hqw hgz hcz (.int .i64 bits)
        have hGf := fr2_new (fr2_new (fr2_new (fr2_new hF7 (p := ⟨w.heap.size, 0, none⟩) (Nat.le_refl _) (.bool v)) (p := ⟨w.heap.size, 1, none⟩) (Nat.le_refl _) (.int .u64 (hi (n + j * 2 ^ fr v bits)))) (p := ⟨w.heap.size, 2, none⟩) (Nat.le_refl _) (.int .u64 (lo (n + j * 2 ^ fr v bits)))) (p := ⟨w.heap.size, 3, none⟩) (Nat.le_refl _) (.int .i64 bits)
        generalize (((w7.setCell ⟨w.heap.size, 0, none⟩ (.bool v)).setCell ⟨w.heap.size, 1, none⟩ (.int .u64 (hi (n + j * 2 ^ fr v bits)))).setCell ⟨w.heap.size, 2, none⟩ (.int .u64 (lo (n + j * 2 ^ fr v bits)))).setCell ⟨w.heap.size, 3, none⟩ (.int .i64 bits) = wf at *
        obtain ⟨s0, s1, s2, s3, _⟩ := blk_pfx (show Blk wf w.heap.size 28 (PfxC v (n + j * 2 ^ fr v bits) bits) from hRf)
        refine bodyPost_ret (v := .tuple #[.agg #[.bool v, .int .u64 (hi (n + j * 2 ^ fr v bits)), .int .u64 (lo (n + j * 2 ^ fr v bits)), .int .i64 bits], .int .i64 0]) (by simp [results, Tryz.results40, go_sem, s0, s1, s2, s3]) rfl (Or.inl ⟨j, hn.out, rfl, by rw [hk]; exact hPf, hGf⟩)
end Go.Proofs.YtpfilldnfpcpkaaGreatDoor

namespace Go.Proofs.YtpfilldnfpcpkaaGreatDoor
open Go.RowKit

theorem cnt_topK {f : Nat → Bool} {n m : Nat} (h : ∀ x, n ≤ x → f x = false) (hm : n ≤ m) : cnt f 0 m = cnt f 0 n := by
  rw [show m = n + (m - n) from by omega, cnt_join, cnt_none (n := m - n) fun x hx _ => h x (by omega), Nat.add_zero]
theorem count_kk (g c n : Nat) (f : Nat → Bool) (w : World) (h : MapAt w g c n f) :
    Calls Tryz.prog 73 #[.pointer (some ⟨g, 0, none⟩)] w fun e w' => e = .returned (.int .i64 (cnt f 0 n : Nat)) ∧ Below w.heap.size w w' := by
  have hce := cnt_topK h.top (show n ≤ 64 * ((n + 63) / 64) by omega)
  have := count_words g c n f w h
  rw [hce] at this
  exact this.mono fun e w' ⟨a, b⟩ => ⟨a, by subst b; exact Below.refl _ _⟩
theorem ksize_c (q g c : Nat) (v : Bool) (n : Nat) (b bits : Int) (f : Nat → Bool) (cur : Nat) (w : World) (h : SetAt w q g c v n b bits f cur) :
    Calls Tryz.prog 44 #[.pointer (some ⟨q, 0, none⟩)] w fun e w' => e = .returned (.int .i64 (nB b bits : Nat)) ∧ Below w.heap.size w w' := by
  obtain ⟨c0, c1, c2, c3, c4, c5, c6⟩ := set_cells h
  go_enter Tryz.func44, Tryz.ntmps44
  go_wp2_with fail
  refine (size_c g c _ f _ h.map).mono ?_
  rintro e w' ⟨rfl, rfl⟩
  go_wp2_with fail
  go_ret
  exact ⟨rfl, bl_⟩
set_option maxRecDepth 20000 in
theorem kleft_c (q g c : Nat) (v : Bool) (n : Nat) (b bits : Int) (f : Nat → Bool) (cur : Nat) (w : World) (h : SetAt w q g c v n b bits f cur) :
    Calls Tryz.prog 39 #[.pointer (some ⟨q, 0, none⟩)] w fun e w' => e = .returned (.int .i64 ((nB b bits : Nat) - (cnt f 0 (nB b bits) : Nat))) ∧ Below w.heap.size w w' := by
  obtain ⟨c0, c1, c2, c3, c4, c5, c6⟩ := set_cells h
  have hs := h.map.small
  have hle := cnt_le f 0 (nB b bits)
  go_enter Tryz.func39, Tryz.ntmps39
  go_wp2_with fail
  go_region_held3 (fun w' => (w'.cell? ⟨q, 0, none⟩ = some (.bool v) ∧ w'.cell? ⟨q, 1, none⟩ = some (.int .u64 (hi n)) ∧ w'.cell? ⟨q, 2, none⟩ = some (.int .u64 (lo n)) ∧ w'.cell? ⟨q, 3, none⟩ = some (.int .i64 b) ∧ w'.cell? ⟨q, 4, none⟩ = some (.int .i64 bits) ∧ w'.cell? ⟨q, 5, none⟩ = some (.pointer (some ⟨g, 0, none⟩)) ∧ w'.cell? ⟨q, 6, none⟩ = some (.int .i64 cur)) ∧ Below w.heap.size w w')
    (exact ⟨set_cells (h.after bl_), bl_⟩)
    (first
    | (go_at_call 72; refine (size_c g c _ f _ ((h.after bl_).map)).mono ?_; rintro e w5 ⟨rfl, rfl⟩)
    | (go_at_call 73; refine (count_kk g c _ f _ ((h.after bl_).map)).mono ?_; rintro e w6 ⟨rfl, hb6⟩; obtain ⟨hc6, hf6⟩ := bcell hb6; have hz6 := hb6.size; (try simp only [size_alloc', size_setCell', size_drew'] at hz6)))
  all_goals
    go_wp2_with fail
    go_ret
    exact ⟨ret_int (by rw [IntKind.wrap_i64]; omega), bl_⟩
end Go.Proofs.YtpfilldnfpcpkaaGreatDoor

namespace Go.Proofs.YtpfilldnfpcpkaaGreatDoor
open Go.RowKit Go.Proofs.YtpfilldnfpcpkaaGreatDoorW.PrintWords Go.Proofs.YtpfilldnfpcpkaaGreatDoor.PPo

theorem kspan_wrong {v : Bool} {n : Nat} {b bits : Int} {u : Bool} {m : Nat} {k : Int} (h : rightP u m k = false) : (spanS v n b bits u m k).2.2 = 1 := by
  unfold spanS; rw [if_neg (by rw [h]; simp)]
theorem kspan_off {v : Bool} {n : Nat} {b bits : Int} {u : Bool} {m : Nat} {k : Int} (hc : cutsS v n b bits = true) (h : rightP u m k = true) (ho : overlapS v n b u m k = false) : (spanS v n b bits u m k).2.2 = 12 := by
  unfold spanS; rw [if_pos ⟨hc, h⟩, if_neg (by rw [ho]; decide)]
/-- the span of a prefix in a set: first, last -/
structure InSet (v : Bool) (n : Nat) (b bits : Int) (m : Nat) (k : Int) (A B : Nat) : Prop where
  le : A ≤ B
  lt : B < nB b bits
  eA : (spanS v n b bits v m k).1 = A
  eB : (spanS v n b bits v m k).2.1 = B
  over : ∀ i, i < nB b bits → overlapS v (n + i * 2 ^ fr v bits) bits v m k = (decide (A ≤ i) && decide (i ≤ B))
theorem inSet_of {v : Bool} {n : Nat} {b bits : Int} {m : Nat} {k : Int} (hc : cutsS v n b bits = true) (ho : overlapS v n b v m k = true) : ∃ A B, InSet v n b bits m k A B := by
  obtain ⟨s1, s2, s3, s4, s5⟩ := span_between hc ho
  have hbb := (cutsS_iff.1 hc).2.1
  refine ⟨_, _, s2, (lenN_iff _ (bits - b).toNat).1 (by omega), rfl, rfl, fun i hi => s5 i ?_⟩
  have := (lenN_iff i (bits - b).toNat).2 hi
  omega
theorem kblock_in {v : Bool} {n : Nat} {b bits : Int} {i : Nat} (hc : cutsS v n b bits = true) (hi : i < nB b bits) :
    rightP v (n + i * 2 ^ fr v bits) bits = true ∧ withinS v (n + i * 2 ^ fr v bits) bits v n b = true := by
  have hbb := (cutsS_iff.1 hc).2.1
  have hl : (lenN i : Int) ≤ bits - b := by
    have := (lenN_iff i (bits - b).toNat).2 hi
    omega
  obtain ⟨_, a2, a3, a4⟩ := block_at hc hl
  exact ⟨a2, within_mk a2 (cutsS_iff.1 hc).1 hbb a4⟩
/-- what is left, as the law meets it -/
theorem gleft_c (q g c : Nat) (v : Bool) (n : Nat) (b bits : Int) (f : Nat → Bool) (cur : Nat) (K : Nat) (w : World) (h : SetAt w q g c v n b bits f cur) (hK : cnt f 0 (nB b bits) = K) :
    Calls Tryz.prog 39 #[.pointer (some ⟨q, 0, none⟩)] w fun e w' => e = .returned (.int .i64 ((nB b bits : Nat) - (K : Nat))) ∧ Below w.heap.size w w' := by
  rw [← hK]
  exact kleft_c q g c v n b bits f cur w h
theorem blk_fr2 {w w' : World} {x q c : Nat} {t : TypeId} {cs : Array Value} (h : Blk w x t cs) (hF : Fr2 q c w w') (h1 : x ≠ q) (h2 : x ≠ c) : Blk w' x t cs := h.same (hF.block x h.lt h1 h2)
end Go.Proofs.YtpfilldnfpcpkaaGreatDoor

namespace Go.Proofs.YtpfilldnfpcpkaaGreatDoor
open Go.RowKit Go.Proofs.YtpfilldnfpcpkaaGreatDoorW.PrintWords Go.Proofs.YtpfilldnfpcpkaaGreatDoor.PPo

theorem pfx_info : (Tryz.prog.info? 28).map (fun i => (i.zero, i.size, i.bytes)) = some (some (.agg #[.bool false, .int .u64 0, .int .u64 0, .int .i64 0]), 4, 32) := by kernel_rfl
/-- the cells of a row of blocks, by their numbers -/
def blkV (v : Bool) (n : Nat) (bits : Int) (js : List Nat) : List Value := js.flatMap fun j => [.bool v, .int .u64 (hi (n + j * 2 ^ fr v bits)), .int .u64 (lo (n + j * 2 ^ fr v bits)), .int .i64 bits]
theorem blkV_snoc (v : Bool) (n : Nat) (bits : Int) (js : List Nat) (j : Nat) : blkV v n bits (js ++ [j]) = blkV v n bits js ++ [.bool v, .int .u64 (hi (n + j * 2 ^ fr v bits)), .int .u64 (lo (n + j * 2 ^ fr v bits)), .int .i64 bits] := by simp [blkV]
theorem blkV_get (v : Bool) (n : Nat) (bits : Int) : ∀ (js : List Nat) (i : Nat) (hi' : i < js.length),
    (blkV v n bits js)[i * 4]? = some (.bool v) ∧ (blkV v n bits js)[i * 4 + 1]? = some (.int .u64 (hi (n + js[i] * 2 ^ fr v bits))) ∧ (blkV v n bits js)[i * 4 + 2]? = some (.int .u64 (lo (n + js[i] * 2 ^ fr v bits))) ∧ (blkV v n bits js)[i * 4 + 3]? = some (.int .i64 bits)
  | [], i, h => absurd h (Nat.not_lt_zero _)
  | j :: js, 0, _ => ⟨rfl, rfl, rfl, rfl⟩
  | j :: js, i + 1, h => by
    have := blkV_get v n bits js i (by simpa using h)
    have e : ∀ k, (blkV v n bits (j :: js))[(i + 1) * 4 + k]? = (blkV v n bits js)[i * 4 + k]? := fun k => by
      rw [show (i + 1) * 4 + k = (i * 4 + k) + 4 from by omega]
      simp [blkV, List.flatMap_cons]
    refine ⟨(e 0).trans this.1, (e 1).trans this.2.1, (e 2).trans this.2.2.1, (e 3).trans this.2.2.2⟩
theorem own_afterS {w w' : World} {base n size : Nat} {e : TypeId} {v : Value} {xs : List Value} (h : w.ownsRow base e size v n xs) (hb : Below w.heap.size w w') : w'.ownsRow base e size v n xs :=
  h.kept (row := none) ⟨hb.os, hb.tape, hb.output, hb.size, fun k hk _ => hb.block k hk⟩ (by rcases v.ownBlock with _ | g <;> simp)
theorem below_ownS {a wr w' : World} {v : Value} {base n size : Nat} {e : TypeId} {xs : List Value} (h : Below a.heap.size a wr) (hown : wr.ownsRow base e size v n xs) (hb : a.heap.size ≤ base) {o : Obj} (hg : (wr.alloc o).grownBy w' v.ownBlock) : Below a.heap.size a w' :=
  (bl_alloc h o).grown hg (by have := h.size; simp; omega) fun k hk => Nat.le_trans hb ((hown.lt k hk).1)
theorem own_sliceS {w : World} {base n size : Nat} {e : TypeId} {v : Value} {xs : List Value} (h : w.ownsRow base e size v n xs) : ∃ a c, v = .slice a n c := by
  rcases h.2 with ⟨rfl, h0⟩ | ⟨g, cap, cur, hv, _⟩
  · subst h0; exact ⟨_, _, rfl⟩
  · exact ⟨_, _, hv⟩
theorem cell_listS (w : World) (l : List Value) (t : TypeId) : ∀ j x, l[j]? = some x → (w.alloc (.cells l.toArray t)).cell? ((⟨w.heap.size, 0, none⟩ : Addr).add j) = some x := by
  intro j x h
  have e : (⟨w.heap.size, 0, none⟩ : Addr).add j = ⟨w.heap.size, j, none⟩ := by unfold Addr.add; split <;> simp_all
  rw [e, (Blk.new w t l.toArray).cell j]; simpa using h
/-- which of the first numbers are used -/
def usedTo (f : Nat → Bool) (z : Nat) : List Nat := (List.range z).filter f
theorem usedTo_yes {f : Nat → Bool} {z : Nat} (h : f z = true) : usedTo f (z + 1) = usedTo f z ++ [z] := by simp [usedTo, List.range_succ, List.filter_append, h]
theorem usedTo_no {f : Nat → Bool} {z : Nat} (h : f z = false) : usedTo f (z + 1) = usedTo f z := by simp [usedTo, List.range_succ, List.filter_append, h]
theorem usedTo_len (f : Nat → Bool) (z : Nat) : (usedTo f z).length ≤ z := by
  have := List.length_filter_le f (List.range z); simpa [usedTo] using this
theorem usedTo_all {f : Nat → Bool} {z : Nat} (h : ∀ y, y < z → f y = true) : (usedTo f z).length = z := by
  induction z with
  | zero => rfl
  | succ z ih => rw [usedTo_yes (h z (by omega)), List.length_append, ih fun y hy => h y (by omega)]; rfl
set_option maxRecDepth 20000 in
set_option maxHeartbeats 3200000 in
theorem kused_c (q g c : Nat) (v : Bool) (n : Nat) (b bits : Int) (f : Nat → Bool) (cur : Nat) (w : World) (h : SetAt w q g c v n b bits f cur) :
    Calls Tryz.prog 43 #[.pointer (some ⟨q, 0, none⟩)] w fun e w' => ∃ p cap, e = .returned (.slice p (usedTo f (nB b bits)).length cap) ∧
      w'.ownsRow w.heap.size 28 4 (.slice p (usedTo f (nB b bits)).length cap) (usedTo f (nB b bits)).length (blkV v n bits (usedTo f (nB b bits))) ∧ Below w.heap.size w w' := by
  have hN := nB_le h.few
  obtain ⟨c0, c1, c2, c3, c4, c5, c6⟩ := set_cells h
  obtain ⟨i0, hi0, hz0, hz1, hz2⟩ := info_parts pfx_info
  go_enter Tryz.func43, Tryz.ntmps43
  go_wp2_with fail
  refine (size_c g c _ f _ h.map).mono ?_
  rintro e w1 ⟨rfl, rfl⟩
  go_wp2_with fail
  clear c0 c1 c2 c3 c4 c5 c6
  go_loopw [3, 12] (fun s i wr => ∃ (z : Nat) (p : Option Addr) (cap : Nat), z ≤ nB b bits ∧ i = .int .i64 z ∧ s = .slice p (usedTo f z).length cap ∧ wr.ownsRow w.heap.size 28 4 (.slice p (usedTo f z).length cap) (usedTo f z).length (blkV v n bits (usedTo f z)) ∧ Below w.heap.size w wr) (fun _ i _ => nB b bits - (intOf i).toNat)
  case atStart => exact ⟨0, none, 0, Nat.zero_le _, rfl, rfl, World.ownsRow_nil _ _ _ _, bl_⟩
  case round =>
    obtain ⟨z, p, cap, hz, rfl, rfl, hown, hb⟩ := hrel
    obtain ⟨c0, c1, c2, c3, c4, c5, c6⟩ := set_cells (h.after hb)
    have hlen := usedTo_len f z
    by_cases hlt : z < nB b bits
    · have d1 : decide (z < nB b bits) = true := decide_eq_true hlt
      have d2 : decide ((z : Int) < (nB b bits : Nat)) = true := decide_eq_true (by omega)
      go_wp2_with fail
      refine (has_yes g c _ f z _ (h.after hb).map hlt).mono ?_
      rintro e w3 ⟨rfl, rfl⟩
      cases hf : f z
      · have HU := Lib.hid (usedTo_no hf)
        go_wp2_with fail
        go_roundw
        case rel => exact ⟨z + 1, p, cap, by omega, by go_num, by rw [HU.out], by rw [HU.out]; exact own_afterS hown (bl_drew (Below.refl _ _)), bl_drew hb⟩
        case measure => simp [intOf]; omega
      · have HU := Lib.hid (usedTo_yes hf)
        go_wp2_with fail
        refine (kblock_c q g c v n b bits f cur z _ (h.after bl_) hlt).mono ?_
        rintro e w4 ⟨rfl, hb4⟩
        have hown4 := own_afterS (own_afterS hown (bl_drew (Below.refl _ _))) hb4
        replace hb : Below w.heap.size w w4 := bl_trans bl_ hb4
        clear hb4 c0 c1 c2 c3 c4 c5 c6
        go_wp2_with (at_builtin; refine wpList_append_own _ rfl _ _ 63 rfl w.heap.size 28 i0 (.agg #[.bool false, .int .u64 0, .int .u64 0, .int .i64 0]) 4 32 Tryz.underlying63 hi0 hz0 hz1 hz2 rfl (by decide) _ _ _ rfl (hown4.alloc _) ⟨w4.heap.size, 0, none⟩ 1 1 [.bool v, .int .u64 (hi (n + z * 2 ^ fr v bits)), .int .u64 (lo (n + z * 2 ^ fr v bits)), .int .i64 bits] rfl rfl ?q1 ?q2 ?q3 ?q4 ?q5 ?_)
        case q1 => exact cell_listS _ _ _
        case q2 => intro u hu; simp at hu; rcases hu with rfl | rfl | rfl | rfl <;> rfl
        case q3 => simp only [maxLen]; omega
        case q4 => omega
        case q5 => have := hb.size; simp; omega
        intro v' w5 hown' hgrow _
        have hbel5 := below_ownS hb hown4 (Nat.le_refl _) hgrow
        obtain ⟨ga, gc, rfl⟩ := own_sliceS hown'
        clear hgrow hown4 hown hb
        go_wp2_with fail
        go_roundw
        case rel => exact ⟨z + 1, ga, gc, by omega, by go_num, by rw [HU.out]; simp, by rw [HU.out, blkV_snoc, List.length_append]; exact hown', hbel5⟩
        case measure => simp [intOf]; omega
    · have d1 : decide (z < nB b bits) = false := decide_eq_false hlt
      have d2 : decide ((z : Int) < (nB b bits : Nat)) = false := decide_eq_false (by omega)
      obtain rfl : z = nB b bits := by omega
      go_wp2_with fail
      go_ret
      exact ⟨p, cap, rfl, hown, hb⟩
end Go.Proofs.YtpfilldnfpcpkaaGreatDoor

namespace Go.Proofs.YtpfilldnfpcpkaaGreatDoor
open Go.RowKit Go.Proofs.YtpfilldnfpcpkaaGreatDoorW.PrintWords Go.Proofs.YtpfilldnfpcpkaaGreatDoor.PPo

theorem kblock_lt {v : Bool} {n : Nat} {b bits : Int} {i : Nat} (hc : cutsS v n b bits = true) (hi : i < nB b bits) : n + i * 2 ^ fr v bits < 340282366920938463463374607431768211456 :=
  Nat.lt_of_lt_of_le (rightP_iff.1 (kblock_in hc hi).1).1 (pow_w v)
/-- two blocks of a set lie apart -/
theorem kblocks_apart {v : Bool} {n : Nat} {b bits : Int} {i j : Nat} (hc : cutsS v n b bits = true) (hi : i < nB b bits) (hj : j < nB b bits) (hne : i ≠ j) : overlapS v (n + i * 2 ^ fr v bits) bits v (n + j * 2 ^ fr v bits) bits = false := by
  rw [Bool.eq_false_iff]
  intro h
  obtain ⟨h1, h2⟩ := (overlap_iff (kblock_in hc hi).1 (kblock_in hc hj).1).1 h
  have hp := Nat.two_pow_pos (fr v bits)
  generalize 2 ^ fr v bits = P at *
  rcases Nat.lt_or_gt_of_ne hne with q | q
  · have := Nat.mul_le_mul_right P (show i + 1 ≤ j from q)
    rw [Nat.add_mul, Nat.one_mul] at this
    omega
  · have := Nat.mul_le_mul_right P (show j + 1 ≤ i from q)
    rw [Nat.add_mul, Nat.one_mul] at this
    omega
/-- what overlaps a block overlaps the prefix -/
theorem kblock_over {v : Bool} {n : Nat} {b bits : Int} {j : Nat} {u : Bool} {m : Nat} {k : Int} (hc : cutsS v n b bits = true) (hj : j < nB b bits) (h : overlapS v (n + j * 2 ^ fr v bits) bits u m k = true) : overlapS v n b u m k = true := by
  obtain ⟨rfl, r1, r2⟩ := overlap_kind h
  obtain ⟨h1, h2⟩ := (overlap_iff r1 r2).1 h
  obtain ⟨e1, e2⟩ := within_ends (kblock_in hc hj).2
  exact (overlap_iff (cutsS_iff.1 hc).1 r2).2 ⟨by omega, by omega⟩
theorem kocc_c (q g c : Nat) (v : Bool) (n : Nat) (b bits : Int) (f : Nat → Bool) (cur : Nat) (u : Bool) (m : Nat) (k : Int) (w : World) (h : SetAt w q g c v n b bits f cur) (hm : m < 340282366920938463463374607431768211456) :
    Calls Tryz.prog 38 #[.pointer (some ⟨q, 0, none⟩), .agg #[.bool u, .int .u64 (hi m), .int .u64 (lo m), .int .i64 k]] w fun e w' => ∃ (A B : Int) (f' : Nat → Bool), e = .returned (.tuple #[.int .i64 A, .int .i64 B]) ∧ SetAt w' q g c v n b bits f' cur ∧
      (∀ j, f j = true → f' j = true) ∧ (∀ j, j < nB b bits → overlapS v (n + j * 2 ^ fr v bits) bits u m k = true → f' j = true) ∧ w.grownBy w' (some c) := by
  by_cases ho : overlapS v n b u m k = true
  · obtain ⟨rfl, _, _⟩ := overlap_kind ho
    obtain ⟨A, B, hI⟩ := inSet_of h.cuts ho
    have := kfill_c q g c u n b bits f cur m k w h hm ho
    rw [hI.eA, hI.eB] at this
    refine this.mono fun e w' ⟨he, hs, hg⟩ => ⟨_, _, _, he, hs, ?_, ?_, hg⟩
    · intro j hj
      show (if A ≤ j ∧ j ≤ B then true else f j) = true
      by_cases q : A ≤ j ∧ j ≤ B
      · rw [if_pos q]
      · rw [if_neg q]; exact hj
    · intro j hj h2
      rw [hI.over j hj] at h2
      simp only [Bool.and_eq_true, decide_eq_true_iff] at h2
      exact if_pos h2
  · have hE : (spanS v n b bits u m k).2.2 ≠ 0 := by
      cases hr : rightP u m k
      · rw [kspan_wrong hr]; decide
      · rw [kspan_off h.cuts hr (Bool.eq_false_iff.2 ho)]; decide
    exact (kfill_no q g c v n b bits f cur u m k w h hm hE).mono fun e w' ⟨he, hb⟩ => ⟨_, _, f, he, h.after hb, fun _ h => h, fun j hj h2 => absurd (kblock_over h.cuts hj h2) ho, gb_below hb⟩
theorem cnt_one {f : Nat → Bool} {n x : Nat} (hx : x < n) (hf : f x = false) : cnt f 0 n < n := by
  have := cnt_add hx hf
  have := cnt_le (upd f x true) 0 n
  omega
theorem cnt_all_of {f : Nat → Bool} {n : Nat} (h : cnt f 0 n = n) : ∀ x, x < n → f x = true := by
  intro x hx
  cases hf : f x
  · have := cnt_one hx hf; omega
  · rfl
/-- the prefixes that came in -/
structure PfxRow (w : World) (p : Option Addr) (len : Nat) (U : Nat → Bool) (M : Nat → Nat) (C : Nat → Int) : Prop where
  lt : ∀ i, i < len → M i < 340282366920938463463374607431768211456
  cells : ∀ i, i < len → ∃ (a : Addr), p = some a ∧ a.block < w.heap.size ∧ w.cell? (a.add (i * 4)) = some (.bool (U i)) ∧ w.cell? ⟨(a.add (i * 4)).block, (a.add (i * 4)).off + 1, none⟩ = some (.int .u64 (hi (M i))) ∧
    w.cell? ⟨(a.add (i * 4)).block, (a.add (i * 4)).off + 2, none⟩ = some (.int .u64 (lo (M i))) ∧ w.cell? ⟨(a.add (i * 4)).block, (a.add (i * 4)).off + 3, none⟩ = some (.int .i64 (C i))
theorem add_block (a : Addr) (k : Nat) : (a.add k).block = a.block := by unfold Addr.add; split <;> rfl
theorem PfxRow.after {w w' : World} {p : Option Addr} {len : Nat} {U : Nat → Bool} {M : Nat → Nat} {C : Nat → Int} (h : PfxRow w p len U M C) (hb : Below w.heap.size w w') : PfxRow w' p len U M C := by
  refine ⟨h.lt, fun i hi => ?_⟩
  obtain ⟨a, e, hl, h0, h1, h2, h3⟩ := h.cells i hi
  have hs := hb.size
  have hbl : (a.add (i * 4)).block < w.heap.size := by rw [add_block]; exact hl
  exact ⟨a, e, by omega, (hb.cell hbl).trans h0, (hb.cell (p := ⟨_, _, none⟩) hbl).trans h1, (hb.cell (p := ⟨_, _, none⟩) hbl).trans h2, (hb.cell (p := ⟨_, _, none⟩) hbl).trans h3⟩
end Go.Proofs.YtpfilldnfpcpkaaGreatDoor

namespace Go.Proofs.YtpfilldnfpcpkaaGreatDoor
open Go.RowKit Go.Proofs.YtpfilldnfpcpkaaGreatDoorW.PrintWords Go.Proofs.YtpfilldnfpcpkaaGreatDoor.PPo

theorem glob_tabK {w : World} (h : Glob w) : Tab w := h.bru
theorem IsNext.oneK {f : Nat → Bool} {n a j k : Nat} (h : IsNext f n a j) (hk : k < n) (hf : f k = false) (ha : a ≤ k) (hy : ∀ y, a ≤ y → y < k → f y = true) : j = k := by
  obtain ⟨q1, q2, q3⟩ := h
  rcases q3 with ⟨q3, q4⟩ | ⟨q3, q4, q5⟩
  · rcases Nat.lt_trichotomy j k with e | e | e
    · rw [hy j q3 e] at q2; cases q2
    · exact e
    · rw [q4 k ha e] at hf; cases hf
  · rw [q4 k ha hk] at hf; cases hf
/-- the example's bits -/
def exK : Nat → Bool := fun x => if 0 ≤ x ∧ x ≤ 1 then true else false
theorem exk_new (w : World) :
    Calls Tryz.prog 37 #[.agg #[.bool false, .int .u64 0, .int .u64 167772160, .int .i64 8], .int .i64 16] w fun e w' => ∃ q g c, e = .returned (.tuple #[.pointer (some ⟨q, 0, none⟩), .int .i64 0]) ∧
      SetAt w' q g c false 167772160 8 16 (fun _ => false) 0 ∧ Below w.heap.size w w' ∧ w.heap.size ≤ q ∧ w.heap.size ≤ g ∧ w.heap.size ≤ c :=
  knew_c false 167772160 8 16 w (by decide) (by decide)
theorem exk_span : spanS false 167772160 8 16 false 167772160 15 = (0, 1, 0) := by decide +kernel
theorem exk_fill (q g c : Nat) (w : World) (h : SetAt w q g c false 167772160 8 16 (fun _ => false) 0) :
    Calls Tryz.prog 38 #[.pointer (some ⟨q, 0, none⟩), .agg #[.bool false, .int .u64 0, .int .u64 167772160, .int .i64 15]] w fun e w' =>
      e = .returned (.tuple #[.int .i64 2, .int .i64 0]) ∧ SetAt w' q g c false 167772160 8 16 exK 0 ∧ w.grownBy w' (some c) := by
  have := kfill_c q g c false 167772160 8 16 (fun _ => false) 0 167772160 15 w h (by decide) (by decide +kernel)
  rw [exk_span] at this
  exact this
theorem exk_next (q g c : Nat) (w : World) (h : SetAt w q g c false 167772160 8 16 exK 0) (hT : Tab w) :
    Calls Tryz.prog 40 #[.pointer (some ⟨q, 0, none⟩)] w fun x w' =>
      x = .returned (.tuple #[.agg #[.bool false, .int .u64 0, .int .u64 167903232, .int .i64 16], .int .i64 0]) ∧ Fr2 q c w w' := by
  refine (knext_c q g c false 167772160 8 16 exK 0 w h hT).mono ?_
  rintro e w' (⟨j, hj, rfl, _, hF⟩ | ⟨hall, _, _⟩)
  · obtain rfl : j = 2 := hj.oneK (by decide) (by decide) (by decide) (fun y _ h2 => by unfold exK; rw [if_pos ⟨by omega, by omega⟩])
    exact ⟨by rw [show 167772160 + 2 * 2 ^ fr false 16 = 167903232 from by decide]; rfl, hF⟩
  · exact absurd (hall 2 (by decide)) (by decide)
set_option maxRecDepth 20000 in
set_option maxHeartbeats 1000000 in
theorem awake07_c (w : World) (hG : Glob w) :
    Calls Tryz.prog 35 #[] w fun e w' => e = .returned (.bool true) ∧ Below w.heap.size w w' := by
  have HP := Lib.hid (fun w hG => prefix_Parse.calls ⟨#[49, 48, 46, 48, 46, 48, 46, 48, 47, 56]⟩ false 0 167772160 8 0 w hG (by decide +kernel))
  have HQ := Lib.hid (fun w hG => prefix_Parse.calls ⟨#[49, 48, 46, 48, 46, 48, 46, 48, 47, 49, 53]⟩ false 0 167772160 15 0 w hG (by decide +kernel))
  have HA := Lib.hid (fun w hG => prefix_Print.calls false 0 167903232 16 ⟨#[49, 48, 46, 50, 46, 48, 46, 48, 47, 49, 54]⟩ w hG (by decide +kernel))
  have hGw := Lib.hid hG
  go_enter Tryz.func35, Tryz.ntmps35
  go_wp2_with fail
  with_reducible refine (HP.out w hG).mono ?_
  rintro e w1 ⟨rfl, hbel⟩
  clear HP
  go_wp2_with fail
  have hA := Blk.new w1 28 #[.bool false, .int .u64 0, .int .u64 167772160, .int .i64 8]
  replace hbel := bl_alloc hbel (.cells #[.bool false, .int .u64 0, .int .u64 167772160, .int .i64 8] 28)
  generalize w1.alloc (.cells #[.bool false, .int .u64 0, .int .u64 167772160, .int .i64 8] 28) = w2 at *
  generalize w1.heap.size = ga at *
  refine (HQ.out w2 (hGw.out.after hbel)).mono ?_
  rintro e w3 ⟨rfl, hb3⟩
  replace hA := hA.after hb3
  replace hbel := bl_trans hbel hb3
  clear hb3
  have hal := hA.lt
  have a0 := (hA.cell 0).trans rfl
  have a1 := (hA.cell 1).trans rfl
  have a2 := (hA.cell 2).trans rfl
  have a3 := (hA.cell 3).trans rfl
  simp only [List.getElem?_toArray, List.getElem?_cons_zero, List.getElem?_cons_succ] at a0 a1 a2 a3
  go_wp2_with fail
  have hB := Blk.new w3 28 #[.bool false, .int .u64 0, .int .u64 167772160, .int .i64 15]
  replace hbel := bl_alloc hbel (.cells #[.bool false, .int .u64 0, .int .u64 167772160, .int .i64 15] 28)
  clear a0 a1 a2 a3 hA hal
  generalize w3.alloc (.cells #[.bool false, .int .u64 0, .int .u64 167772160, .int .i64 15] 28) = w4 at *
  generalize w3.heap.size = gb at *
  refine (exk_new w4).mono ?_
  rintro e w5 ⟨q, g, c, rfl, hs, hb5, hq, -, hc⟩
  have hqw : w.heap.size ≤ q := Nat.le_trans hbel.size hq
  have hcw : w.heap.size ≤ c := Nat.le_trans hbel.size hc
  replace hB := hB.after hb5
  replace hbel := bl_trans hbel hb5
  clear hb5 hq hc
  have a0 := (hB.cell 0).trans rfl
  have a1 := (hB.cell 1).trans rfl
  have a2 := (hB.cell 2).trans rfl
  have a3 := (hB.cell 3).trans rfl
  simp only [List.getElem?_toArray, List.getElem?_cons_zero, List.getElem?_cons_succ] at a0 a1 a2 a3
  go_wp2_with fail
  refine (exk_fill q g c w5 hs).mono ?_
  rintro e w6 ⟨rfl, hs6, hg6⟩
  replace hbel := bl_grown hbel hg6 hcw
  clear a0 a1 a2 a3 hB hs hg6
  go_wp2_with fail
  refine (exk_next q g c w6 hs6 (glob_tabK (hGw.out.after hbel))).mono ?_
  rintro e w7 ⟨rfl, hF⟩
  replace hbel := bl_fr2 hbel hF hqw hcw
  clear hs6 hF
  go_wp2_with fail
  refine (HA.out _ (hGw.out.after (bl_alloc hbel _))).mono ?_
  rintro e w8 ⟨rfl, hb8⟩
  replace hbel := bl_trans (bl_alloc hbel _) hb8
  clear hb8
  go_wp2_with fail
  go_ret
  exact ⟨rfl, hbel⟩
end Go.Proofs.YtpfilldnfpcpkaaGreatDoor

namespace Go.Proofs.YtpfilldnfpcpkaaGreatDoor
open Go.RowKit Go.Proofs.YtpfilldnfpcpkaaGreatDoorW.PrintWords Go.Proofs.YtpfilldnfpcpkaaGreatDoor.PPo

theorem pcells_of {w : World} {g : Nat} {v : Bool} {x y k : Int} (h : Blk w g 28 #[.bool v, .int .u64 x, .int .u64 y, .int .i64 k]) :
    w.cell? ⟨g, 0, none⟩ = some (.bool v) ∧ w.cell? ⟨g, 1, none⟩ = some (.int .u64 x) ∧ w.cell? ⟨g, 2, none⟩ = some (.int .u64 y) ∧ w.cell? ⟨g, 3, none⟩ = some (.int .i64 k) :=
  ⟨(h.cell 0).trans rfl, (h.cell 1).trans rfl, (h.cell 2).trans rfl, (h.cell 3).trans rfl⟩
end Go.Proofs.YtpfilldnfpcpkaaGreatDoor

namespace Go.Proofs.YtpfilldnfpcpkaaGreatDoor
open Go.RowKit Go.Proofs.YtpfilldnfpcpkaaGreatDoorW.PrintWords Go.Proofs.YtpfilldnfpcpkaaGreatDoor.PPo

theorem own_pfxRow {w : World} {base cap : Nat} {p : Option Addr} {v : Bool} {n : Nat} {bits : Int} {js : List Nat} (h : w.ownsRow base 28 4 (.slice p js.length cap) js.length (blkV v n bits js)) (hl : ∀ j ∈ js, n + j * 2 ^ fr v bits < 340282366920938463463374607431768211456) :
    PfxRow w p js.length (fun _ => v) (fun t => n + js.getD t 0 * 2 ^ fr v bits) (fun _ => bits) := by
  refine ⟨fun i hi => hl _ (by simp [List.getD, hi]), fun i hi => ?_⟩
  rcases h.2 with ⟨e, h0⟩ | ⟨g, cap', cur, e, hb, hh, _⟩
  · omega
  · cases e
    have hg : (Value.slice (some (⟨g, 0, none⟩ : Addr)) js.length cap).ownBlock = some g := rfl
    obtain ⟨e0, e1, e2, e3⟩ := blkV_get v n bits js i hi
    have hc := h.cells hg
    have hs : (⟨g, 0, none⟩ : Addr).add (i * 4) = ⟨g, i * 4, none⟩ := by unfold Addr.add; split <;> simp_all
    have ha : ∀ k, (⟨g, 0, none⟩ : Addr).add (i * 4 + k) = ⟨g, i * 4 + k, none⟩ := fun k => by unfold Addr.add; split <;> simp_all
    have c0 := hc _ _ e0
    have c1 := hc _ _ e1
    have c2 := hc _ _ e2
    have c3 := hc _ _ e3
    rw [ha] at c1 c2 c3
    have hd : js.getD i 0 = js[i] := by simp [List.getD, hi]
    refine ⟨_, rfl, ?_, c0, ?_, ?_, ?_⟩
    · rcases Nat.lt_or_ge g w.heap.size with k | k
      · exact k
      · rw [Array.getElem?_eq_none k] at hh; cases hh
    · rw [hs, hd]; exact c1
    · rw [hs, hd]; exact c2
    · rw [hs]; exact c3
theorem PfxRow.at_ {w : World} {p : Option Addr} {len : Nat} {U : Nat → Bool} {M : Nat → Nat} {C : Nat → Int} (h : PfxRow w p len U M C) {i : Nat} (hi' : i < len) : ∃ (a : Addr), p = some a ∧ a.block < w.heap.size ∧ ∀ w', Below w.heap.size w w' →
    (w'.cell? (a.add (i * 4)) = some (.bool (U i)) ∧ w'.cell? ⟨(a.add (i * 4)).block, (a.add (i * 4)).off + 1, none⟩ = some (.int .u64 (hi (M i))) ∧ w'.cell? ⟨(a.add (i * 4)).block, (a.add (i * 4)).off + 2, none⟩ = some (.int .u64 (lo (M i))) ∧ w'.cell? ⟨(a.add (i * 4)).block, (a.add (i * 4)).off + 3, none⟩ = some (.int .i64 (C i))) := by
  obtain ⟨a, e, hl, h0, h1, h2, h3⟩ := h.cells i hi'
  have hbl : (a.add (i * 4)).block < w.heap.size := by rw [add_block]; exact hl
  exact ⟨a, e, hl, fun w' hb => ⟨(hb.cell hbl).trans h0, (hb.cell (p := ⟨_, _, none⟩) hbl).trans h1, (hb.cell (p := ⟨_, _, none⟩) hbl).trans h2, (hb.cell (p := ⟨_, _, none⟩) hbl).trans h3⟩⟩
theorem own_fr2 {w w' : World} {base n size q c : Nat} {e tq tc : TypeId} {v : Value} {xs : List Value} {cq cc : Array Value} (h : w.ownsRow base e size v n xs) (hF : Fr2 q c w w') (hq : Blk w q tq cq) (hc : Blk w c tc cc) (h1 : tq ≠ e) (h2 : tc ≠ e) : w'.ownsRow base e size v n xs := by
  have n1 := hq.ne_own h h1
  have n2 := hc.ne_own h h2
  refine ⟨h.1, h.2.imp id ?_⟩
  rintro ⟨g, cap, cur, rfl, hb, hh, h3⟩
  refine ⟨g, cap, cur, rfl, hb, ?_, h3⟩
  have hg : g < w.heap.size := by
    rcases Nat.lt_or_ge g w.heap.size with k | k
    · exact k
    · rw [Array.getElem?_eq_none k] at hh; cases hh
  rw [hF.block g hg (fun e => n1 (by simp [Value.ownBlock, e])) (fun e => n2 (by simp [Value.ownBlock, e]))]
  exact hh
theorem SetAt.own {w w' : World} {q g c : Nat} {v : Bool} {n : Nat} {b bits : Int} {f : Nat → Bool} {cur : Nat} (h : SetAt w q g c v n b bits f cur) {base m size : Nat} {u : Value} {xs : List Value} (ho : w.ownsRow base 28 size u m xs) (hg : w.grownBy w' u.ownBlock) : SetAt w' q g c v n b bits f cur :=
  ⟨h.head.grown hg (h.head.ne_own ho (by decide)), ⟨h.map.head.grown hg (h.map.head.ne_own ho (by decide)), h.map.row.grown hg (h.map.row.ne_own ho (by decide)), h.map.ne, h.map.small, h.map.top⟩, h.cuts, h.few, h.at_⟩
theorem cnt_full {f : Nat → Bool} {N : Nat} (h : ∀ y, y < N → f y = true) : cnt f 0 N = N := by
  have := cnt_all (f := f) (a := 0) (n := N) (fun x _ hx => h x (by omega))
  exact this
theorem ksmall_k (v : Bool) (n : Nat) (b bits : Int) (w : World) (hn : n < 340282366920938463463374607431768211456) :
    Calls Tryz.prog 36 #[.agg #[.bool v, .int .u64 (hi n), .int .u64 (lo n), .int .i64 b], .int .i64 bits] w fun e w' => e = .returned (.bool (cutsS v n b bits && decide (bits - b ≤ 8))) ∧ Below w.heap.size w w' :=
  platbooklaw07_small.calls 600 v (hi n) (lo n) b bits _ w (by
    unfold platbooklaw07_small.f
    rw [rcuts_f 600 (Nat.le_refl _) v n b bits hn]
    simp only [bsome]
    cases hc : cutsS v n b bits
    · simp
    · obtain ⟨h1, h2, h3⟩ := cutsS_iff.1 hc
      obtain ⟨_, r2, r3, _⟩ := rightP_iff.1 h1
      have := widthN_le v
      rw [w64 (by omega) (by omega)]
      simp)
set_option maxRecDepth 100000 in
set_option maxHeartbeats 8000000 in
theorem blocksApart_walk (v : Bool) (n : Nat) (b bits : Int) (p : Option Addr) (len cap : Nat) (U : Nat → Bool) (M : Nat → Nat) (C : Nat → Int) (w : World) (hn : n < 340282366920938463463374607431768211456) (_ : (Lit.int .i64 b).wf = true) (hlen : len ≤ 9223372036854775807) (hP : PfxRow w p len U M C) (hG : Glob w) :
    Calls Tryz.prog 5 #[PfxV v n b, .int .i64 bits, .slice p len cap] w fun e w' => e = .returned (.bool true) ∧ Below w.heap.size w w' := by
  have hGw := Lib.hid hG
  have HSm := Lib.hid (fun w => ksmall_k v n b bits w hn)
  unfold PfxV PfxC
  go_enter Tryz.func5, Tryz.ntmps5
  go_wp2_with fail
  have hA : Blk (w.alloc (Obj.cells #[.bool v, .int .u64 (hi n), .int .u64 (lo n), .int .i64 b] 28)) (w.heap.size) 28 #[.bool v, .int .u64 (hi n), .int .u64 (lo n), .int .i64 b] := (Blk.new' _ _ _ _ (by simp) : Blk (w.alloc (Obj.cells #[.bool v, .int .u64 (hi n), .int .u64 (lo n), .int .i64 b] 28)) (w.heap.size) 28 #[.bool v, .int .u64 (hi n), .int .u64 (lo n), .int .i64 b])
  have hbel : Below w.heap.size w (w.alloc (Obj.cells #[.bool v, .int .u64 (hi n), .int .u64 (lo n), .int .i64 b] 28)) := bl_
  have hsz : (w.alloc (Obj.cells #[.bool v, .int .u64 (hi n), .int .u64 (lo n), .int .i64 b] 28)).heap.size = w.heap.size + 1 := by simp
  generalize w.alloc (Obj.cells #[.bool v, .int .u64 (hi n), .int .u64 (lo n), .int .i64 b] 28) = w1 at *
  refine (awake07_c w1 (hGw.out.after hbel)).mono ?_
  rintro e w2 ⟨rfl, hb⟩
  (try clear a0 a1 a2 a3)
  replace hA := hA.after hb
  replace hbel := bl_trans hbel hb
  clear hb
  obtain ⟨a0, a1, a2, a3⟩ := pcells_of hA
  go_wp2_with fail
  refine (HSm.out _).mono ?_
  rintro e w3 ⟨rfl, hb⟩
  clear a0 a1 a2 a3
  replace hA := hA.after hb
  replace hbel := bl_trans hbel hb
  clear hb
  obtain ⟨a0, a1, a2, a3⟩ := pcells_of hA
  by_cases hs : (cutsS v n b bits && decide (bits - b ≤ 8)) = true
  rotate_left
  · rw [Bool.not_eq_true] at hs
    rw [hs]
    go_wp2_with fail
    go_ret
    exact ⟨rfl, hbel⟩
  rw [hs]
  rw [Bool.and_eq_true, decide_eq_true_iff] at hs
  obtain ⟨hc, h8⟩ := hs
  by_cases hl : 20 < len
  · have d1 : decide (20 < len) = true := decide_eq_true hl
    have d2 : decide ((20 : Int) < (len : Int)) = true := decide_eq_true (by omega)
    go_wp2_with fail
    go_ret
    exact ⟨rfl, hbel⟩
  have d1 : decide (20 < len) = false := decide_eq_false hl
  have d2 : decide ((20 : Int) < (len : Int)) = false := decide_eq_false (by omega)
  have h16 : bits - b ≤ 16 := by omega
  have hN := nB_le h16
  go_wp2_with fail
  have la := hA.lt
  have l2 := hbel.size
  refine (knew_c v n b bits _ hc h16).mono ?_
  rintro e w4 ⟨q, g, c, rfl, hs, hb, hq, -, hcc⟩
  have naq : w.heap.size ≠ q := by omega
  have nac : w.heap.size ≠ c := by omega
  have hqw : w.heap.size ≤ q := by omega
  have hcw : w.heap.size ≤ c := by omega
  clear la l2 hq hcc a0 a1 a2 a3
  replace hA := hA.after hb
  replace hbel := bl_trans hbel hb
  clear hb
  obtain ⟨a0, a1, a2, a3⟩ := pcells_of hA
  go_wp2_with fail
  clear d1 d2 a0 a1 a2 a3
  go_loopw [9] (fun i wr => ∃ (z : Nat) (f : Nat → Bool), z ≤ len ∧ i = .int .i64 z ∧ SetAt wr q g c v n b bits f 0 ∧ (∀ t, t < z → ∀ j, j < nB b bits → overlapS v (n + j * 2 ^ fr v bits) bits (U t) (M t) (C t) = true → f j = true) ∧ Blk wr w.heap.size 28 #[.bool v, .int .u64 (hi n), .int .u64 (lo n), .int .i64 b] ∧ Below w.heap.size w wr) (fun i _ => len - (intOf i).toNat)
  case atStart => exact ⟨0, _, Nat.zero_le _, rfl, hs, fun t h => absurd h (Nat.not_lt_zero _), hA, hbel⟩
  case round =>
    clear hs hA hbel
    obtain ⟨z, f, hz, rfl, hs, hov, hA, hbel⟩ := hrel
    have HOV := Lib.hid hov
    clear hov
    by_cases hlt : z < len
    · have d1 : decide (z < len) = true := decide_eq_true hlt
      have d2 : decide ((z : Int) < (len : Int)) = true := decide_eq_true (by omega)
      obtain ⟨a, rfl, hal, k0, k1, k2, k3⟩ := (hP.after hbel).cells z hlt
      go_wp2_with fail
      refine (kocc_c q g c v n b bits f 0 (U z) (M z) (C z) _ (hs.after bl_) (hP.lt z hlt)).mono ?_
      rintro e w6 ⟨X1, X2, f', rfl, hs', hmono, hover, hg⟩
      have HM := Lib.hid hmono
      have HV := Lib.hid hover
      have hA6 : Blk w6 w.heap.size 28 #[.bool v, .int .u64 (hi n), .int .u64 (lo n), .int .i64 b] := (show Blk _ w.heap.size 28 #[.bool v, .int .u64 (hi n), .int .u64 (lo n), .int .i64 b] from hA.after bl_).grown hg (some_ne nac)
      have hb6 : Below w.heap.size w w6 := bl_grown bl_ hg hcw
      clear hmono hover hg hs hA hbel k0 k1 k2 k3 d1 d2 hal
      go_wp2_with fail
      go_roundw
      case rel => exact ⟨z + 1, f', by omega, by go_num, hs', fun t ht j hj ho => by
                    rcases Nat.lt_or_ge t z with q1 | q1
                    · exact HM.out j (HOV.out t q1 j hj ho)
                    · obtain rfl : t = z := by omega
                      exact HV.out j hj ho, hA6, hb6⟩
      case measure => simp [intOf]; omega
    · have d1 : decide (z < len) = false := decide_eq_false hlt
      have d2 : decide ((z : Int) < (len : Int)) = false := decide_eq_false (by omega)
      obtain rfl : len = z := by omega
      obtain ⟨K, hK⟩ : ∃ K, cnt f 0 (nB b bits) = K := ⟨_, rfl⟩
      have hKN : K ≤ nB b bits := by rw [← hK]; exact cnt_le _ _ _
      clear hz hlt
      go_wp2_with fail
      have hOwn : (wr.alloc (.cells #[] 28)).ownsRow (w.heap.size + 1) 28 4 (.slice (some ⟨wr.heap.size, 0, none⟩) 0 0) 0 [] := World.ownsRow_made wr #[] 0 hA.lt (by simp only [maxLen]; omega) rfl
      have hA1 := hA.alloc (.cells #[] 28)
      have hs1 := hs.after (bl_alloc (Below.refl _ _) (.cells #[] 28))
      have hb1 := bl_alloc hbel (.cells #[] 28)
      clear hs hA hbel
      generalize wr.heap.size = gz at *
      generalize wr.alloc (.cells #[] 28) = wy at *
      refine (gleft_c q g c v n b bits f 0 K _ hs1 hK).mono ?_
      rintro e w6 ⟨rfl, hb⟩
      replace hA1 := hA1.after hb
      replace hs1 := hs1.after hb
      replace hOwn := own_afterS hOwn hb
      replace hb1 := bl_trans hb1 hb
      clear hb
      have HF0 := Lib.hid hK
      clear hK
      generalize hLE : ((nB b bits : Nat) : Int) - (K : Int) = LL at *
      have HLE := Lib.hid hLE
      clear hLE d1 d2
      go_wp2_with fail
      go_loopw [10, 12] (fun s i wr => ∃ (z : Nat) (f' : Nat → Bool) (cur : Nat) (js : List Nat) (p' : Option Addr) (cap' : Nat), z + K ≤ nB b bits ∧ i = .int .i64 z ∧ s = .slice p' z cap' ∧ js.length = z ∧ wr.ownsRow (w.heap.size + 1) 28 4 (.slice p' js.length cap') js.length (blkV v n bits js) ∧ SetAt wr q g c v n b bits f' cur ∧ (∀ j, f j = true → f' j = true) ∧ (∀ j, j ∈ js → j < nB b bits ∧ f' j = true) ∧ cnt f' 0 (nB b bits) = K + z ∧ Blk wr w.heap.size 28 #[.bool v, .int .u64 (hi n), .int .u64 (lo n), .int .i64 b] ∧ Below w.heap.size w wr) (fun _ i _ => nB b bits - (intOf i).toNat)
      case atStart => exact ⟨0, f, 0, [], _, 0, by omega, rfl, rfl, rfl, hOwn, hs1, fun _ h => h, fun j h => (by simp at h), HF0.out, hA1, hb1⟩
      case round =>
        clear hOwn hs1 hA1 hb1
        obtain ⟨z, f', cur, js, p', cap', hz, rfl, rfl, hjl, hown, hs, hmono, hin, hcnt, hA, hbel⟩ := hrel
        have HM := Lib.hid hmono
        have HI := Lib.hid hin
        have HC := Lib.hid hcnt
        have HJ := Lib.hid hjl
        clear hmono hin hcnt hjl
        by_cases hlt : z + K < nB b bits
        · have d1 : decide ((z : Int) < LL) = true := decide_eq_true (by have := HLE.out; omega)
          go_wp2_with fail
          refine (knext_c q g c v n b bits f' cur _ (hs.after bl_) (glob_tabK (hGw.out.after (show Below w.heap.size w _ from bl_)))).mono ?_
          rintro e w7 (⟨j, hj, rfl, hs', hF⟩ | ⟨hall, rfl, hb7⟩)
          rotate_left
          · exfalso
            have := cnt_full hall
            have := HC.out
            omega
          have hj1 := hj.1
          have hj2 := hj.2.1
          have hjl := kblock_lt hc hj1
          have HW := Lib.hid (fun w => prefix_Within.calls 1 v (hi (n + j * 2 ^ fr v bits)) (lo (n + j * 2 ^ fr v bits)) bits v (hi n) (lo n) b _ w (within_f 1 (Nat.le_refl _) v _ bits v n b hjl hn))
          rw [(kblock_in hc hj1).2] at HW
          have HO := Lib.hid (fun t (ht : t < len) w => prefix_Overlap.calls 1 v (hi (n + j * 2 ^ fr v bits)) (lo (n + j * 2 ^ fr v bits)) bits (U t) (hi (M t)) (lo (M t)) (C t) false w ((overlap_f 1 (Nat.le_refl _) v _ bits (U t) (M t) (C t) hjl (hP.lt t ht)).trans (congrArg some (Bool.eq_false_iff.2 fun ho => by
            have := HM.out j (HOV.out t ht j hj1 ho); rw [hj2] at this; cases this))))
          have hgl : ∀ t, t < js.length → js.getD t 0 < nB b bits ∧ f' (js.getD t 0) = true := fun t ht => HI.out _ (by simp [List.getD, ht])
          have HG := Lib.hid (fun t (ht : t < js.length) w => prefix_Overlap.calls 1 v (hi (n + j * 2 ^ fr v bits)) (lo (n + j * 2 ^ fr v bits)) bits v (hi (n + js.getD t 0 * 2 ^ fr v bits)) (lo (n + js.getD t 0 * 2 ^ fr v bits)) bits false w ((overlap_f 1 (Nat.le_refl _) v _ bits v _ bits hjl (kblock_lt hc (hgl t ht).1)).trans (congrArg some (kblocks_apart hc hj1 (hgl t ht).1 (fun e => by
            have := (hgl t ht).2; rw [← e, hj2] at this; cases this)))))
          have hown2 := own_fr2 hown hF hs.head hs.map.row (by decide) (by decide)
          have hA2 := blk_fr2 hA hF naq nac
          have hb2 := bl_fr2 hbel hF hqw hcw
          have HCN := Lib.hid ((cnt_add hj1 hj2).trans (congrArg (· + 1) HC.out))
          have HMN : Hid (∀ x, f x = true → upd f' j true x = true) := Lib.hid (fun x hx => by
            by_cases e : x = j
            · rw [e]; exact upd_same _ _ _
            · rw [upd_ne e]; exact HM.out x hx)
          have HIN : Hid (∀ x, x ∈ js ++ [j] → x < nB b bits ∧ upd f' j true x = true) := Lib.hid (fun x hx => by
            rw [List.mem_append, List.mem_singleton] at hx
            rcases hx with hx | rfl
            · by_cases e : x = j
              · rw [e]; exact ⟨hj1, upd_same _ _ _⟩
              · rw [upd_ne e]; exact HI.out x hx
            · exact ⟨hj1, upd_same _ _ _⟩)
          have HBV := Lib.hid (blkV_snoc v n bits js j)
          have HOL : Hid (∀ x, x ∈ js → n + x * 2 ^ fr v bits < 340282366920938463463374607431768211456) := Lib.hid (fun x hx => kblock_lt hc (HI.out x hx).1)
          clear hown hA hbel hs hF hj hj2 hjl hgl
          generalize hi (n + j * 2 ^ fr v bits) = X1 at *
          generalize lo (n + j * 2 ^ fr v bits) = X2 at *
          generalize (j + 1) % nB b bits = cur' at *
          have la := hA2.lt
          obtain ⟨a0, a1, a2, a3⟩ := pcells_of hA2
          go_wp2_with fail
          clear a0 a1 a2 a3
          have nxq : w7.heap.size ≠ q := Nat.ne_of_gt hs'.head.lt
          have nxc : w7.heap.size ≠ c := Nat.ne_of_gt hs'.map.row.lt
          have hX := Blk.new w7 28 #[.bool v, .int .u64 X1, .int .u64 X2, .int .i64 bits]
          replace hA2 := hA2.alloc (.cells #[.bool v, .int .u64 X1, .int .u64 X2, .int .i64 bits] 28)
          replace hown2 := hown2.alloc (.cells #[.bool v, .int .u64 X1, .int .u64 X2, .int .i64 bits] 28)
          replace hs' := hs'.after (bl_alloc (Below.refl _ _) (.cells #[.bool v, .int .u64 X1, .int .u64 X2, .int .i64 bits] 28))
          replace hb2 := bl_alloc hb2 (.cells #[.bool v, .int .u64 X1, .int .u64 X2, .int .i64 bits] 28)
          clear la
          generalize w7.alloc (.cells #[.bool v, .int .u64 X1, .int .u64 X2, .int .i64 bits] 28) = w8 at *
          generalize w7.heap.size = gx at *
          refine (HW.out _).mono ?_
          rintro e w9 ⟨rfl, hb⟩
          replace hX := hX.after hb
          replace hA2 := hA2.after hb
          replace hown2 := own_afterS hown2 hb
          replace hs' := hs'.after hb
          replace hb2 := bl_trans hb2 hb
          clear hb HW
          obtain ⟨x0, x1, x2, x3⟩ := pcells_of hX
          have hjs : js.length ≤ 65536 := by have := HJ.out; omega
          go_wp2_with fail
          clear x0 x1 x2 x3 d1
          go_loopw [15] (fun i wr => ∃ t : Nat, t ≤ len ∧ i = .int .i64 t ∧ Below w9.heap.size w9 wr) (fun i _ => len - (intOf i).toNat)
          case atStart => exact ⟨0, Nat.zero_le _, rfl, Below.refl _ _⟩
          case round =>
            obtain ⟨t, ht, rfl, hbt⟩ := hrel
            by_cases hlt2 : t < len
            · have d1 : decide (t < len) = true := decide_eq_true hlt2
              have d2 : decide ((t : Int) < (len : Int)) = true := decide_eq_true (by omega)
              obtain ⟨a, rfl, hal, hcl⟩ := (hP.after hb2).at_ hlt2
              have HCL := Lib.hid hcl
              clear hcl
              go_wp2_with fail
              go_region_held3 (fun w' => (w'.cell? ⟨gx, 0, none⟩ = some (.bool v) ∧ w'.cell? ⟨gx, 1, none⟩ = some (.int .u64 X1) ∧ w'.cell? ⟨gx, 2, none⟩ = some (.int .u64 X2) ∧ w'.cell? ⟨gx, 3, none⟩ = some (.int .i64 bits)) ∧
                  (w'.cell? (a.add (t * 4)) = some (.bool (U t)) ∧ w'.cell? ⟨(a.add (t * 4)).block, (a.add (t * 4)).off + 1, none⟩ = some (.int .u64 (hi (M t))) ∧ w'.cell? ⟨(a.add (t * 4)).block, (a.add (t * 4)).off + 2, none⟩ = some (.int .u64 (lo (M t))) ∧ w'.cell? ⟨(a.add (t * 4)).block, (a.add (t * 4)).off + 3, none⟩ = some (.int .i64 (C t))) ∧ Below w9.heap.size w9 w')
                (exact ⟨pcells_of (hX.after (show Below w9.heap.size w9 _ from bl_)), HCL.out _ bl_, bl_⟩)
                (first
                | (go_at_call 42; refine (HO.out t hlt2 _).mono ?_; rintro e w10 ⟨rfl, hb10⟩))
              all_goals
                go_wp2_with fail
                go_roundw
                case rel => exact ⟨t + 1, by omega, by go_num, bl_⟩
                case measure => simp [intOf]; omega
            · have d1 : decide (t < len) = false := decide_eq_false hlt2
              have d2 : decide ((t : Int) < (len : Int)) = false := decide_eq_false (by omega)
              obtain rfl : len = t := by omega
              have hX3 := hX.after hbt
              have hA3 := hA2.after hbt
              have hown3 := own_afterS hown2 hbt
              have hs3 := hs'.after hbt
              have hb3 := bl_trans hb2 hbt
              clear hX hA2 hown2 hs' hb2 hbt ht hlt2
              obtain ⟨w10, hw10⟩ : ∃ w10, w10 = wr := ⟨_, rfl⟩
              subst hw10
              go_wp2_with fail
              clear d1 d2
              go_loopw [16] (fun i wr' => ∃ t : Nat, t ≤ js.length ∧ i = .int .i64 t ∧ Below w10.heap.size w10 wr') (fun i _ => js.length - (intOf i).toNat)
              case atStart => exact ⟨0, Nat.zero_le _, rfl, Below.refl _ _⟩
              case round =>
                obtain ⟨t, ht, rfl, hbt⟩ := hrel
                by_cases hlt2 : t < js.length
                · have hlt3 : t < z := by have := HJ.out; omega
                  have d1 : decide (t < z) = true := decide_eq_true (by have := HJ.out; omega)
                  have d2 : decide ((t : Int) < (z : Int)) = true := decide_eq_true (by have := HJ.out; omega)
                  obtain ⟨a, rfl, hal, hcl⟩ := (own_pfxRow hown3 HOL.out).at_ hlt2
                  have HGt := Lib.hid (HG.out t hlt2)
                  have HCL : Hid (∀ w', Below w10.heap.size w10 w' → w'.cell? (a.add (t * 4)) = some (.bool v) ∧ w'.cell? ⟨(a.add (t * 4)).block, (a.add (t * 4)).off + 1, none⟩ = some (.int .u64 (hi (n + js.getD t 0 * 2 ^ fr v bits))) ∧ w'.cell? ⟨(a.add (t * 4)).block, (a.add (t * 4)).off + 2, none⟩ = some (.int .u64 (lo (n + js.getD t 0 * 2 ^ fr v bits))) ∧ w'.cell? ⟨(a.add (t * 4)).block, (a.add (t * 4)).off + 3, none⟩ = some (.int .i64 bits)) := Lib.hid hcl
                  clear hcl
                  generalize hi (n + js.getD t 0 * 2 ^ fr v bits) = Y1 at HCL HGt
                  generalize lo (n + js.getD t 0 * 2 ^ fr v bits) = Y2 at HCL HGt
                  go_wp2_with fail
                  go_region_held3 (fun w' => (w'.cell? ⟨gx, 0, none⟩ = some (.bool v) ∧ w'.cell? ⟨gx, 1, none⟩ = some (.int .u64 X1) ∧ w'.cell? ⟨gx, 2, none⟩ = some (.int .u64 X2) ∧ w'.cell? ⟨gx, 3, none⟩ = some (.int .i64 bits)) ∧
                      (w'.cell? (a.add (t * 4)) = some (.bool v) ∧ w'.cell? ⟨(a.add (t * 4)).block, (a.add (t * 4)).off + 1, none⟩ = some (.int .u64 Y1) ∧ w'.cell? ⟨(a.add (t * 4)).block, (a.add (t * 4)).off + 2, none⟩ = some (.int .u64 Y2) ∧ w'.cell? ⟨(a.add (t * 4)).block, (a.add (t * 4)).off + 3, none⟩ = some (.int .i64 bits)) ∧ Below w10.heap.size w10 w')
                    (exact ⟨pcells_of (hX3.after (show Below w10.heap.size w10 _ from bl_)), HCL.out _ bl_, bl_⟩)
                    (first
                    | (go_at_call 42; with_reducible refine (HGt.out _).mono ?_; rintro e w11 ⟨rfl, hb11⟩))
                  all_goals
                    go_wp2_with fail
                    go_roundw
                    case rel => exact ⟨t + 1, by omega, by go_num, bl_⟩
                    case measure => simp [intOf]; omega
                · have d1 : decide (t < z) = false := decide_eq_false (by have := HJ.out; omega)
                  have d2 : decide ((t : Int) < (z : Int)) = false := decide_eq_false (by have := HJ.out; omega)
                  have hX4 := hX3.after hbt
                  have hA4 := hA3.after hbt
                  have hown4 := own_afterS hown3 hbt
                  have hs4 := hs3.after hbt
                  have hb4 := bl_trans hb3 hbt
                  clear hX3 hA3 hown3 hs3 hb3 hbt ht hlt2
                  obtain ⟨x0, x1, x2, x3⟩ := pcells_of hX4
                  obtain ⟨i0, hi0, hz0, hz1, hz2⟩ := info_parts pfx_info
                  have hww := hb4.size
                  have hA4l := hA4.lt
                  rw [HJ.out] at hown4
                  go_wp2_with (at_builtin; refine wpList_append_own _ rfl _ _ 63 rfl (w.heap.size + 1) 28 i0 (.agg #[.bool false, .int .u64 0, .int .u64 0, .int .i64 0]) 4 32 Tryz.underlying63 hi0 hz0 hz1 hz2 rfl (by decide) _ _ _ rfl (hown4.alloc _) ⟨wr.heap.size, 0, none⟩ 1 1 [.bool v, .int .u64 X1, .int .u64 X2, .int .i64 bits] rfl rfl ?q1 ?q2 ?q3 ?q4 ?q5 ?_)
                  case q1 => exact cell_listS _ _ _
                  case q2 => intro u hu; simp at hu; rcases hu with rfl | rfl | rfl | rfl <;> rfl
                  case q3 => simp only [maxLen]; omega
                  case q4 => omega
                  case q5 => simp; omega
                  intro v' w5 hown5 hgrow _
                  have hb5 := below_ownS hb4 hown4 (Nat.le_succ _) hgrow
                  have hA5 := (hA4.alloc _).grown hgrow (fun e => by have := (hown4.lt _ e.symm).1; omega)
                  have hs5 := (hs4.after (bl_alloc (Below.refl _ _) _)).own (hown4.alloc _) hgrow
                  obtain ⟨ga, gc, rfl⟩ := own_sliceS hown5
                  clear hgrow hown4 hA4 hA4l hs4 hb4 hX4 hi0 hz0 hz1 hz2 x0 x1 x2 x3
                  go_wp2_with fail
                  go_roundw
                  case rel => exact ⟨z + 1, upd f' j true, cur', js ++ [j], ga, gc, by omega, by go_num, by simp, by simp [HJ.out], by rw [HBV.out, List.length_append, HJ.out]; exact hown5, hs5, HMN.out, HIN.out, by rw [HCN.out]; omega, hA5, hb5⟩
                  case measure => simp [intOf]; omega
        · have d1 : decide ((z : Int) < LL) = false := decide_eq_false (by have := HLE.out; omega)
          have hfull := cnt_all_of (show cnt f' 0 (nB b bits) = nB b bits from by have := HC.out; omega)
          have HFU := Lib.hid hfull
          have HFC := Lib.hid (cnt_full hfull)
          have HFL := Lib.hid (usedTo_all hfull)
          clear hfull hown hA
          go_wp2_with fail
          refine (knext_c q g c v n b bits f' cur _ (hs.after bl_) (glob_tabK (hGw.out.after (show Below w.heap.size w _ from bl_)))).mono ?_
          rintro e w7 (⟨j, hj, -, -, -⟩ | ⟨-, rfl, hb7⟩)
          · exfalso
            have := HFU.out j hj.1
            rw [hj.2.1] at this; cases this
          replace hs := (hs.after (show Below wr.heap.size wr w7 from bl_))
          replace hbel : Below w.heap.size w w7 := bl_
          clear hb7
          go_wp2_with fail
          replace hs := hs.after (bl_alloc (Below.refl _ _) (.cells #[.bool false, .int .u64 0, .int .u64 0, .int .i64 0] 28))
          replace hbel := bl_alloc hbel (.cells #[.bool false, .int .u64 0, .int .u64 0, .int .i64 0] 28)
          generalize w7.alloc (.cells #[.bool false, .int .u64 0, .int .u64 0, .int .i64 0] 28) = w8 at *
          refine (gleft_c q g c v n b bits f' cur (nB b bits) _ hs HFC.out).mono ?_
          rintro e w9 ⟨rfl, hb⟩
          replace hs := hs.after hb
          replace hbel := bl_trans hbel hb
          clear hb
          go_wp2_with fail
          refine (kused_c q g c v n b bits f' cur _ hs).mono ?_
          rintro e w10 ⟨p2, cap2, rfl, -, hb⟩
          rw [HFL.out]
          replace hs := hs.after hb
          replace hbel := bl_trans hbel hb
          clear hb
          go_wp2_with fail
          refine (ksize_c q g c v n b bits f' cur _ hs).mono ?_
          rintro e w11 ⟨rfl, hb⟩
          replace hbel := bl_trans hbel hb
          clear hb
          go_wp2_with fail
          go_ret
          exact ⟨rfl, hbel⟩
end Go.Proofs.YtpfilldnfpcpkaaGreatDoor

namespace Go.Proofs.YtpfilldnfpcpkaaGreatDoor
open Go.ChangeShapes Go.WideShapes Go.ChangeAt Go.RowKit

section
variable {H : Type} {enc : TypeId × Value → H} {P : Program}
theorem post_below {f : Func} {s : ChangeSpec} {apart fresh handsOn again : Bool} {W W' : World} {args : Array Value} {v : Value} {ds gs : List (DataW H)} {before pa pv : List MemPlace}
    (hW : DataW.Whole enc P f.params.toList s.vars apart W args.toList ds gs before)
    (hres : ∀ (b : Nat) (sp : Nat → Bool) (hd : Bool), DataW.TrodAll enc P W' b sp hd f.resultTypes.toList (v.resultList f.resultTypes.size) (s.fn H (ds ++ gs)).results [])
    (hargs : ∀ sp : Nat → Bool, (∀ p ∈ before, sp p.block = true) → DataW.TrodAll enc P W' 0 sp true f.params.toList args.toList (s.fn H (ds ++ gs)).args pa)
    (hvars : ∀ sp : Nat → Bool, (∀ p ∈ before, sp p.block = true) → DataW.TrodVars enc P W' sp s.vars (s.fn H (ds ++ gs)).vars pv)
    (hps : before = pa ++ pv) (hb : Below W.heap.size W W')
    (hok : ∀ (j : Nat) (t : TypeId) (r : Value), f.resultTypes[j]? = some t → (v.resultList f.resultTypes.size)[j]? = some r → Value.okWide P W' .any 0 t r) :
    s.post enc P f apart fresh handsOn again W args v W' := by
  have hlt : ∀ p ∈ before, p.block < W.heap.size := fun p hp => hW.lt p hp
  have hold : ∀ p ∈ before, (fun b => decide (b < W.heap.size)) p.block = true := fun p hp => by simpa using hlt p hp
  refine ⟨ds, gs, before, [], pa, pv, hW, hres _ _ _, hargs _ hold, hvars _ hold, World.keptBut_mono (fun p hp => ⟨hp, ?_⟩) (hb.frame (· ∈ before)), fun _ => ?_⟩
  · rw [hps, List.mem_append] at hp
    exact Or.inr hp
  · obtain ⟨_, _, _, _, _, hz, hn⟩ := hW
    refine ⟨hok, _, _, ([] ++ pa) ++ pv, ⟨[] ++ pa, pv, trodAll_append (hargs _ (fun _ _ => rfl)) (hres _ _ _), hvars _ (fun _ _ => rfl), rfl, ?_, ?_⟩, ?_⟩
    · intro b off hp
      have hin : MemPlace.cell b off ∈ before := by rw [hps]; simpa using hp
      rw [hb.frozen (hlt _ hin)]
      exact hz b off hin
    · intro ha
      have := hn ha
      rw [hps] at this
      simpa using this
    · intro p hp _
      rw [hps]
      simpa using hp
end

theorem Tryz.own : ownKnob Tryz.prog.godebug = none := by kernel_rfl
theorem u64_bd {n : Int} (h : (Lit.int .u64 n).wf = true) : 0 ≤ n ∧ n < 18446744073709551616 := by
  simp [Lit.wf, IntKind.min, IntKind.max, IntKind.bits, IntKind.signed] at h
  omega
end Go.Proofs.YtpfilldnfpcpkaaGreatDoor

namespace Go.Proofs.YtpfilldnfpcpkaaGreatDoor
open Go.ChangeShapes Go.WideShapes Go.ChangeAt Go.RowKit Go.Joins

def numD {H : Type} (n : Nat) : DataW H := .agg [.lit (.int .u64 (hi n)), .lit (.int .u64 (lo n))]
def addrD {H : Type} (v : Bool) (n : Nat) : DataW H := .agg [.lit (.bool v), numD n]
/-- the number's words are in their bounds -/
def numOk (n : Nat) : Prop := (Lit.int .u64 (hi n)).wf = true ∧ (Lit.int .u64 (lo n)).wf = true

set_option maxRecDepth 100000 in
theorem trod_bool_form {H : Type} {enc : TypeId × Value → H} {P : Program} {w : World} {base : Nat} {sp : Nat → Bool} {held : Bool} {fuel : Nat} {t : TypeId} {c : Value} {x : DataW H × List MemPlace} (ht : P.underlying t = some .bool)
    (h : DataW.trod enc P w base sp held fuel t [c] = some x) : ∃ b, c = .bool b ∧ x = (.lit (.bool b), []) := by
  cases fuel with
  | zero => simp [DataW.trod] at h
  | succ fuel =>
    simp only [DataW.trod, ht] at h
    split at h
    · rename_i e1 e2
      simp at e2
      subst e2
      exact ⟨_, rfl, (Option.some.inj h).symm⟩
    all_goals first | (rename_i e1 _; cases e1; done) | (cases h; done) | skip
    all_goals simp_all
set_option maxRecDepth 100000 in
theorem trod_num_form {H : Type} {enc : TypeId × Value → H} {W : World} {base : Nat} {sp : Nat → Bool} {held : Bool} {fuel : Nat} {c0 c1 : Value} {x : DataW H × List MemPlace}
    (h : DataW.trod enc Tryz.prog W base sp held fuel 24 [c0, c1] = some x) : ∃ n : Nat, n < 340282366920938463463374607431768211456 ∧ c0 = .int .u64 (hi n) ∧ c1 = .int .u64 (lo n) ∧ x = (numD n, []) ∧ numOk n := by
  obtain ⟨y0, y1, m, rfl, _, h0, h1⟩ := trod_struct2 Tryz.underlying24 h
  have h0' : DataW.trod enc Tryz.prog W base sp held m 22 [c0] = some y0 := h0
  have h1' : DataW.trod enc Tryz.prog W base sp held m 22 [c1] = some y1 := h1
  obtain ⟨a, e0, rfl, wa⟩ := DataW.trod_int Tryz.underlying22 h0'
  obtain ⟨b, e1, rfl, wb⟩ := DataW.trod_int Tryz.underlying22 h1'
  simp at e0 e1
  subst e0 e1
  obtain ⟨a0, a1⟩ := u64_bd wa
  obtain ⟨b0', b1⟩ := u64_bd wb
  refine ⟨num a b, num_lt a1 b1, ?_, ?_, ?_, ?_, ?_⟩
  · rw [hi_num a0 a1 b0' b1]
  · rw [lo_num b0' b1]
  · unfold numD; rw [hi_num a0 a1 b0' b1, lo_num b0' b1]; rfl
  · rw [hi_num a0 a1 b0' b1]; exact wa
  · rw [lo_num b0' b1]; exact wb
set_option maxRecDepth 100000 in
theorem trod_addr_form {H : Type} {enc : TypeId × Value → H} {W : World} {base : Nat} {sp : Nat → Bool} {held : Bool} {fuel : Nat} {c0 c1 c2 : Value} {x : DataW H × List MemPlace}
    (h : DataW.trod enc Tryz.prog W base sp held fuel 26 [c0, c1, c2] = some x) : ∃ (v : Bool) (n : Nat), n < 340282366920938463463374607431768211456 ∧ c0 = .bool v ∧ c1 = .int .u64 (hi n) ∧ c2 = .int .u64 (lo n) ∧ x = (addrD v n, []) ∧ numOk n := by
  obtain ⟨y0, y1, m, rfl, _, h0, h1⟩ := trod_struct2 Tryz.underlying26 h
  have h0' : DataW.trod enc Tryz.prog W base sp held m 4 [c0] = some y0 := h0
  have h1' : DataW.trod enc Tryz.prog W base sp held m 24 [c1, c2] = some y1 := h1
  obtain ⟨v, rfl, rfl⟩ := trod_bool_form Tryz.underlying4 h0'
  obtain ⟨n, hn, rfl, rfl, rfl, ho⟩ := trod_num_form h1'
  exact ⟨v, n, hn, rfl, rfl, rfl, rfl, ho⟩
end Go.Proofs.YtpfilldnfpcpkaaGreatDoor

namespace Go.Proofs.YtpfilldnfpcpkaaGreatDoor
open Go.ChangeShapes Go.WideShapes Go.ChangeAt Go.RowKit Go.Joins

set_option maxRecDepth 100000 in
theorem Tryz.cellsPfx : Tryz.prog.cellsOf 28 = 4 := by kernel_rfl
def pfxD {H : Type} (v : Bool) (n : Nat) (b : Int) : DataW H := .agg [addrD v n, .lit (.int .i64 b)]
def pfxOk (n : Nat) (b : Int) : Prop := numOk n ∧ (Lit.int .i64 b).wf = true
set_option maxRecDepth 100000 in
theorem trod_pfx_form {H : Type} {enc : TypeId × Value → H} {W : World} {base : Nat} {sp : Nat → Bool} {held : Bool} {fuel : Nat} {c0 c1 c2 c3 : Value} {x : DataW H × List MemPlace}
    (h : DataW.trod enc Tryz.prog W base sp held fuel 28 [c0, c1, c2, c3] = some x) : ∃ (v : Bool) (n : Nat) (b : Int), n < 340282366920938463463374607431768211456 ∧ c0 = .bool v ∧ c1 = .int .u64 (hi n) ∧ c2 = .int .u64 (lo n) ∧ c3 = .int .i64 b ∧ x = (pfxD v n b, []) ∧ pfxOk n b := by
  obtain ⟨y0, y1, m, rfl, _, h0, h1⟩ := trod_struct2 Tryz.underlying28 h
  have h0' : DataW.trod enc Tryz.prog W base sp held m 26 [c0, c1, c2] = some y0 := h0
  have h1' : DataW.trod enc Tryz.prog W base sp held m 3 [c3] = some y1 := h1
  obtain ⟨v, n, hn, rfl, rfl, rfl, rfl, ho⟩ := trod_addr_form h0'
  obtain ⟨b, e1, rfl, wb⟩ := DataW.trod_int Tryz.underlying3 h1'
  simp at e1
  subst e1
  exact ⟨v, n, b, hn, rfl, rfl, rfl, rfl, rfl, ho, wb⟩
theorem arr4 {α : Type} {cs : Array α} (h : cs.size = 4) : ∃ c0 c1 c2 c3, cs = #[c0, c1, c2, c3] := by
  rcases cs with ⟨l⟩
  match l, h with
  | [a, b, c, d], _ => exact ⟨a, b, c, d, rfl⟩
set_option maxRecDepth 100000 in
/-- a prefix as an argument -/
theorem open_pfx {H : Type} {enc : TypeId × Value → H} {W : World} {base b0 : Nat} {sp : Nat → Bool} {v : Value} {d : DataW H} {p : List MemPlace} {r : Reach}
    (hv : Value.okWide Tryz.prog W r b0 28 v) (h : DataW.Trod enc Tryz.prog W base sp true 28 v d p) :
    ∃ (u : Bool) (n : Nat) (b : Int), n < 340282366920938463463374607431768211456 ∧ (Lit.int .i64 b).wf = true ∧ v = PfxV u n b ∧ d = pfxD u n b ∧ p = [] ∧ pfxOk n b := by
  obtain ⟨cs, rfl, hsz⟩ := okWide_struct Tryz.underlying28 hv
  obtain ⟨c0, c1, c2, c3, rfl⟩ := arr4 (hsz.trans Tryz.cellsPfx)
  obtain ⟨fuel, hf⟩ := h
  obtain ⟨u, n, b, hn, rfl, rfl, rfl, rfl, e, ho⟩ := trod_pfx_form hf
  simp only [Prod.mk.injEq] at e
  exact ⟨u, n, b, hn, ho.2, rfl, e.1, e.2, ho⟩
end Go.Proofs.YtpfilldnfpcpkaaGreatDoor

namespace Go.Proofs.YtpfilldnfpcpkaaGreatDoor
open Go.ChangeShapes Go.WideShapes Go.RowKit Go.Deep

section
variable {H : Type} {enc : TypeId × Value → H} {P : Program} {w : World} {base : Nat} {spare : Nat → Bool} {held : Bool}
theorem trodAll_carry {w' : World} : ∀ {ts : List TypeId} {vs : List Value} {ds : List (DataW H)} {ps : List MemPlace}, DataW.TrodAll enc P w base spare held ts vs ds ps → (∀ p ∈ ps, w.sameAt w' p) → DataW.TrodAll enc P w' base spare held ts vs ds ps
  | [], [], [], _, h, _ => h
  | _ :: _, _ :: _, _ :: _, _, ⟨p, q, ⟨n, h1⟩, h2, e⟩, hs => ⟨p, q, ⟨n, DataW.trod_carry n _ _ _ h1 (fun x hx => hs x (by rw [e]; exact List.mem_append_left _ hx))⟩, trodAll_carry h2 (fun x hx => hs x (by rw [e]; exact List.mem_append_right _ hx)), e⟩
/-- what came in reads behind the call as before -/
theorem args_below {T : TypeId → Prop} (K : Kids P T) (hz : ∀ t e, T t → P.underlying t = some (.slice e) → 0 < P.cellsOf e) {W W' : World} {ts : List TypeId} {vs : List Value} {ds : List (DataW H)} {ps : List MemPlace} (hT : ∀ t ∈ ts, T t)
    (h : DataW.TrodAll enc P W 0 (fun _ => true) true ts vs ds ps) (hb : Below W.heap.size W W') (hlt : ∀ x ∈ ps, x.block < W.heap.size) (sp : Nat → Bool) (hs : ∀ p ∈ ps, sp p.block = true) : DataW.TrodAll enc P W' 0 sp true ts vs ds ps :=
  DataW.TrodAll.respare K hz hT (trodAll_carry h fun x hx => hb.same (hlt x hx)) hs
end
theorem Tryz.kids : Kids Tryz.prog (· < Tryz.prog.types.size) := kids_rows (by kernel_rfl) (by kernel_rfl)
theorem Tryz.full : ∀ t e, t < Tryz.prog.types.size → Tryz.prog.underlying t = some (.slice e) → 0 < Tryz.prog.cellsOf e := slices_full_of Tryz.prog (by kernel_rfl)
theorem cell_lt {W : World} {a : Addr} {v : Value} (h : W.cell? a = some v) : a.block < W.heap.size := by
  rcases Nat.lt_or_ge a.block W.heap.size with k | k
  · exact k
  · unfold World.cell? at h
    rw [Array.getElem?_eq_none k] at h
    cases h
theorem add_off (a : Addr) (j : Nat) (hj : j ≠ 0) : a.add j = ⟨a.block, a.off + j, none⟩ := by
  unfold Addr.add
  rw [if_neg hj]
theorem list4 {α : Type} {l : List α} (h : l.length = 4) : ∃ a b c d, l = [a, b, c, d] := by
  match l, h with
  | [a, b, c, d], _ => exact ⟨a, b, c, d, rfl⟩
end Go.Proofs.YtpfilldnfpcpkaaGreatDoor

namespace Go.Proofs.YtpfilldnfpcpkaaGreatDoor
open Go.ChangeShapes Go.WideShapes Go.RowKit Go.Deep

set_option maxRecDepth 100000 in
/-- the prefixes of a slice that is read -/
theorem pfxs_open {H : Type} {enc : TypeId × Value → H} {W : World} {v : Value} {d : DataW H} {ps : List MemPlace} {base : Nat} {r : Reach}
    (hv : Value.okWide Tryz.prog W r base 63 v) (h : DataW.Trod enc Tryz.prog W 0 (fun _ => true) true 63 v d ps) :
    ∃ (p : Option Addr) (len cap : Nat) (U : Nat → Bool) (M : Nat → Nat) (C : Nat → Int), v = .slice p len cap ∧ len ≤ 9223372036854775807 ∧ PfxRow W p len U M C := by
  obtain ⟨p, len, cap, rfl⟩ := okWide_slice Tryz.underlying63 hv
  obtain ⟨fuel, hf⟩ := h
  rcases open_slice Tryz.underlying63 hf with ⟨hcs, _⟩ | ⟨a, len', cap', m, n, D, Pl, hcs, _, hl, hm, hmm, _, hii⟩
  · simp [Value.cells] at hcs
    obtain ⟨rfl, rfl, rfl⟩ := hcs
    exact ⟨_, _, _, fun _ => false, fun _ => 0, fun _ => 0, rfl, by omega, fun i h => absurd h (by omega), fun i h => absurd h (by omega)⟩
  · simp [Value.cells] at hcs
    obtain ⟨rfl, rfl, rfl⟩ := hcs
    have key : ∀ i, ∃ t : Bool × Nat × Int, i < len → t.2.1 < 340282366920938463463374607431768211456 ∧ a.block < W.heap.size ∧ W.cell? (a.add (i * 4)) = some (.bool t.1) ∧ W.cell? ⟨(a.add (i * 4)).block, (a.add (i * 4)).off + 1, none⟩ = some (.int .u64 (hi t.2.1)) ∧
        W.cell? ⟨(a.add (i * 4)).block, (a.add (i * 4)).off + 2, none⟩ = some (.int .u64 (lo t.2.1)) ∧ W.cell? ⟨(a.add (i * 4)).block, (a.add (i * 4)).off + 3, none⟩ = some (.int .i64 t.2.2) := by
      intro i
      by_cases hil : i < len
      · obtain ⟨cs', hc, ht⟩ := hii i (by rw [hmm, if_pos rfl]; omega)
        rw [Tryz.cellsPfx] at hc
        obtain ⟨_, hcl, hat⟩ := World.cells?_some hc
        obtain ⟨c0, c1, c2, c3, rfl⟩ := list4 hcl
        obtain ⟨u, x, k, hx, rfl, rfl, rfl, rfl, _, _⟩ := trod_pfx_form ht
        have h0 := hat 0 (by decide)
        have h1 := hat 1 (by decide)
        have h2 := hat 2 (by decide)
        have h3 := hat 3 (by decide)
        rw [add_off _ _ (by decide)] at h1 h2 h3
        rw [show (a.add (i * 4)).add 0 = a.add (i * 4) from by generalize a.add (i * 4) = z; unfold Addr.add; rw [if_pos rfl]] at h0
        have h0' : W.cell? (a.add (i * 4)) = some (.bool u) := h0.trans rfl
        have hb := cell_lt h0'
        rw [add_block] at hb
        exact ⟨(u, x, k), fun _ => ⟨hx, hb, h0', h1.trans rfl, h2.trans rfl, h3.trans rfl⟩⟩
      · exact ⟨(false, 0, 0), fun h => absurd h hil⟩
    obtain ⟨F, hF⟩ := Classical.axiomOfChoice key
    refine ⟨_, _, _, fun i => (F i).1, fun i => (F i).2.1, fun i => (F i).2.2, rfl, by unfold maxLen at hm; omega, fun i h => (hF i h).1, fun i h => ?_⟩
    obtain ⟨_, h1, h2, h3, h4, h5⟩ := hF i h
    exact ⟨a, rfl, h1, h2, h3, h4, h5⟩
end Go.Proofs.YtpfilldnfpcpkaaGreatDoor

namespace Go.Proofs.YtpfilldnfpcpkaaGreatDoor
open Go.RowKit

def listA : List (String × DataW Unit) := [("math/bits.deBruijn32tab", Rows.laid_math_bits_deBruijn32tab), ("math/bits.deBruijn64tab", Rows.laid_math_bits_deBruijn64tab), ("internal/strconv.uint64pow10", Rows.laid_internal_strconv_uint64pow10), ("unicode/utf8.acceptRanges", Rows.laid_unicode_utf8_acceptRanges), ("strconv.ErrRange", Rows.laid_strconv_ErrRange), ("strconv.ErrSyntax", Rows.laid_strconv_ErrSyntax), ("unicode/utf8.first", Rows.laid_unicode_utf8_first)]
theorem doorA_met (os : Os) (args : Array Value) : laidMetH Tryz.prog listA ((World.laidAll Tryz.prog os listA).forCall (fun _ _ => 0) ⟨#[], args, []⟩).memory := by
  rw [MakeChecks.laidMetH_plain _ _ _ (by kernel_rfl)]; exact laidMet_laidAll _ (by kernel_rfl) (by kernel_rfl)
def tabZ : List Int := Lib.deBruijn64tab.map Int.ofNat
theorem listA_tab : (Rows.laid_math_bits_deBruijn64tab : DataW Unit) = Lib.tabData .u8 tabZ := by kernel_rfl
theorem listA_pow : (Rows.laid_internal_strconv_uint64pow10 : DataW Unit) = Lib.tabData .u64 Lib.pow10Tab := by kernel_rfl
theorem err_star : "*" ++ "errors.errorString" = "*errors.errorString" := by decide
theorem err_name (u : TypeId) (h : Tryz.prog.typeName? 3 u = some "*errors.errorString") : u = 233 :=
  typeName_ptr_named (nm := "errors.errorString") (by rw [err_star]; kernel_rfl) (by kernel_rfl) (by decide) u (by rw [err_star]; exact h)
theorem glob_of {W : World} (h : laidMetH Tryz.prog listA W) (hs : W.ShapedOpen Tryz.prog) : Glob W := by
  rw [MakeChecks.laidMetH_plain _ _ _ (by kernel_rfl)] at h
  unfold listA at h
  have h2 := h.tail
  have h3 := h2.tail
  have h5 := h3.tail.tail
  have h6 := h5.tail
  rw [listA_tab] at h2
  rw [listA_pow] at h3
  refine ⟨?_, ?_, ?_, ?_, ?_⟩
  · exact cell_of_shapedOpen_int (g := 1) (t := 3) (zero := #[.int .i64 0]) hs (of_decide_eq_true (by kernel_rfl)) (by kernel_rfl) rfl (by kernel_rfl) (by kernel_rfl) Tryz.underlying3
  · obtain ⟨a, s, hv, _⟩ := laid_sentinel h6 (g := 2) (by kernel_rfl) (by kernel_rfl) Tryz.underlying144 err_name Tryz.underlying233 Tryz.underlying235 rfl rfl Tryz.underlying9 (by kernel_rfl) (by kernel_rfl)
    exact ⟨_, _, hv⟩
  · obtain ⟨a, s, hv, _⟩ := laid_sentinel h5 (g := 3) (by kernel_rfl) (by kernel_rfl) Tryz.underlying144 err_name Tryz.underlying233 Tryz.underlying235 rfl rfl Tryz.underlying9 (by kernel_rfl) (by kernel_rfl)
    exact ⟨_, _, hv⟩
  · exact Lib.tabIs_of_head (P := Tryz.prog) (g := 4) (t := 237) (e := 22) (n := 20) (by kernel_rfl) (by kernel_rfl) Tryz.underlying237 Tryz.underlying22 (by kernel_rfl) (by kernel_rfl) h3
  · have hT := Lib.tabIs_of_head (P := Tryz.prog) (g := 0) (t := 216) (e := 5) (n := 64) (by kernel_rfl) (by kernel_rfl) Tryz.underlying216 Tryz.underlying5 (by kernel_rfl) (by kernel_rfl) h2
    intro j hj
    have hc := hT.cell (g := 0) (by kernel_rfl) j (by unfold tabZ; rw [List.length_map, show Lib.deBruijn64tab.length = 64 by decide]; exact hj)
    rw [hc]
    have e : tabZ.getD j 0 = ((Lib.deBruijn64tab.getD j 0 : Nat) : Int) := by
      unfold tabZ
      simp only [List.getD_eq_getElem?_getD, List.getElem?_map]
      cases Lib.deBruijn64tab[j]? <;> rfl
    rw [e]
/-- the plain wrap with the row's condition and the start's shape -/
theorem lift_shaped {H : Type} {enc : TypeId × Value → H} {C : Checked} {os : Os} {f : FuncId} {fn : Func} {s : ChangeSpec} {X : World → Array Value → Prop}
    (hX : ∀ (w w' : World) (args : Array Value), w.heap = w'.heap → X w args → X w' args)
    (own : ownKnob C.prog.godebug = none) (started : os.Started) (noInit : C.prog.inits.idxOf? f = none) (hfn : C.prog.funcs[f]? = some fn)
    (witness : ∃ (w : World) (tape : Tape) (i : Input), w.os = os ∧ (w.forCall tape i).Shaped C.prog ∧ i.vars = [] ∧ Input.okWide C.prog (w.forCall tape i) .any w.heap.size f i ∧
      ((s.pre enc C.prog fn [] false (w.forCall tape i).memory i.args ∧ X (w.forCall tape i).memory i.args) ∧ sizedMet enc C.prog fn (OpenSpec.ofChange s) false (w.forCall tape i).memory i.args) ∧ ({} : Assume).holds C.prog (lone (Frame.enter C.prog f i.args .normal) [] (w.forCall tape i)))
    (contract : ∀ (W : World) (base : Nat) (args : Array Value) (ds gs : List (DataW H)) (before : List MemPlace),
      (∀ (j : Nat) t v, fn.params[j]? = some t → args[j]? = some v → Value.okWide C.prog W .any base t v) →
      DataW.Whole enc C.prog fn.params.toList s.vars false W args.toList ds gs before → X W args → W.ShapedOpen C.prog →
      Calls C.prog f args W fun e W' => ∃ v, e = .returned v ∧ s.post enc C.prog fn false true false false W args v W') :
    ReturnsInHanded {} C os f .any (fun w args => (s.pre enc C.prog fn [] false w args ∧ X w args) ∧ sizedMet enc C.prog fn (OpenSpec.ofChange s) false w args) (s.post enc C.prog fn false true false false) := by
  refine returnsInHanded_of_calls own started noInit witness ?_
  intro w tape i _ hshape _ hok hpre _
  obtain ⟨_, _, _, fn2, hfn2, _, _, _, _, hval⟩ := hok
  obtain rfl : fn2 = fn := Option.some.inj (hfn2.symm.trans hfn)
  obtain ⟨⟨⟨ds, gs, before, hw, _⟩, hx⟩, _⟩ := hpre
  refine (contract (w.forCall tape i) w.heap.size i.args ds gs before hval (DataW.Whole.of_heap (w' := w.forCall tape i) (by rfl) hw) (hX _ _ _ (by rfl) hx) hshape).mono fun e W' ⟨v, he, hp⟩ => ?_
  subst he
  exact ChangeSpec.post_blind hp
end Go.Proofs.YtpfilldnfpcpkaaGreatDoor

namespace Go.Proofs.YtpfilldnfpcpkaaGreatDoor
open Go.ChangeShapes Go.WideShapes Go.ChangeAt Go.RowKit
open Go.ChangeMaps (open_string shut_string)

set_option maxRecDepth 100000 in
theorem blocksApart_lifted (os : Os) (started : os.Started) (H : Type) (enc : TypeId × Value → H) :
    ReturnsInHanded {} Tryz.checked os 5 .any (fun w args => (Rows.blocksApartSpec.pre enc Tryz.prog Tryz.f5 [] false w args ∧ laidMetH Tryz.prog listA w) ∧ sizedMet enc Tryz.prog Tryz.f5 (OpenSpec.ofChange Rows.blocksApartSpec) false w args)
      (Rows.blocksApartSpec.post enc Tryz.prog Tryz.f5 false true false false) := by
  refine lift_shaped (C := Tryz.checked) (X := fun w _ => laidMetH Tryz.prog listA w) (fun _ _ _ hh h => h.of_heap hh) Tryz.own started (by kernel_rfl) Tryz.func5
    (ChangeSpec.witness_shaped (enc := enc) (C := Tryz.checked) (os := os) (X := fun w _ => laidMetH Tryz.prog listA w) false (World.laidAll Tryz.prog os listA) #[.agg #[.bool false, .int .u64 0, .int .u64 0, .int .i64 0], .int .i64 0, .slice none 0 0] 8 (World.laidAll_os _ _ _) (World.shaped_of_ZipB (by kernel_rfl) (by kernel_rfl)) (by kernel_rfl) (by kernel_rfl) (by kernel_rfl) (doorA_met os _)) ?_
  intro W base args ds gs before hval0 hW hL hSh
  have hval : ∀ (j : Nat) t v, Tryz.f5.params[j]? = some t → args[j]? = some v → Value.okWide Tryz.prog W .any base t v := hval0
  have hW' := hW
  obtain ⟨p, q, hA0, hV, rfl, _, _⟩ := hW
  have hA : DataW.TrodAll enc Tryz.prog W 0 (fun _ => true) true Tryz.f5.params.toList args.toList ds p := hA0
  have hAk := hA
  rw [Tryz.params5] at hA hval
  obtain ⟨v0, v1, v2, d0, d1, d2, p0, p1, p2, rfl, rfl, rfl, h0, h1, h2⟩ := trodAll_three hA
  obtain ⟨rfl, rfl⟩ := trodVars_none hV
  obtain ⟨u0, x0, b0, hx0, hb0, rfl, rfl, rfl, ho0⟩ := open_pfx (hval 0 28 v0 rfl rfl) h0
  obtain ⟨x1, rfl, rfl, rfl, wx1⟩ := open_int Tryz.underlying3 (hval 1 3 v1 rfl rfl) h1
  obtain ⟨p2_, l2_, c2_, U2, M2, C2, rfl, hl2, hr2⟩ := pfxs_open (hval 2 63 v2 rfl rfl) h2
  clear hA0 hval0
  skip
  refine (blocksApart_walk u0 x0 b0 x1 p2_ l2_ c2_ U2 M2 C2 W hx0 hb0 hl2 hr2 (glob_of hL hSh)).mono fun e W' ⟨he, hw⟩ => ?_
  subst he
  exact ⟨_, rfl, post_below (pv := []) hW' (fun _ _ _ => trodAll_mk1 (shut_bool Tryz.underlying4 _)) (fun sp hsp => args_below Tryz.kids Tryz.full (by rw [Tryz.params5]; decide +kernel) hAk hw (fun x hx => hW'.lt x (List.mem_append_left _ hx)) sp (fun x hx => hsp x (List.mem_append_left _ hx))) (fun _ _ => rfl) rfl
    hw (ok_one (by kernel_rfl) rfl (okWide_bool_mk Tryz.underlying4 _))⟩

theorem blocksApart_row : Rows.BlocksApartSaid :=
  OpenClaim.holds_of_wide 5 Tryz.f5 rfl rfl rfl rfl rfl rfl rfl ⟨rfl, rfl, rfl, rfl, rfl⟩ rfl rfl rfl rfl rfl (by kernel_rfl) Tryz.func5 (by kernel_rfl)
    (of_decide_eq_true (by kernel_rfl)) (by unfold Func.isWrapper; first | (rw [if_pos (by decide +kernel)]; kernel_rfl) | (rw [if_neg (by decide +kernel)]; exact ⟨rfl, rfl⟩))
    (fun os started H enc _ => blocksApart_lifted os started H enc)

theorem blocksApart_card : Rows.BlocksApartCardSaid :=
  Claim7.holds_tied_plain_at .later [] [.data, .data, .data, .data, .sentinel, .sentinel, .pinned] true Rows.blocksApartCard.stood.harness true
    blocksApart_row (fun _ h => by cases h) (by kernel_rfl) (fun _ h => by cases h) blocksApart_row_tie rfl ⟨rfl, rfl⟩ (by kernel_rfl) rfl
    (fun f fn hf hfn => by
      obtain rfl : f = 5 := Option.some.inj ((show Tryz.prog.funcNamed "platbook/platbooklaw07.BlocksApart" = some 5 by kernel_rfl).symm.trans hf) |>.symm
      obtain rfl : fn = Tryz.f5 := (Option.some.inj (Tryz.func5.symm.trans hfn)).symm
      exact ⟨by kernel_rfl, fun j t ht => by
        rw [Tryz.params5] at ht
        have hm : t ∈ [28, 3, 63] := by simpa using Array.mem_of_getElem? ht
        have hall : ([28, 3, 63].all fun u => !Tryz.prog.wantsStandIn u) = true := by kernel_rfl
        exact (show Tryz.prog.wantsStandIn t = false by simpa using List.all_eq_true.1 hall t hm)⟩)
    (by kernel_rfl)
end Go.Proofs.YtpfilldnfpcpkaaGreatDoor

#print axioms Go.Proofs.YtpfilldnfpcpkaaGreatDoor.blocksApart_card
