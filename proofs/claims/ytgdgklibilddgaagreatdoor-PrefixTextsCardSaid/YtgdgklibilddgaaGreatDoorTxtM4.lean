/-
PrefixTexts: a prefix that may be has its text and is read from it, any text is read as a prefix or refused, as the reference tells: for every prefix and every text the call returns true. No condition; the listed variables are tied to the program's text.
-/
import Derived.ProofKit
import Derived.ChangeSame
import Derived.LaidMore
import Derived.Lay
import Derived.MakeChecks
import Derived.LaidByTextLater
import Derived.OpenShut
import Derived.Stop.Joined
import Derived.Stop.LaidErr
import Derived.Handed
import Derived.Shelf.Vars
import Derived.Lib.SmallJoins
import Derived.Carry
import Derived.SevenTiedAt
import Derived.ShutString
import Derived.Test.YtgdgklibilddgaaGreatDoorTxtM3
import Derived.Test.YtgdgklibilddgaaGreatDoorRows
import Derived.Test.YtgdgklibilddgaaGreatDoorCards
import Derived.Test.YtgdgklibilddgaaGreatDoorTie
set_option linter.unusedVariables false
set_option linter.unusedSimpArgs false
namespace Go.Proofs.YtgdgklibilddgaaGreatDoor.PPt
open Go.RowKit Go.Proofs.YtgdgklibilddgaaGreatDoorW.PrintWords Go.Proofs.YtgdgklibilddgaaGreatDoorW.PrintLast Go.Proofs.YtgdgklibilddgaaGreatDoorW.PrintMore
attribute [local go_sem] max2_int min2_int max_two min_two max_three min_three max_four min_four   -- for this text's walks alone

theorem eqA24 (d : Nat) (w : World) (x0 y0 : Int) (x1 y1 : Int) :
    (Op.equalIn (d + 2) 24 (.agg #[.int .u64 x0, .int .u64 x1]) (.agg #[.int .u64 y0, .int .u64 y1])).run Tryz.prog w = .ok (x0 == y0 && (x1 == y1)) w := by
  refine eqA_of Tryz.underlying24 (by kernel_rfl) ?_
  refine eqf_cons (by rfl) (by go_simp; rfl) (by go_simp; rfl) (by go_simp) ?_
  exact eqf_last (by rfl) (by go_simp; rfl) (by go_simp; rfl) (by go_simp)
theorem eqA26 (d : Nat) (w : World) (x0 y0 : Bool) (x1 y1 : Int) (x2 y2 : Int) :
    (Op.equalIn (d + 3) 26 (.agg #[.bool x0, .int .u64 x1, .int .u64 x2]) (.agg #[.bool y0, .int .u64 y1, .int .u64 y2])).run Tryz.prog w = .ok (x0 == y0 && ((x1 == y1 && (x2 == y2)))) w := by
  refine eqA_of Tryz.underlying26 (by kernel_rfl) ?_
  refine eqf_cons (by rfl) (by go_simp; rfl) (by go_simp; rfl) (by go_simp) ?_
  exact eqf_last (by rfl) (by go_simp) (by go_simp) (eqA24 (d + 0) w _ _ _ _)
end Go.Proofs.YtgdgklibilddgaaGreatDoor.PPt

namespace Go.Proofs.YtgdgklibilddgaaGreatDoor.PPt
open Go.RowKit Go.Proofs.YtgdgklibilddgaaGreatDoorW.PrintWords Go.Proofs.YtgdgklibilddgaaGreatDoorW.PrintLast Go.Proofs.YtgdgklibilddgaaGreatDoorW.PrintMore
attribute [local go_sem] max2_int min2_int max_two min_two max_three min_three max_four min_four   -- for this text's walks alone

theorem eqA38 (d : Nat) (w : World) (x0 y0 : Bool) (x1 y1 : Int) (x2 y2 : Int) (x3 y3 : Int) :
    (Op.equalIn (d + 4) 38 (.agg #[.bool x0, .int .u64 x1, .int .u64 x2, .int .i64 x3]) (.agg #[.bool y0, .int .u64 y1, .int .u64 y2, .int .i64 y3])).run Tryz.prog w = .ok ((x0 == y0 && ((x1 == y1 && (x2 == y2)))) && (x3 == y3)) w := by
  refine eqA_of Tryz.underlying38 (by kernel_rfl) ?_
  refine eqf_cons (by rfl) (by go_simp) (by go_simp) (eqA26 (d + 0) w _ _ _ _ _ _) ?_
  exact eqf_last (by rfl) (by go_simp; rfl) (by go_simp; rfl) (by go_simp)
end Go.Proofs.YtgdgklibilddgaaGreatDoor.PPt

namespace Go.Proofs.YtgdgklibilddgaaGreatDoor.PPt
open Go.RowKit Go.Proofs.YtgdgklibilddgaaGreatDoorW.PrintWords Go.Proofs.YtgdgklibilddgaaGreatDoorW.PrintLast Go.Proofs.YtgdgklibilddgaaGreatDoorW.PrintMore
attribute [local go_sem] max2_int min2_int max_two min_two max_three min_three max_four min_four   -- for this text's walks alone

attribute [local go_sem high] eqA26
def platbookref03_Filled.l0 : Nat → Int → List Int → Int → Bool → Int → Int → Option (Bool × Int × Int)
 | 0, _, _, _, _, _, _ => none
 | k + 1, x2, x7, x8, x181000, x181001, x181002 => if x8 < (x7.length : Int) then (if 0 ≤ x8 then (platbookref03_Filled.l0 k x2 (x7.set (x8 : Int).toNat x2) (wrap64 (x8 + 1)) x181000 x181001 x181002) else (none)) else ((platbookref03_Addr.f k x181000 x7).bind fun bt186 => (some (bt186.1, bt186.2.1, bt186.2.2)))
def platbookref03_Filled.f (k : Nat) (a0_0 : Bool) (a0_1 : Int) (a0_2 : Int) (a1 : Int) (a2 : Int) : Option (Bool × Int × Int) := (platbookref03_Row.f k a0_0 a0_1 a0_2).bind fun t182 => (platbookref03_Filled.l0 k a2 t182 a1 a0_0 a0_1 a0_2)
set_option maxHeartbeats 8000000 in
set_option maxRecDepth 100000 in
theorem platbookref03_Filled.calls (k : Nat) (a0_0 : Bool) (a0_1 : Int) (a0_2 : Int) (a1 : Int) (a2 : Int) (r1 : Bool) (r2 : Int) (r3 : Int) (w : World) (h : platbookref03_Filled.f k a0_0 a0_1 a0_2 a1 a2 = some (r1, r2, r3)) :
  Calls Tryz.prog 78 #[.agg #[.bool a0_0, .int .u64 a0_1, .int .u64 a0_2], .int .i64 a1, .int .i64 a2] w fun e w' => e = .returned (.agg #[.bool r1, .int .u64 r2, .int .u64 r3]) ∧ Below w.heap.size w w' := by
 have hu26 := Tryz.underlying26
 have HB := Aside0.mk (Below.refl w.heap.size w)
 have H : ((platbookref03_Row.f k a0_0 a0_1 a0_2).bind fun t182 => (platbookref03_Filled.l0 k a2 t182 a1 a0_0 a0_1 a0_2)) = some (r1, r2, r3) := h
 clear h
 replace H := Option.bind_eq_some_iff.mp H
 obtain ⟨t182, A40, H⟩ := H
 replace H : (platbookref03_Filled.l0 k a2 t182 a1 a0_0 a0_1 a0_2) = some (r1, r2, r3) := H
 have A4 := Aside0.mk A40
 clear A40
 have H' := Aside0.mk H
 clear H
 go_enter Tryz.func78, Tryz.ntmps78
 go_wp2_with (first | ((with_reducible refine gate_dst (N := 3) rfl ?_); refine bx_ 3 #[.bool a0_0, .int .u64 a0_1, .int .u64 a0_2] 26 ?_; intro gb180 hg w5 hbox hb; have BK180 := Aside0.mk (hbox); have GW180 := gw_ HB hg; have GE180 := gw_ HB hg; replace HB := bs_ HB hb; clear hb hbox hg) | ((with_reducible refine gate_dst (N := 6) rfl ?_); refine bx_ 6 #[.bool false, .int .u64 0, .int .u64 0] 26 ?_; intro gb181 hg w6 hbox hb; have BK181 := Aside0.mk (hbox); have GW181 := gw_ HB hg; have GE181 := gw_ HB hg; have NB180_181 := nl_ BK180 hg; have NB181_180 := ng_ BK180 hg; replace BK180 := bb_ BK180 hb; replace HB := bs_ HB hb; clear hb hbox hg; have hnb7 := NB180_181.out; have hnc7 := NB181_180.out; obtain ⟨hcz8_0, hcz8_1, hcz8_2, hfz8_0, hfz8_1, hfz8_2⟩ := c3_ BK180) | ((with_reducible refine gate_callee (f := 83) rfl ?_); refine gl_ (some 10) Tryz.func83 #[.agg #[.bool a0_0, .int .u64 a0_1, .int .u64 a0_2]] ?_; (with_reducible refine (platbookref03_Row.calls k a0_0 a0_1 a0_2 t182 _ A4.out).mono ?_); rintro e w9 ⟨v183, rfl, ho0, hb⟩; refine ⟨_, rfl, ?_⟩; have HO184 := Aside0.mk (Kd.R_lower ho0 (below_size (pb_ HB))); replace BK180 := bb_ BK180 hb; replace BK181 := bb_ BK181 hb; replace HB := bs_ HB hb; (try clear hb); (try clear hb2); (try clear hk); (try clear hi); (try clear ho0)))
 go_loopg [8] k (fun kq v8 w' => ∃ (x7_1 : List Int) (x8_1 : Int), v8 = .int .i64 x8_1 ∧ Aside0 (platbookref03_Filled.l0 kq a2 x7_1 x8_1 a0_0 a0_1 a0_2 = some (r1, r2, r3)) ∧ Aside0 (kq ≤ k) ∧ Aside0 (Kd.R (Kd.int .i64) 3 w' w.heap.size (fun _ => True) v183 x7_1) ∧ Aside0 (w'.heap[gb180]? = some (.cells #[.bool a0_0, .int .u64 a0_1, .int .u64 a0_2] 26 (0, 0))) ∧ Aside0 (w'.heap[gb181]? = some (.cells #[.bool false, .int .u64 0, .int .u64 0] 26 (0, 0))) ∧ Aside0 (Below w.heap.size w w'))
 case atStart => exact ⟨(t182), (a1), (by first | rfl | (simp; done) | (simp [*]; done)), H', ⟨Nat.le_refl _⟩, ⟨by (with_reducible repeat (first | apply Kd.R_alloc | apply Kd.R_drewN | apply Kd.R_drew)); exact HO184.out⟩, ⟨by refine pw_ ?_; exact BK180.out⟩, ⟨by refine pw_ ?_; exact BK181.out⟩, ⟨pb_ HB⟩⟩
 case round =>
  clear H'
  try clear p2
  try clear c7
  try clear c8
  try clear hcz8_0
  try clear hcz8_1
  try clear hcz8_2
  try clear hfz8_0
  try clear hfz8_1
  try clear hfz8_2
  obtain ⟨x7_1, x8_1, rfl, HA, HK1, HO_7, BK180, BK181, HB⟩ := hrel
  cases gk with
  | zero => exact absurd HA.out (by simp [platbookref03_Filled.l0])
  | succ k1 =>
   have H := HA.out
   clear HA
   simp only [platbookref03_Filled.l0] at H
   by_cases c10 : x8_1 < (x7_1.length : Int)
   ·
    rw [if_pos c10] at H
    have c10b0 : decide (x8_1 < (x7_1.length : Int)) = true := decide_eq_true c10
    clear c10
    by_cases c11 : 0 ≤ x8_1
    ·
     rw [if_pos c11] at H
     have c11b0 : decide (0 ≤ x8_1) = true := decide_eq_true c11
     clear c11
     obtain ⟨y185, hy185⟩ : ∃ y_ : List Int, y_ = (x7_1.set (x8_1 : Int).toNat a2) := ⟨_, rfl⟩
     replace H : (platbookref03_Filled.l0 k1 a2 y185 (wrap64 (x8_1 + 1)) a0_0 a0_1 a0_2) = some (r1, r2, r3) := by first | (rw [hy185]; with_reducible exact H) | (have H2_ := (Option.bind_some _ _).symm.trans H; rw [hy185]; with_reducible exact H2_) | (have H2_ := (Option.bind_some _ _).symm.trans H; with_reducible exact H2_) | with_reducible exact H | (rw [hy185]; exact H) | exact H
     have Ny185 := Aside0.mk hy185
     clear hy185
     have H' := Aside0.mk H
     clear H
     obtain ⟨Ao13, co13, eo13⟩ := Kd.R_slice HO_7.out
     subst eo13
     have p12 : 0 ≤ (x8_1 : Int) := of_decide_eq_true (by first | (with_reducible assumption) | assumption)
     have q12 : (x8_1 : Int) < ((x7_1.length : Int) : Int) := of_decide_eq_true (by first | (with_reducible assumption) | assumption)
     obtain ⟨go12, co12, eo12, gb12, gl12, cl12, HG12⟩ := Kd.R_form HO_7.out (by omega)
     (first | cases eo12 | (injection eo12 with ea_ en_ ec_; (first | subst ea_ | (injection ea_ with ea_; subst ea_)); subst ec_; clear en_))
     have GB12 := Aside0.mk gb12
     have GG12 := Aside0.mk HG12
     clear gb12 gl12 HG12
     obtain ⟨hx12_0, hf12_0⟩ := Kd.R_celln 0 HO_7.out (x8_1 : Int) p12 q12
     replace p12 := eq_true p12
     replace q12 := eq_true q12
     have HP14 := Kd.R_putg HO_7.out (x8_1 : Int) a2
     go_wp2_with (first | ((with_reducible refine gate_store (t := 3) (p := 21) rfl ?_); refine store_event (t := 3) (p := 21) (v := ?vo_w15) (w1 := (wr.setCell ⟨go12, (x8_1 : Int).toNat, none⟩ (.int .i64 a2))) ?hg ?ho ?hn ?hr ?_; (case ho => rfl); (case hg => rfl); (case hn => rfl); (case hr => first | (go_simp; done) | (go_simp; rfl)); intro w15 hw; have hg : wr.grownBy w15 (some go12) := (by rw [hw]; exact HP14.2); have hp_ : Kd.R (Kd.int .i64) 3 w15 w.heap.size (fun _ => True) (.slice (some ⟨go12, 0, none⟩) x7_1.length co13) y185 := (by rw [hw, Ny185.out]; exact HP14.1); clear HP14; have n0_ := Aside0.mk (hp_); have n1_ := Aside0.mk (blk_grown (g := gb180) (o := .cells #[.bool a0_0, .int .u64 a0_1, .int .u64 a0_2] 26 (0, 0)) (pk_ BK180) hg (Kd.R_ne HO_7.out BK180.out (by decide))); have n2_ := Aside0.mk (blk_grown (g := gb181) (o := .cells #[.bool false, .int .u64 0, .int .u64 0] 26 (0, 0)) (pk_ BK181) hg (Kd.R_ne HO_7.out BK181.out (by decide))); have n3_ := Aside0.mk ((by rw [hw]; exact below_set (HB.out) GB12.out : Below w.heap.size w w15)); clear HO_7; clear BK180; clear BK181; clear HB; have HO_7 := n0_; have BK180 := n1_; have BK181 := n2_; have HB := n3_; clear n0_ n1_ n2_ n3_; clear hg hw hp_))
     go_roundg k1
     case measure => have := HK1.out; omega
     case rel => exact ⟨(y185), (wrap64 (x8_1 + 1)), (by first | rfl | (simp; done) | (simp [*]; done)), H', ⟨by have := HK1.out; omega⟩, ⟨by (with_reducible repeat (first | apply Kd.R_alloc | apply Kd.R_drewN | apply Kd.R_drew)); exact HO_7.out⟩, ⟨by refine pw_ ?_; exact BK180.out⟩, ⟨by refine pw_ ?_; exact BK181.out⟩, ⟨pb_ HB⟩⟩
    ·
     rw [if_neg c11] at H
     exact absurd H (by simp)
   ·
    rw [if_neg c10] at H
    have c10b0 : decide (x8_1 < (x7_1.length : Int)) = false := decide_eq_false c10
    clear c10
    replace H := Option.bind_eq_some_iff.mp H
    obtain ⟨⟨t186, t187, t188⟩, A160, H⟩ := H
    replace H : (some (t186, t187, t188)) = some (r1, r2, r3) := H
    have A16 := Aside0.mk A160
    clear A160
    simp only [Option.some.injEq, Prod.mk.injEq] at H
    obtain ⟨rfl, rfl, rfl⟩ := H
    obtain ⟨Ao17, co17, eo17⟩ := Kd.R_slice HO_7.out
    subst eo17
    have hnb18 := NB180_181.out
    have hnc18 := NB181_180.out
    obtain ⟨hcz19_0, hcz19_1, hcz19_2, hfz19_0, hfz19_1, hfz19_2⟩ := c3_ BK180
    go_wp2_with (first | ((with_reducible refine gate_callee (f := 93) rfl ?_); refine gl_ (some 25) Tryz.func93 #[.bool a0_0, .slice Ao17 x7_1.length co17] ?_; (with_reducible refine (platbookref03_Addr.calls k1 a0_0 _ _ x7_1 t186 t187 t188 _ ?side1 ?side2 A16.out).mono ?_); (case side1 => repeat (first | exact (Kd.R_reads' HO_7.out).2.2 | (with_reducible refine Kd.C_alloc ?_ _) | (with_reducible refine Kd.C_drewN ?_ _) | (with_reducible refine Kd.C_drew ?_))); (case side2 => exact (Kd.R_reads' HO_7.out).2.1); rintro e w20 ⟨rfl, hb⟩; refine ⟨_, rfl, ?_⟩; replace HO_7 := Aside0.mk (Kd.R_below (by (with_reducible repeat (first | apply Kd.R_alloc | apply Kd.R_drewN | apply Kd.R_drew)); exact HO_7.out) hb); replace BK180 := bb_ BK180 hb; replace BK181 := bb_ BK181 hb; replace HB := bs_ HB hb; (try clear hb); (try clear hb2); (try clear hk); (try clear hi); obtain ⟨hcz21_0, hcz21_1, hcz21_2, hfz21_0, hfz21_1, hfz21_2⟩ := c3_ BK181))
    refine bodyPost_ret (results_cell_row rfl _ _ gb181 26 #[.bool t186, .int .u64 t187, .int .u64 t188] (0, 0) _ rfl (by refine pw_ ?_; refine blk_put (cs := #[.bool t186, .int .u64 t187, .int .u64 0]) ?_ 2 _ rfl; refine pw_ ?_; refine blk_put (cs := #[.bool t186, .int .u64 0, .int .u64 0]) ?_ 1 _ rfl; refine pw_ ?_; refine blk_put (cs := #[.bool false, .int .u64 0, .int .u64 0]) ?_ 0 _ rfl; refine pw_ ?_; exact BK181.out) Tryz.underlying26 rfl (by kernel_rfl)) rfl ?_
    exact ⟨by first | rfl | (simp [errW_none, errW_some] <;> rfl) | (simp [*, errW_none, errW_some] <;> rfl), pb_ HB⟩

def platbookref03_Right.f (k : Nat) (a0_0 : Bool) (a0_1 : Int) (a0_2 : Int) (a0_3 : Int) : Option (Bool) := (platbookref02_Right.f a0_0 a0_1 a0_2).bind fun t190 => (if t190 = true then (if a0_3 < 0 then (some false) else ((platbookref02_Width.f a0_0 a0_1 a0_2).bind fun t191 => (if a0_3 > t191 then (some false) else ((platbookref03_Filled.f k a0_0 a0_1 a0_2 a0_3 0).bind fun bt192 => (some (bt192.1 == a0_0 && ((bt192.2.1 == a0_1 && (bt192.2.2 == a0_2))))))))) else (some false))
def platbookref03_Right.T1 : Bool × List (List Nat × List Nat) := (true, [([], []), ([0], [0]), ([1], [1]), ([2], [2]), ([3, 2], [3]), ([4], [4]), ([5, 4], [4, 5]), ([6, 4], [4, 6]), ([4, 7], [4, 7]), ([8, 4], [8]), ([9], [9]), ([10, 9], [9, 10]), ([9], [9]), ([12, 9], [9, 12]), ([13, 9, 9], [9, 13]), ([11, 14, 9], [9, 11, 14]), ([9, 15], [9, 15])])
def platbookref03_Right.B1 : List Nat := [0, 1, 3, 7, 15, 31, 63, 127, 255, 511, 1023, 2047, 1023, 5119, 13311, 32767, 65535]
theorem platbookref03_Right.tab1 : rtab .any (opsOf Tryz.f29 1) = platbookref03_Right.T1 := by kernel_rfl
theorem platbookref03_Right.bits1 : waitsOk platbookref03_Right.T1.2 platbookref03_Right.B1 = true := by kernel_rfl
def platbookref03_Right.T3 : Bool × List (List Nat × List Nat) := (true, [([], []), ([0], [0]), ([], []), ([2], [2]), ([1, 3], [1, 3]), ([], []), ([5], [5]), ([4, 6], [4, 6]), ([7, 4, 0, 1, 2, 3, 4, 5, 6, 7], [7])])
def platbookref03_Right.B3 : List Nat := [0, 1, 0, 4, 15, 0, 32, 127, 255]
theorem platbookref03_Right.tab3 : rtab .any (opsOf Tryz.f29 3) = platbookref03_Right.T3 := by kernel_rfl
theorem platbookref03_Right.bits3 : waitsOk platbookref03_Right.T3.2 platbookref03_Right.B3 = true := by kernel_rfl
set_option maxHeartbeats 8000000 in
set_option maxRecDepth 100000 in
theorem platbookref03_Right.calls (k : Nat) (a0_0 : Bool) (a0_1 : Int) (a0_2 : Int) (a0_3 : Int) (r : Bool) (w : World) (h : platbookref03_Right.f k a0_0 a0_1 a0_2 a0_3 = some r) :
  Calls Tryz.prog 29 #[.agg #[.bool a0_0, .int .u64 a0_1, .int .u64 a0_2, .int .i64 a0_3]] w fun e w' => e = .returned (.bool r) ∧ Below w.heap.size w w' := by
 have hu38 := Tryz.underlying38
 have hu26 := Tryz.underlying26
 have HB := Aside0.mk (Below.refl w.heap.size w)
 have H : ((platbookref02_Right.f a0_0 a0_1 a0_2).bind fun t190 => (if t190 = true then (if a0_3 < 0 then (some false) else ((platbookref02_Width.f a0_0 a0_1 a0_2).bind fun t191 => (if a0_3 > t191 then (some false) else ((platbookref03_Filled.f k a0_0 a0_1 a0_2 a0_3 0).bind fun bt192 => (some (bt192.1 == a0_0 && ((bt192.2.1 == a0_1 && (bt192.2.2 == a0_2))))))))) else (some false))) = some r := h
 clear h
 replace H := Option.bind_eq_some_iff.mp H
 obtain ⟨t190, A20, H⟩ := H
 replace H : (if t190 = true then (if a0_3 < 0 then (some false) else ((platbookref02_Width.f a0_0 a0_1 a0_2).bind fun t191 => (if a0_3 > t191 then (some false) else ((platbookref03_Filled.f k a0_0 a0_1 a0_2 a0_3 0).bind fun bt192 => (some (bt192.1 == a0_0 && ((bt192.2.1 == a0_1 && (bt192.2.2 == a0_2))))))))) else (some false)) = some r := H
 have A2 := Aside0.mk A20
 clear A20
 by_cases c3 : t190 = true
 ·
  subst c3
  rw [if_pos rfl] at H
  by_cases c4 : a0_3 < 0
  ·
   rw [if_pos c4] at H
   have c4b0 : decide (a0_3 < 0) = true := decide_eq_true c4
   clear c4
   obtain rfl := Option.some.inj H
   go_enter Tryz.func29, Tryz.ntmps29
   try go_wp2_with (first | ((with_reducible refine gate_dst (N := 1) rfl ?_); refine bx_ 1 #[.bool a0_0, .int .u64 a0_1, .int .u64 a0_2, .int .i64 a0_3] 38 ?_; intro gb189 hg w5 hbox hb; have BK189 := Aside0.mk (hbox); have GW189 := gw_ HB hg; have GE189 := gw_ HB hg; replace HB := bs_ HB hb; clear hb hbox hg))
   replace BK189 := Aside0.mk (blk_drew BK189.out)
   replace HB := Aside0.mk (below_drew1 HB.out)
   refine start_ (n := 17) (S := fun w' => w'.cell? ⟨gb189, 0, none⟩ = some (.bool a0_0) ∧ w'.cell? ⟨gb189, 1, none⟩ = some (.int .u64 a0_1) ∧ w'.cell? ⟨gb189, 2, none⟩ = some (.int .u64 a0_2) ∧ w'.cell? ⟨gb189, 3, none⟩ = some (.int .i64 a0_3)) (ds := []) (bm_ 17 0) (by kernel_rfl) rfl rfl ⟨kc_ BK189 0, kc_ BK189 1, kc_ BK189 2, kc_ BK189 3⟩ (fun hHeld => ?_); refine with_tabW platbookref03_Right.tab1 platbookref03_Right.bits1 (fun HT_ HW_ => ?_)
   generalize w5.drew = w6 at BK189 HB hHeld ⊢
   refine pu_ 0 (some 3) (bm_ 17 1) rfl HT_ ⟨by rfl, by intro w'; go_simp; with_reducible rfl⟩ ?_
   refine ta_ 1 (some 4) (bm_ 17 3) rfl HT_ HW_ ⟨by rfl, by rintro w' ⟨s0, s1, s2, s3⟩; go_simp; with_reducible rfl⟩ hHeld ?_
   refine one_ (i := 2) (N := some 5) (bm_ 17 7) rfl rfl (one_of HT_.out (by kernel_rfl)) (by decide) (fun K hK => ?_)
   refine gr_ Tryz.func19 #[.agg #[.bool a0_0, .int .u64 a0_1, .int .u64 a0_2]] ?_
   with_reducible refine (platbookref02_Right.calls a0_0 a0_1 a0_2 true _ A2.out).mono ?_
   rintro e w7 ⟨rfl, hb⟩
   refine ⟨_, rfl, ?_⟩
   replace BK189 := bb_ BK189 hb
   replace HB := bs_ HB hb
   (try clear hb)
   (try clear hb2)
   (try clear hk)
   (try clear hi)
   refine hK.out _ _ ⟨kc_ BK189 0, kc_ BK189 1, kc_ BK189 2, kc_ BK189 3⟩ (fun hHeld => ?_)
   clear hK K
   refine norm_ (a' := ?_) ?_ ?_
   rotate_left
   ·
    show Act.put _ (some 5) _ = _
    simp only [Act.put, List.setIfInBounds_toArray, List.set_cons_zero, List.set_cons_succ, i64_w, i32_w]
    rfl
   refine pu_ 3 (some 6) (bm_ 17 15) rfl HT_ ⟨by rfl, by intro w'; go_simp; with_reducible rfl⟩ ?_
   refine pu_ 4 (some 7) (bm_ 17 31) rfl HT_ ⟨by rfl, by intro w'; go_simp; with_reducible rfl⟩ ?_
   refine pu_ 5 (some 8) (bm_ 17 63) rfl HT_ ⟨by rfl, by intro w'; go_simp; with_reducible rfl⟩ ?_
   refine ta_ 6 (some 9) (bm_ 17 127) rfl HT_ HW_ ⟨by rfl, by rintro w' ⟨s0, s1, s2, s3⟩; go_simp; with_reducible rfl⟩ hHeld ?_
   refine pu_ 7 (some 10) (bm_ 17 255) rfl HT_ ⟨by rfl, by intro w'; go_simp; with_reducible rfl⟩ ?_
   refine pu_ 8 (some 11) (bm_ 17 511) rfl HT_ ⟨by rfl, by intro w'; go_simp; with_reducible rfl⟩ ?_
   refine pu_ 9 (some 12) (bm_ 17 1023) rfl HT_ ⟨by rfl, by intro w'; go_simp; with_reducible rfl⟩ ?_
   refine pure_ (i := 10) (N := some 13) (v := undef) (a' := ?_) (bm_ 17 2047) rfl rfl (any_of HT_.out (by kernel_rfl)) (fun _ _ _ h => h) (Or.inr ⟨by rfl, rfl⟩) ?_ ?_
   rotate_left
   ·
    simp only [Act.put, List.setIfInBounds_toArray, List.set_cons_zero, List.set_cons_succ, i64_w, i32_w]
    rfl
   refine pure_ (i := 11) (N := some 14) (v := undef) (a' := ?_) (bm_ 17 4095) rfl rfl (any_of HT_.out (by kernel_rfl)) (fun _ _ _ h => h) (Or.inr ⟨by rfl, rfl⟩) ?_ ?_
   rotate_left
   ·
    simp only [Act.put, List.setIfInBounds_toArray, List.set_cons_zero, List.set_cons_succ, i64_w, i32_w]
    rfl
   refine pure_ (i := 12) (N := some 15) (v := undef) (a' := ?_) (bm_ 17 8191) rfl rfl (any_of HT_.out (by kernel_rfl)) (fun _ _ _ h => h) (Or.inr ⟨by rfl, rfl⟩) ?_ ?_
   rotate_left
   ·
    simp only [Act.put, List.setIfInBounds_toArray, List.set_cons_zero, List.set_cons_succ, i64_w, i32_w]
    rfl
   refine pure_ (i := 13) (N := some 16) (v := undef) (a' := ?_) (bm_ 17 16383) rfl rfl (any_of HT_.out (by kernel_rfl)) (fun _ _ _ h => h) (Or.inr ⟨by rfl, rfl⟩) ?_ ?_
   rotate_left
   ·
    simp only [Act.put, List.setIfInBounds_toArray, List.set_cons_zero, List.set_cons_succ, i64_w, i32_w]
    rfl
   refine pure_ (i := 14) (N := some 17) (v := undef) (a' := ?_) (bm_ 17 32767) rfl rfl (any_of HT_.out (by kernel_rfl)) (fun _ _ _ h => h) (Or.inr ⟨by rfl, rfl⟩) ?_ ?_
   rotate_left
   ·
    simp only [Act.put, List.setIfInBounds_toArray, List.set_cons_zero, List.set_cons_succ, i64_w, i32_w]
    rfl
   refine pure_ (i := 15) (N := some 18) (v := undef) (a' := ?_) (bm_ 17 65535) rfl rfl (any_of HT_.out (by kernel_rfl)) (fun _ _ _ h => h) (Or.inr ⟨by rfl, rfl⟩) ?_ ?_
   rotate_left
   ·
    simp only [Act.put, List.setIfInBounds_toArray, List.set_cons_zero, List.set_cons_succ, i64_w, i32_w]
    rfl
   refine pu_ 16 (some 19) (bm_ 17 131071) rfl HT_ ⟨by rfl, by intro w'; go_simp; with_reducible rfl⟩ ?_
   refine done_ (done_of HT_.out (by kernel_rfl)) ?_
   try go_wp2
   go_ret
   exact ⟨by first | rfl | (simp [errW_none, errW_some] <;> rfl) | (simp [*, errW_none, errW_some] <;> rfl), pb_ HB⟩
  ·
   rw [if_neg c4] at H
   have c4b0 : decide (a0_3 < 0) = false := decide_eq_false c4
   clear c4
   replace H := Option.bind_eq_some_iff.mp H
   obtain ⟨t191, A80, H⟩ := H
   replace H : (if a0_3 > t191 then (some false) else ((platbookref03_Filled.f k a0_0 a0_1 a0_2 a0_3 0).bind fun bt192 => (some (bt192.1 == a0_0 && ((bt192.2.1 == a0_1 && (bt192.2.2 == a0_2))))))) = some r := H
   have A8 := Aside0.mk A80
   clear A80
   by_cases c9 : a0_3 > t191
   ·
    rw [if_pos c9] at H
    have c9b0 : decide (t191 < a0_3) = true := decide_eq_true c9
    clear c9
    obtain rfl := Option.some.inj H
    go_enter Tryz.func29, Tryz.ntmps29
    try go_wp2_with (first | ((with_reducible refine gate_dst (N := 1) rfl ?_); refine bx_ 1 #[.bool a0_0, .int .u64 a0_1, .int .u64 a0_2, .int .i64 a0_3] 38 ?_; intro gb189 hg w10 hbox hb; have BK189 := Aside0.mk (hbox); have GW189 := gw_ HB hg; have GE189 := gw_ HB hg; replace HB := bs_ HB hb; clear hb hbox hg))
    replace BK189 := Aside0.mk (blk_drew BK189.out)
    replace HB := Aside0.mk (below_drew1 HB.out)
    refine start_ (n := 17) (S := fun w' => w'.cell? ⟨gb189, 0, none⟩ = some (.bool a0_0) ∧ w'.cell? ⟨gb189, 1, none⟩ = some (.int .u64 a0_1) ∧ w'.cell? ⟨gb189, 2, none⟩ = some (.int .u64 a0_2) ∧ w'.cell? ⟨gb189, 3, none⟩ = some (.int .i64 a0_3)) (ds := []) (bm_ 17 0) (by kernel_rfl) rfl rfl ⟨kc_ BK189 0, kc_ BK189 1, kc_ BK189 2, kc_ BK189 3⟩ (fun hHeld => ?_); refine with_tabW platbookref03_Right.tab1 platbookref03_Right.bits1 (fun HT_ HW_ => ?_)
    generalize w10.drew = w11 at BK189 HB hHeld ⊢
    refine pu_ 0 (some 3) (bm_ 17 1) rfl HT_ ⟨by rfl, by intro w'; go_simp; with_reducible rfl⟩ ?_
    refine ta_ 1 (some 4) (bm_ 17 3) rfl HT_ HW_ ⟨by rfl, by rintro w' ⟨s0, s1, s2, s3⟩; go_simp; with_reducible rfl⟩ hHeld ?_
    refine one_ (i := 2) (N := some 5) (bm_ 17 7) rfl rfl (one_of HT_.out (by kernel_rfl)) (by decide) (fun K hK => ?_)
    refine gr_ Tryz.func19 #[.agg #[.bool a0_0, .int .u64 a0_1, .int .u64 a0_2]] ?_
    with_reducible refine (platbookref02_Right.calls a0_0 a0_1 a0_2 true _ A2.out).mono ?_
    rintro e w12 ⟨rfl, hb⟩
    refine ⟨_, rfl, ?_⟩
    replace BK189 := bb_ BK189 hb
    replace HB := bs_ HB hb
    (try clear hb)
    (try clear hb2)
    (try clear hk)
    (try clear hi)
    refine hK.out _ _ ⟨kc_ BK189 0, kc_ BK189 1, kc_ BK189 2, kc_ BK189 3⟩ (fun hHeld => ?_)
    clear hK K
    refine norm_ (a' := ?_) ?_ ?_
    rotate_left
    ·
     show Act.put _ (some 5) _ = _
     simp only [Act.put, List.setIfInBounds_toArray, List.set_cons_zero, List.set_cons_succ, i64_w, i32_w]
     rfl
    refine pu_ 3 (some 6) (bm_ 17 15) rfl HT_ ⟨by rfl, by intro w'; go_simp; with_reducible rfl⟩ ?_
    refine pu_ 4 (some 7) (bm_ 17 31) rfl HT_ ⟨by rfl, by intro w'; go_simp; with_reducible rfl⟩ ?_
    refine pu_ 5 (some 8) (bm_ 17 63) rfl HT_ ⟨by rfl, by intro w'; go_simp; with_reducible rfl⟩ ?_
    refine ta_ 6 (some 9) (bm_ 17 127) rfl HT_ HW_ ⟨by rfl, by rintro w' ⟨s0, s1, s2, s3⟩; go_simp; with_reducible rfl⟩ hHeld ?_
    refine pu_ 7 (some 10) (bm_ 17 255) rfl HT_ ⟨by rfl, by intro w'; go_simp; with_reducible rfl⟩ ?_
    refine pu_ 8 (some 11) (bm_ 17 511) rfl HT_ ⟨by rfl, by intro w'; go_simp; with_reducible rfl⟩ ?_
    refine pu_ 9 (some 12) (bm_ 17 1023) rfl HT_ ⟨by rfl, by intro w'; go_simp; with_reducible rfl⟩ ?_
    refine pu_ 10 (some 13) (bm_ 17 2047) rfl HT_ ⟨by rfl, by intro w'; go_simp; with_reducible rfl⟩ ?_
    refine pu_ 12 (some 15) (bm_ 17 6143) rfl HT_ ⟨by rfl, by intro w'; go_simp; with_reducible rfl⟩ ?_
    refine ta_ 11 (some 14) (bm_ 17 8191) rfl HT_ HW_ ⟨by rfl, by rintro w' ⟨s0, s1, s2, s3⟩; go_simp; with_reducible rfl⟩ hHeld ?_
    refine ta_ 13 (some 16) (bm_ 17 16383) rfl HT_ HW_ ⟨by rfl, by rintro w' ⟨s0, s1, s2, s3⟩; go_simp; with_reducible rfl⟩ hHeld ?_
    refine one_ (i := 14) (N := some 17) (bm_ 17 32767) rfl rfl (one_of HT_.out (by kernel_rfl)) (by decide) (fun K hK => ?_)
    refine gr_ Tryz.func23 #[.agg #[.bool a0_0, .int .u64 a0_1, .int .u64 a0_2]] ?_
    with_reducible refine (platbookref02_Width.calls a0_0 a0_1 a0_2 t191 _ A8.out).mono ?_
    rintro e w13 ⟨rfl, hb⟩
    refine ⟨_, rfl, ?_⟩
    replace BK189 := bb_ BK189 hb
    replace HB := bs_ HB hb
    (try clear hb)
    (try clear hb2)
    (try clear hk)
    (try clear hi)
    refine hK.out _ _ ⟨kc_ BK189 0, kc_ BK189 1, kc_ BK189 2, kc_ BK189 3⟩ (fun hHeld => ?_)
    clear hK K
    refine norm_ (a' := ?_) ?_ ?_
    rotate_left
    ·
     show Act.put _ (some 17) _ = _
     simp only [Act.put, List.setIfInBounds_toArray, List.set_cons_zero, List.set_cons_succ, i64_w, i32_w]
     rfl
    refine pu_ 15 (some 18) (bm_ 17 65535) rfl HT_ ⟨by rfl, by intro w'; go_simp; with_reducible rfl⟩ ?_
    refine pu_ 16 (some 19) (bm_ 17 131071) rfl HT_ ⟨by rfl, by intro w'; go_simp; with_reducible rfl⟩ ?_
    refine done_ (done_of HT_.out (by kernel_rfl)) ?_
    try go_wp2
    go_ret
    exact ⟨by first | rfl | (simp [errW_none, errW_some] <;> rfl) | (simp [*, errW_none, errW_some] <;> rfl), pb_ HB⟩
   ·
    rw [if_neg c9] at H
    have c9b0 : decide (t191 < a0_3) = false := decide_eq_false c9
    clear c9
    replace H := Option.bind_eq_some_iff.mp H
    obtain ⟨⟨t192, t193, t194⟩, A140, H⟩ := H
    replace H : (some (t192 == a0_0 && ((t193 == a0_1 && (t194 == a0_2))))) = some r := H
    have A14 := Aside0.mk A140
    clear A140
    obtain rfl := Option.some.inj H
    go_enter Tryz.func29, Tryz.ntmps29
    try go_wp2_with (first | ((with_reducible refine gate_dst (N := 1) rfl ?_); refine bx_ 1 #[.bool a0_0, .int .u64 a0_1, .int .u64 a0_2, .int .i64 a0_3] 38 ?_; intro gb189 hg w15 hbox hb; have BK189 := Aside0.mk (hbox); have GW189 := gw_ HB hg; have GE189 := gw_ HB hg; replace HB := bs_ HB hb; clear hb hbox hg))
    replace BK189 := Aside0.mk (blk_drew BK189.out)
    replace HB := Aside0.mk (below_drew1 HB.out)
    refine start_ (n := 17) (S := fun w' => w'.cell? ⟨gb189, 0, none⟩ = some (.bool a0_0) ∧ w'.cell? ⟨gb189, 1, none⟩ = some (.int .u64 a0_1) ∧ w'.cell? ⟨gb189, 2, none⟩ = some (.int .u64 a0_2) ∧ w'.cell? ⟨gb189, 3, none⟩ = some (.int .i64 a0_3)) (ds := []) (bm_ 17 0) (by kernel_rfl) rfl rfl ⟨kc_ BK189 0, kc_ BK189 1, kc_ BK189 2, kc_ BK189 3⟩ (fun hHeld => ?_); refine with_tabW platbookref03_Right.tab1 platbookref03_Right.bits1 (fun HT_ HW_ => ?_)
    generalize w15.drew = w16 at BK189 HB hHeld ⊢
    refine pu_ 0 (some 3) (bm_ 17 1) rfl HT_ ⟨by rfl, by intro w'; go_simp; with_reducible rfl⟩ ?_
    refine ta_ 1 (some 4) (bm_ 17 3) rfl HT_ HW_ ⟨by rfl, by rintro w' ⟨s0, s1, s2, s3⟩; go_simp; with_reducible rfl⟩ hHeld ?_
    refine one_ (i := 2) (N := some 5) (bm_ 17 7) rfl rfl (one_of HT_.out (by kernel_rfl)) (by decide) (fun K hK => ?_)
    refine gr_ Tryz.func19 #[.agg #[.bool a0_0, .int .u64 a0_1, .int .u64 a0_2]] ?_
    with_reducible refine (platbookref02_Right.calls a0_0 a0_1 a0_2 true _ A2.out).mono ?_
    rintro e w17 ⟨rfl, hb⟩
    refine ⟨_, rfl, ?_⟩
    replace BK189 := bb_ BK189 hb
    replace HB := bs_ HB hb
    (try clear hb)
    (try clear hb2)
    (try clear hk)
    (try clear hi)
    refine hK.out _ _ ⟨kc_ BK189 0, kc_ BK189 1, kc_ BK189 2, kc_ BK189 3⟩ (fun hHeld => ?_)
    clear hK K
    refine norm_ (a' := ?_) ?_ ?_
    rotate_left
    ·
     show Act.put _ (some 5) _ = _
     simp only [Act.put, List.setIfInBounds_toArray, List.set_cons_zero, List.set_cons_succ, i64_w, i32_w]
     rfl
    refine pu_ 3 (some 6) (bm_ 17 15) rfl HT_ ⟨by rfl, by intro w'; go_simp; with_reducible rfl⟩ ?_
    refine pu_ 4 (some 7) (bm_ 17 31) rfl HT_ ⟨by rfl, by intro w'; go_simp; with_reducible rfl⟩ ?_
    refine pu_ 5 (some 8) (bm_ 17 63) rfl HT_ ⟨by rfl, by intro w'; go_simp; with_reducible rfl⟩ ?_
    refine ta_ 6 (some 9) (bm_ 17 127) rfl HT_ HW_ ⟨by rfl, by rintro w' ⟨s0, s1, s2, s3⟩; go_simp; with_reducible rfl⟩ hHeld ?_
    refine pu_ 7 (some 10) (bm_ 17 255) rfl HT_ ⟨by rfl, by intro w'; go_simp; with_reducible rfl⟩ ?_
    refine pu_ 8 (some 11) (bm_ 17 511) rfl HT_ ⟨by rfl, by intro w'; go_simp; with_reducible rfl⟩ ?_
    refine pu_ 9 (some 12) (bm_ 17 1023) rfl HT_ ⟨by rfl, by intro w'; go_simp; with_reducible rfl⟩ ?_
    refine pu_ 10 (some 13) (bm_ 17 2047) rfl HT_ ⟨by rfl, by intro w'; go_simp; with_reducible rfl⟩ ?_
    refine pu_ 12 (some 15) (bm_ 17 6143) rfl HT_ ⟨by rfl, by intro w'; go_simp; with_reducible rfl⟩ ?_
    refine ta_ 11 (some 14) (bm_ 17 8191) rfl HT_ HW_ ⟨by rfl, by rintro w' ⟨s0, s1, s2, s3⟩; go_simp; with_reducible rfl⟩ hHeld ?_
    refine ta_ 13 (some 16) (bm_ 17 16383) rfl HT_ HW_ ⟨by rfl, by rintro w' ⟨s0, s1, s2, s3⟩; go_simp; with_reducible rfl⟩ hHeld ?_
    refine one_ (i := 14) (N := some 17) (bm_ 17 32767) rfl rfl (one_of HT_.out (by kernel_rfl)) (by decide) (fun K hK => ?_)
    refine gr_ Tryz.func23 #[.agg #[.bool a0_0, .int .u64 a0_1, .int .u64 a0_2]] ?_
    with_reducible refine (platbookref02_Width.calls a0_0 a0_1 a0_2 t191 _ A8.out).mono ?_
    rintro e w18 ⟨rfl, hb⟩
    refine ⟨_, rfl, ?_⟩
    replace BK189 := bb_ BK189 hb
    replace HB := bs_ HB hb
    (try clear hb)
    (try clear hb2)
    (try clear hk)
    (try clear hi)
    refine hK.out _ _ ⟨kc_ BK189 0, kc_ BK189 1, kc_ BK189 2, kc_ BK189 3⟩ (fun hHeld => ?_)
    clear hK K
    refine norm_ (a' := ?_) ?_ ?_
    rotate_left
    ·
     show Act.put _ (some 17) _ = _
     simp only [Act.put, List.setIfInBounds_toArray, List.set_cons_zero, List.set_cons_succ, i64_w, i32_w]
     rfl
    refine pu_ 15 (some 18) (bm_ 17 65535) rfl HT_ ⟨by rfl, by intro w'; go_simp; with_reducible rfl⟩ ?_
    refine pu_ 16 (some 19) (bm_ 17 131071) rfl HT_ ⟨by rfl, by intro w'; go_simp; with_reducible rfl⟩ ?_
    refine done_ (done_of HT_.out (by kernel_rfl)) ?_
    try go_wp2
    replace BK189 := Aside0.mk (blk_drew BK189.out)
    replace HB := Aside0.mk (below_drew1 HB.out)
    refine start_ (n := 9) (S := fun w' => w'.cell? ⟨gb189, 0, none⟩ = some (.bool a0_0) ∧ w'.cell? ⟨gb189, 1, none⟩ = some (.int .u64 a0_1) ∧ w'.cell? ⟨gb189, 2, none⟩ = some (.int .u64 a0_2) ∧ w'.cell? ⟨gb189, 3, none⟩ = some (.int .i64 a0_3)) (ds := []) (bm_ 9 0) (by kernel_rfl) rfl rfl ⟨kc_ BK189 0, kc_ BK189 1, kc_ BK189 2, kc_ BK189 3⟩ (fun hHeld => ?_); refine with_tabW platbookref03_Right.tab3 platbookref03_Right.bits3 (fun HT_ HW_ => ?_)
    generalize w18.drew = w19 at BK189 HB hHeld ⊢
    refine pu_ 0 (some 20) (bm_ 9 1) rfl HT_ ⟨by rfl, by intro w'; go_simp; with_reducible rfl⟩ ?_
    refine pu_ 2 (some 22) (bm_ 9 5) rfl HT_ ⟨by rfl, by intro w'; go_simp; with_reducible rfl⟩ ?_
    refine pu_ 5 (some 25) (bm_ 9 37) rfl HT_ ⟨by rfl, by intro w'; go_simp; with_reducible rfl⟩ ?_
    refine ta_ 1 (some 21) (bm_ 9 39) rfl HT_ HW_ ⟨by rfl, by rintro w' ⟨s0, s1, s2, s3⟩; go_simp; with_reducible rfl⟩ hHeld ?_
    refine ta_ 3 (some 23) (bm_ 9 47) rfl HT_ HW_ ⟨by rfl, by rintro w' ⟨s0, s1, s2, s3⟩; go_simp; with_reducible rfl⟩ hHeld ?_
    refine ta_ 6 (some 26) (bm_ 9 111) rfl HT_ HW_ ⟨by rfl, by rintro w' ⟨s0, s1, s2, s3⟩; go_simp; with_reducible rfl⟩ hHeld ?_
    refine one_ (i := 4) (N := some 24) (bm_ 9 127) rfl rfl (one_of HT_.out (by kernel_rfl)) (by decide) (fun K hK => ?_)
    refine gr_ Tryz.func78 #[.agg #[.bool a0_0, .int .u64 a0_1, .int .u64 a0_2], .int .i64 a0_3, .int .i64 0] ?_
    with_reducible refine (platbookref03_Filled.calls k a0_0 a0_1 a0_2 a0_3 0 t192 t193 t194 _ A14.out).mono ?_
    rintro e w20 ⟨rfl, hb⟩
    refine ⟨_, rfl, ?_⟩
    replace BK189 := bb_ BK189 hb
    replace HB := bs_ HB hb
    (try clear hb)
    (try clear hb2)
    (try clear hk)
    (try clear hi)
    refine hK.out _ _ ⟨kc_ BK189 0, kc_ BK189 1, kc_ BK189 2, kc_ BK189 3⟩ (fun hHeld => ?_)
    clear hK K
    refine norm_ (a' := ?_) ?_ ?_
    rotate_left
    ·
     show Act.put _ (some 24) _ = _
     simp only [Act.put, List.setIfInBounds_toArray, List.set_cons_zero, List.set_cons_succ, i64_w, i32_w]
     rfl
    refine pu_ 7 (some 27) (bm_ 9 255) rfl HT_ ⟨by rfl, by intro w'; go_simp; with_reducible rfl⟩ ?_
    refine pu_ 8 (some 2) (bm_ 9 511) rfl HT_ ⟨by rfl, by intro w'; go_simp; with_reducible rfl⟩ ?_
    refine done_ (done_of HT_.out (by kernel_rfl)) ?_
    try go_wp2
    go_ret
    exact ⟨by first | rfl | (simp [errW_none, errW_some] <;> rfl) | (simp [*, errW_none, errW_some] <;> rfl), pb_ HB⟩
 ·
  replace c3 := Bool.eq_false_iff.mpr c3
  subst c3
  have H1 : (some false) = some r := by rw [if_neg (show ¬ (false = true) by decide)] at H; exact H
  clear H
  have H := H1
  clear H1
  obtain rfl := Option.some.inj H
  go_enter Tryz.func29, Tryz.ntmps29
  try go_wp2_with (first | ((with_reducible refine gate_dst (N := 1) rfl ?_); refine bx_ 1 #[.bool a0_0, .int .u64 a0_1, .int .u64 a0_2, .int .i64 a0_3] 38 ?_; intro gb189 hg w21 hbox hb; have BK189 := Aside0.mk (hbox); have GW189 := gw_ HB hg; have GE189 := gw_ HB hg; replace HB := bs_ HB hb; clear hb hbox hg))
  replace BK189 := Aside0.mk (blk_drew BK189.out)
  replace HB := Aside0.mk (below_drew1 HB.out)
  refine start_ (n := 17) (S := fun w' => w'.cell? ⟨gb189, 0, none⟩ = some (.bool a0_0) ∧ w'.cell? ⟨gb189, 1, none⟩ = some (.int .u64 a0_1) ∧ w'.cell? ⟨gb189, 2, none⟩ = some (.int .u64 a0_2) ∧ w'.cell? ⟨gb189, 3, none⟩ = some (.int .i64 a0_3)) (ds := []) (bm_ 17 0) (by kernel_rfl) rfl rfl ⟨kc_ BK189 0, kc_ BK189 1, kc_ BK189 2, kc_ BK189 3⟩ (fun hHeld => ?_); refine with_tabW platbookref03_Right.tab1 platbookref03_Right.bits1 (fun HT_ HW_ => ?_)
  generalize w21.drew = w22 at BK189 HB hHeld ⊢
  refine pu_ 0 (some 3) (bm_ 17 1) rfl HT_ ⟨by rfl, by intro w'; go_simp; with_reducible rfl⟩ ?_
  refine ta_ 1 (some 4) (bm_ 17 3) rfl HT_ HW_ ⟨by rfl, by rintro w' ⟨s0, s1, s2, s3⟩; go_simp; with_reducible rfl⟩ hHeld ?_
  refine one_ (i := 2) (N := some 5) (bm_ 17 7) rfl rfl (one_of HT_.out (by kernel_rfl)) (by decide) (fun K hK => ?_)
  refine gr_ Tryz.func19 #[.agg #[.bool a0_0, .int .u64 a0_1, .int .u64 a0_2]] ?_
  with_reducible refine (platbookref02_Right.calls a0_0 a0_1 a0_2 false _ A2.out).mono ?_
  rintro e w23 ⟨rfl, hb⟩
  refine ⟨_, rfl, ?_⟩
  replace BK189 := bb_ BK189 hb
  replace HB := bs_ HB hb
  (try clear hb)
  (try clear hb2)
  (try clear hk)
  (try clear hi)
  refine hK.out _ _ ⟨kc_ BK189 0, kc_ BK189 1, kc_ BK189 2, kc_ BK189 3⟩ (fun hHeld => ?_)
  clear hK K
  refine norm_ (a' := ?_) ?_ ?_
  rotate_left
  ·
   show Act.put _ (some 5) _ = _
   simp only [Act.put, List.setIfInBounds_toArray, List.set_cons_zero, List.set_cons_succ, i64_w, i32_w]
   rfl
  refine pu_ 3 (some 6) (bm_ 17 15) rfl HT_ ⟨by rfl, by intro w'; go_simp; with_reducible rfl⟩ ?_
  refine pu_ 4 (some 7) (bm_ 17 31) rfl HT_ ⟨by rfl, by intro w'; go_simp; with_reducible rfl⟩ ?_
  refine pure_ (i := 5) (N := some 8) (v := undef) (a' := ?_) (bm_ 17 63) rfl rfl (any_of HT_.out (by kernel_rfl)) (fun _ _ _ h => h) (Or.inr ⟨by rfl, rfl⟩) ?_ ?_
  rotate_left
  ·
   simp only [Act.put, List.setIfInBounds_toArray, List.set_cons_zero, List.set_cons_succ, i64_w, i32_w]
   rfl
  refine pure_ (i := 6) (N := some 9) (v := undef) (a' := ?_) (bm_ 17 127) rfl rfl (any_of HT_.out (by kernel_rfl)) (fun _ _ _ h => h) (Or.inr ⟨by rfl, rfl⟩) ?_ ?_
  rotate_left
  ·
   simp only [Act.put, List.setIfInBounds_toArray, List.set_cons_zero, List.set_cons_succ, i64_w, i32_w]
   rfl
  refine pure_ (i := 7) (N := some 10) (v := undef) (a' := ?_) (bm_ 17 255) rfl rfl (any_of HT_.out (by kernel_rfl)) (fun _ _ _ h => h) (Or.inr ⟨by rfl, rfl⟩) ?_ ?_
  rotate_left
  ·
   simp only [Act.put, List.setIfInBounds_toArray, List.set_cons_zero, List.set_cons_succ, i64_w, i32_w]
   rfl
  refine pu_ 8 (some 11) (bm_ 17 511) rfl HT_ ⟨by rfl, by intro w'; go_simp; with_reducible rfl⟩ ?_
  refine pu_ 9 (some 12) (bm_ 17 1023) rfl HT_ ⟨by rfl, by intro w'; go_simp; with_reducible rfl⟩ ?_
  refine pure_ (i := 10) (N := some 13) (v := undef) (a' := ?_) (bm_ 17 2047) rfl rfl (any_of HT_.out (by kernel_rfl)) (fun _ _ _ h => h) (Or.inr ⟨by rfl, rfl⟩) ?_ ?_
  rotate_left
  ·
   simp only [Act.put, List.setIfInBounds_toArray, List.set_cons_zero, List.set_cons_succ, i64_w, i32_w]
   rfl
  refine pure_ (i := 11) (N := some 14) (v := undef) (a' := ?_) (bm_ 17 4095) rfl rfl (any_of HT_.out (by kernel_rfl)) (fun _ _ _ h => h) (Or.inr ⟨by rfl, rfl⟩) ?_ ?_
  rotate_left
  ·
   simp only [Act.put, List.setIfInBounds_toArray, List.set_cons_zero, List.set_cons_succ, i64_w, i32_w]
   rfl
  refine pure_ (i := 12) (N := some 15) (v := undef) (a' := ?_) (bm_ 17 8191) rfl rfl (any_of HT_.out (by kernel_rfl)) (fun _ _ _ h => h) (Or.inr ⟨by rfl, rfl⟩) ?_ ?_
  rotate_left
  ·
   simp only [Act.put, List.setIfInBounds_toArray, List.set_cons_zero, List.set_cons_succ, i64_w, i32_w]
   rfl
  refine pure_ (i := 13) (N := some 16) (v := undef) (a' := ?_) (bm_ 17 16383) rfl rfl (any_of HT_.out (by kernel_rfl)) (fun _ _ _ h => h) (Or.inr ⟨by rfl, rfl⟩) ?_ ?_
  rotate_left
  ·
   simp only [Act.put, List.setIfInBounds_toArray, List.set_cons_zero, List.set_cons_succ, i64_w, i32_w]
   rfl
  refine pure_ (i := 14) (N := some 17) (v := undef) (a' := ?_) (bm_ 17 32767) rfl rfl (any_of HT_.out (by kernel_rfl)) (fun _ _ _ h => h) (Or.inr ⟨by rfl, rfl⟩) ?_ ?_
  rotate_left
  ·
   simp only [Act.put, List.setIfInBounds_toArray, List.set_cons_zero, List.set_cons_succ, i64_w, i32_w]
   rfl
  refine pure_ (i := 15) (N := some 18) (v := undef) (a' := ?_) (bm_ 17 65535) rfl rfl (any_of HT_.out (by kernel_rfl)) (fun _ _ _ h => h) (Or.inr ⟨by rfl, rfl⟩) ?_ ?_
  rotate_left
  ·
   simp only [Act.put, List.setIfInBounds_toArray, List.set_cons_zero, List.set_cons_succ, i64_w, i32_w]
   rfl
  refine pu_ 16 (some 19) (bm_ 17 131071) rfl HT_ ⟨by rfl, by intro w'; go_simp; with_reducible rfl⟩ ?_
  refine done_ (done_of HT_.out (by kernel_rfl)) ?_
  try go_wp2
  go_ret
  exact ⟨by first | rfl | (simp [errW_none, errW_some] <;> rfl) | (simp [*, errW_none, errW_some] <;> rfl), pb_ HB⟩

end Go.Proofs.YtgdgklibilddgaaGreatDoor.PPt

namespace Go.Proofs.YtgdgklibilddgaaGreatDoor.PPt
open Go.RowKit Go.Proofs.YtgdgklibilddgaaGreatDoorW.PrintWords Go.Proofs.YtgdgklibilddgaaGreatDoorW.PrintLast Go.Proofs.YtgdgklibilddgaaGreatDoorW.PrintMore
attribute [local go_sem] max2_int min2_int max_two min_two max_three min_three max_four min_four   -- for this text's walks alone

mutual
def platbookref03_Parse.l0 : Nat → ByteArray → Int → Int → Option (Bool × Int × Int × Int × Int)
 | 0, _, _, _ => none
 | k + 1, x0, x4, x5 => if x5 < (x0.size : Int) then (if 0 ≤ x5 then (if (bt x0 x5) = 47 then (if x4 ≥ 0 then (some (false, 0, 0, 0, 4)) else (platbookref03_Parse.l0 k x0 x5 (wrap64 (x5 + 1)))) else (platbookref03_Parse.l0 k x0 x4 (wrap64 (x5 + 1)))) else (none)) else (if x4 < 0 then (some (false, 0, 0, 0, 4)) else (if 0 ≤ x4 then (if x4 ≤ (x0.size : Int) then ((platbookref02_Parse.f (x0.extract 0 (x4 : Int).toNat)).bind fun bt196 => (if 0 ≤ (wrap64 (x4 + 1)) then (if (wrap64 (x4 + 1)) ≤ (x0.size : Int) then (if bt196.2.2.2 = 0 then (if ((x0.extract ((wrap64 (x4 + 1)) : Int).toNat x0.size).size : Int) < 1 then (platbookref03_Parse.j1 k (x0.extract ((wrap64 (x4 + 1)) : Int).toNat x0.size) true bt196.1 bt196.2.1 bt196.2.2.1) else (if ((x0.extract ((wrap64 (x4 + 1)) : Int).toNat x0.size).size : Int) > 3 then (platbookref03_Parse.j1 k (x0.extract ((wrap64 (x4 + 1)) : Int).toNat x0.size) true bt196.1 bt196.2.1 bt196.2.2.1) else (if ((x0.extract ((wrap64 (x4 + 1)) : Int).toNat x0.size).size : Int) > 1 then (if 0 < ((x0.extract ((wrap64 (x4 + 1)) : Int).toNat x0.size).size : Int) then (platbookref03_Parse.j1 k (x0.extract ((wrap64 (x4 + 1)) : Int).toNat x0.size) ((bt (x0.extract ((wrap64 (x4 + 1)) : Int).toNat x0.size) 0) == 48) bt196.1 bt196.2.1 bt196.2.2.1) else (none)) else (platbookref03_Parse.j1 k (x0.extract ((wrap64 (x4 + 1)) : Int).toNat x0.size) false bt196.1 bt196.2.1 bt196.2.2.1)))) else (platbookref03_Parse.j1 k (x0.extract ((wrap64 (x4 + 1)) : Int).toNat x0.size) true bt196.1 bt196.2.1 bt196.2.2.1)) else (none)) else (none))) else (none)) else (none)))
def platbookref03_Parse.j1 : Nat → ByteArray → Bool → Bool → Int → Int → Option (Bool × Int × Int × Int × Int)
 | 0, _, _, _, _, _ => none
 | k + 1, x8, x61, x201000, x201001, x201002 => if x61 = true then (some (false, 0, 0, 0, 4)) else (platbookref03_Parse.l1 k x8 0 0 x201000 x201001 x201002)
def platbookref03_Parse.l1 : Nat → ByteArray → Int → Int → Bool → Int → Int → Option (Bool × Int × Int × Int × Int)
 | 0, _, _, _, _, _, _ => none
 | k + 1, x8, x9, x10, x201000, x201001, x201002 => if x10 < (x8.size : Int) then (if 0 ≤ x10 then (if (bt x8 x10) < 48 then (some (false, 0, 0, 0, 4)) else (if (bt x8 x10) > 57 then (some (false, 0, 0, 0, 4)) else (platbookref03_Parse.l1 k x8 (wrap64 ((wrap64 ((wrap64 (10 * x9)) + (wrap64 (bt x8 x10)))) - 48)) (wrap64 (x10 + 1)) x201000 x201001 x201002))) else (none)) else ((platbookref03_Right.f k x201000 x201001 x201002 x9).bind fun t202 => (if t202 = true then (some (x201000, x201001, x201002, x9, 0)) else (some (false, 0, 0, 0, 4))))
end
def platbookref03_Parse.f (k : Nat) (a0 : ByteArray) : Option (Bool × Int × Int × Int × Int) := platbookref03_Parse.l0 k a0 (-1) 0
set_option maxHeartbeats 8000000 in
set_option maxRecDepth 100000 in
theorem platbookref03_Parse.calls (k : Nat) (a0 : ByteArray) (r1 : Bool) (r2 : Int) (r3 : Int) (r4 : Int) (r5 : Int) (w : World) (h : platbookref03_Parse.f k a0 = some (r1, r2, r3, r4, r5)) :
  Calls Tryz.prog 26 #[.string a0] w fun e w' => e = .returned (.tuple #[.agg #[.bool r1, .int .u64 r2, .int .u64 r3, .int .i64 r4], .int .i64 r5]) ∧ Below w.heap.size w w' := by
 have hu38 := Tryz.underlying38
 have hu26 := Tryz.underlying26
 have HB := Aside0.mk (Below.refl w.heap.size w)
 have H : (platbookref03_Parse.l0 k a0 (-1) 0) = some (r1, r2, r3, r4, r5) := h
 clear h
 have H' := Aside0.mk H
 clear H
 go_enter Tryz.func26, Tryz.ntmps26
 go_wp2_with (first | ((with_reducible refine gate_dst (N := 2) rfl ?_); (try (refine gate_guard (by rfl) ?_; dsimp only)); refine bx_ 2 #[.bool false, .int .u64 0, .int .u64 0, .int .i64 0] 38 ?_; intro gb195 hg w2 hbox hb; have BK195 := Aside0.mk (hbox); have GW195 := gw_ HB hg; have GE195 := gw_ HB hg; replace HB := bs_ HB hb; clear hb hbox hg))
 go_loopg [4, 5] k (fun kq v4 v5 w' => ∃ (x4_1 : Int) (x5_1 : Int) (x196000_1 : Bool) (x196001_1 : Int) (x196002_1 : Int) (x196003_1 : Int), v4 = .int .i64 x4_1 ∧ v5 = .int .i64 x5_1 ∧ Aside0 (platbookref03_Parse.l0 kq a0 x4_1 x5_1 = some (r1, r2, r3, r4, r5)) ∧ Aside0 (kq ≤ k) ∧ Aside0 (w'.heap[gb195]? = some (.cells #[.bool x196000_1, .int .u64 x196001_1, .int .u64 x196002_1, .int .i64 x196003_1] 38 (0, 0))) ∧ Aside0 (Below w.heap.size w w'))
 case atStart => exact ⟨((-1)), (0), (false), (0), (0), (0), (by first | rfl | (simp; done) | (simp [*]; done)), (by first | rfl | (simp; done) | (simp [*]; done)), H', ⟨Nat.le_refl _⟩, ⟨by refine pw_ ?_; exact BK195.out⟩, ⟨pb_ HB⟩⟩
 case round =>
  clear H'
  try clear c2
  try clear p2
  obtain ⟨x4_1, x5_1, x196000_1, x196001_1, x196002_1, x196003_1, rfl, rfl, HA, HK1, BK195, HB⟩ := hrel
  cases gk with
  | zero => exact absurd HA.out (by simp [platbookref03_Parse.l0])
  | succ k1 =>
   have H := HA.out
   clear HA
   simp only [platbookref03_Parse.l0] at H
   by_cases c3 : x5_1 < (a0.size : Int)
   ·
    rw [if_pos c3] at H
    have c3b0 : decide (x5_1 < (a0.size : Int)) = true := decide_eq_true c3
    clear c3
    by_cases c4 : 0 ≤ x5_1
    ·
     rw [if_pos c4] at H
     have c4b0 : decide (0 ≤ x5_1) = true := decide_eq_true c4
     clear c4
     by_cases c6 : (bt a0 x5_1) = 47
     ·
      rw [if_pos c6] at H
      have c6b0 : ((bt a0 x5_1) == 47) = true := beq_iff_eq.mpr c6
      have c6b1 : ((bt a0 x5_1) != 47) = false := bne_eq_false_iff_eq.mpr c6
      clear c6
      by_cases c7 : x4_1 ≥ 0
      ·
       rw [if_pos c7] at H
       have c7b0 : decide (0 ≤ x4_1) = true := decide_eq_true c7
       clear c7
       simp only [Option.some.injEq, Prod.mk.injEq] at H
       obtain ⟨rfl, rfl, rfl, rfl, rfl⟩ := H
       have p5 : 0 ≤ (x5_1 : Int) := of_decide_eq_true (by first | (with_reducible assumption) | assumption)
       have q5 : x5_1 < (a0.size : Int) := of_decide_eq_true (by first | (with_reducible assumption) | assumption)
       have hx5 := bt_at a0 x5_1
       replace p5 := eq_true p5
       replace q5 := eq_true q5
       obtain ⟨hcz8_0, hcz8_1, hcz8_2, hcz8_3, hfz8_0, hfz8_1, hfz8_2, hfz8_3⟩ := c4_ BK195
       go_wp2
       refine bodyPost_ret (results_ct rfl _ _ gb195 38 #[.bool false, .int .u64 0, .int .u64 0, .int .i64 0] (0, 0) _ rfl (by refine pw_ ?_; refine blk_put (cs := #[.bool false, .int .u64 0, .int .u64 0, .int .i64 x196003_1]) ?_ 3 _ rfl; refine pw_ ?_; refine blk_put (cs := #[.bool false, .int .u64 0, .int .u64 x196002_1, .int .i64 x196003_1]) ?_ 2 _ rfl; refine pw_ ?_; refine blk_put (cs := #[.bool false, .int .u64 x196001_1, .int .u64 x196002_1, .int .i64 x196003_1]) ?_ 1 _ rfl; refine pw_ ?_; refine blk_put (cs := #[.bool x196000_1, .int .u64 x196001_1, .int .u64 x196002_1, .int .i64 x196003_1]) ?_ 0 _ rfl; refine pw_ ?_; exact BK195.out) Tryz.underlying38 rfl (by kernel_rfl)) rfl ?_
       exact ⟨by first | rfl | (simp [errW_none, errW_some] <;> rfl) | (simp [*, errW_none, errW_some] <;> rfl), pb_ HB⟩
      ·
       rw [if_neg c7] at H
       have c7b0 : decide (0 ≤ x4_1) = false := decide_eq_false c7
       clear c7
       have H' := Aside0.mk H
       clear H
       have p5 : 0 ≤ (x5_1 : Int) := of_decide_eq_true (by first | (with_reducible assumption) | assumption)
       have q5 : x5_1 < (a0.size : Int) := of_decide_eq_true (by first | (with_reducible assumption) | assumption)
       have hx5 := bt_at a0 x5_1
       replace p5 := eq_true p5
       replace q5 := eq_true q5
       go_wp2
       go_roundg k1
       case measure => have := HK1.out; omega
       case rel => exact ⟨(x5_1), (wrap64 (x5_1 + 1)), (x196000_1), (x196001_1), (x196002_1), (x196003_1), (by first | rfl | (simp; done) | (simp [*]; done)), (by first | rfl | (simp; done) | (simp [*]; done)), H', ⟨by have := HK1.out; omega⟩, ⟨by refine pw_ ?_; exact BK195.out⟩, ⟨pb_ HB⟩⟩
     ·
      rw [if_neg c6] at H
      have c6b0 : ((bt a0 x5_1) == 47) = false := beq_eq_false_iff_ne.mpr c6
      have c6b1 : ((bt a0 x5_1) != 47) = true := bne_iff_ne.mpr c6
      have H' := Aside0.mk H
      clear H
      have p5 : 0 ≤ (x5_1 : Int) := of_decide_eq_true (by first | (with_reducible assumption) | assumption)
      have q5 : x5_1 < (a0.size : Int) := of_decide_eq_true (by first | (with_reducible assumption) | assumption)
      have hx5 := bt_at a0 x5_1
      replace p5 := eq_true p5
      replace q5 := eq_true q5
      go_wp2
      go_roundg k1
      case measure => have := HK1.out; omega
      case rel => exact ⟨(x4_1), (wrap64 (x5_1 + 1)), (x196000_1), (x196001_1), (x196002_1), (x196003_1), (by first | rfl | (simp; done) | (simp [*]; done)), (by first | rfl | (simp; done) | (simp [*]; done)), H', ⟨by have := HK1.out; omega⟩, ⟨by refine pw_ ?_; exact BK195.out⟩, ⟨pb_ HB⟩⟩
    ·
     rw [if_neg c4] at H
     exact absurd H (by simp)
   ·
    rw [if_neg c3] at H
    have c3b0 : decide (x5_1 < (a0.size : Int)) = false := decide_eq_false c3
    clear c3
    by_cases c9 : x4_1 < 0
    ·
     rw [if_pos c9] at H
     have c9b0 : decide (x4_1 < 0) = true := decide_eq_true c9
     clear c9
     simp only [Option.some.injEq, Prod.mk.injEq] at H
     obtain ⟨rfl, rfl, rfl, rfl, rfl⟩ := H
     obtain ⟨hcz10_0, hcz10_1, hcz10_2, hcz10_3, hfz10_0, hfz10_1, hfz10_2, hfz10_3⟩ := c4_ BK195
     go_wp2
     refine bodyPost_ret (results_ct rfl _ _ gb195 38 #[.bool false, .int .u64 0, .int .u64 0, .int .i64 0] (0, 0) _ rfl (by refine pw_ ?_; refine blk_put (cs := #[.bool false, .int .u64 0, .int .u64 0, .int .i64 x196003_1]) ?_ 3 _ rfl; refine pw_ ?_; refine blk_put (cs := #[.bool false, .int .u64 0, .int .u64 x196002_1, .int .i64 x196003_1]) ?_ 2 _ rfl; refine pw_ ?_; refine blk_put (cs := #[.bool false, .int .u64 x196001_1, .int .u64 x196002_1, .int .i64 x196003_1]) ?_ 1 _ rfl; refine pw_ ?_; refine blk_put (cs := #[.bool x196000_1, .int .u64 x196001_1, .int .u64 x196002_1, .int .i64 x196003_1]) ?_ 0 _ rfl; refine pw_ ?_; exact BK195.out) Tryz.underlying38 rfl (by kernel_rfl)) rfl ?_
     exact ⟨by first | rfl | (simp [errW_none, errW_some] <;> rfl) | (simp [*, errW_none, errW_some] <;> rfl), pb_ HB⟩
    ·
     rw [if_neg c9] at H
     have c9b0 : decide (x4_1 < 0) = false := decide_eq_false c9
     clear c9
     by_cases c11 : 0 ≤ x4_1
     ·
      rw [if_pos c11] at H
      have c11b0 := eq_true c11
      have c11b1 : decide (0 ≤ x4_1) = true := decide_eq_true c11
      clear c11
      by_cases c12 : x4_1 ≤ (a0.size : Int)
      ·
       rw [if_pos c12] at H
       have c12b0 := eq_true c12
       have c12b1 : decide (x4_1 ≤ (a0.size : Int)) = true := decide_eq_true c12
       clear c12
       replace H := Option.bind_eq_some_iff.mp H
       obtain ⟨⟨t196, t197, t198, t199⟩, A130, H⟩ := H
       replace H : (if 0 ≤ (wrap64 (x4_1 + 1)) then (if (wrap64 (x4_1 + 1)) ≤ (a0.size : Int) then (if t199 = 0 then (if ((a0.extract ((wrap64 (x4_1 + 1)) : Int).toNat a0.size).size : Int) < 1 then (platbookref03_Parse.j1 k1 (a0.extract ((wrap64 (x4_1 + 1)) : Int).toNat a0.size) true t196 t197 t198) else (if ((a0.extract ((wrap64 (x4_1 + 1)) : Int).toNat a0.size).size : Int) > 3 then (platbookref03_Parse.j1 k1 (a0.extract ((wrap64 (x4_1 + 1)) : Int).toNat a0.size) true t196 t197 t198) else (if ((a0.extract ((wrap64 (x4_1 + 1)) : Int).toNat a0.size).size : Int) > 1 then (if 0 < ((a0.extract ((wrap64 (x4_1 + 1)) : Int).toNat a0.size).size : Int) then (platbookref03_Parse.j1 k1 (a0.extract ((wrap64 (x4_1 + 1)) : Int).toNat a0.size) ((bt (a0.extract ((wrap64 (x4_1 + 1)) : Int).toNat a0.size) 0) == 48) t196 t197 t198) else (none)) else (platbookref03_Parse.j1 k1 (a0.extract ((wrap64 (x4_1 + 1)) : Int).toNat a0.size) false t196 t197 t198)))) else (platbookref03_Parse.j1 k1 (a0.extract ((wrap64 (x4_1 + 1)) : Int).toNat a0.size) true t196 t197 t198)) else (none)) else (none)) = some (r1, r2, r3, r4, r5) := H
       have A13 := Aside0.mk A130
       clear A130
       obtain ⟨ji14, hji14⟩ : ∃ j_ : Int, (wrap64 (x4_1 + 1)) = j_ := ⟨_, rfl⟩
       replace H : (if 0 ≤ (ji14) then (if (ji14) ≤ (a0.size : Int) then (if t199 = 0 then (if ((a0.extract ((ji14) : Int).toNat a0.size).size : Int) < 1 then (platbookref03_Parse.j1 k1 (a0.extract ((ji14) : Int).toNat a0.size) true t196 t197 t198) else (if ((a0.extract ((ji14) : Int).toNat a0.size).size : Int) > 3 then (platbookref03_Parse.j1 k1 (a0.extract ((ji14) : Int).toNat a0.size) true t196 t197 t198) else (if ((a0.extract ((ji14) : Int).toNat a0.size).size : Int) > 1 then (if 0 < ((a0.extract ((ji14) : Int).toNat a0.size).size : Int) then (platbookref03_Parse.j1 k1 (a0.extract ((ji14) : Int).toNat a0.size) ((bt (a0.extract ((ji14) : Int).toNat a0.size) 0) == 48) t196 t197 t198) else (none)) else (platbookref03_Parse.j1 k1 (a0.extract ((ji14) : Int).toNat a0.size) false t196 t197 t198)))) else (platbookref03_Parse.j1 k1 (a0.extract ((ji14) : Int).toNat a0.size) true t196 t197 t198)) else (none)) else (none)) = some (r1, r2, r3, r4, r5) := by first | (rw [hji14] at H; exact H) | (simp only [hji14] at H ⊢; exact H)
       (try rw [hji14] at A13)
       have hji14w : (IntKind.i64.wrap (x4_1 + 1)) = ji14 := (i64_w _).trans hji14
       by_cases c15 : 0 ≤ (ji14)
       ·
        rw [if_pos c15] at H
        have c15b0 := eq_true c15
        have c15b1 : decide (0 ≤ (ji14)) = true := decide_eq_true c15
        clear c15
        by_cases c16 : (ji14) ≤ (a0.size : Int)
        ·
         rw [if_pos c16] at H
         have c16b0 := eq_true c16
         have c16b1 : decide ((ji14) ≤ (a0.size : Int)) = true := decide_eq_true c16
         clear c16
         have HC17 := Aside0.mk H
         clear H
         go_upto_region 13 with (first | ((with_reducible refine gate_callee (f := 75) rfl ?_); refine gl_ (some 33) Tryz.func75 #[.string (a0.extract 0 (x4_1 : Int).toNat)] ?_; (with_reducible refine (platbookref02_Parse.calls (a0.extract 0 (x4_1 : Int).toNat) t196 t197 t198 t199 _ A13.out).mono ?_); rintro e w18 ⟨rfl, hb⟩; refine ⟨_, rfl, ?_⟩; replace BK195 := bb_ BK195 hb; replace HB := bs_ HB hb; (try clear hb); (try clear hb2); (try clear hk); (try clear hi)) | ((with_reducible refine gate_dst (N := 6) rfl ?_); (try (refine gate_guard (by rfl) ?_; dsimp only)); refine bx_ 6 #[.bool false, .int .u64 0, .int .u64 0] 26 ?_; intro gb200 hg w19 hbox hb; have BK200 := Aside0.mk (hbox); have GW200 := gw_ HB hg; have GE200 := gw_ HB hg; have NB195_200 := nl_ BK195 hg; have NB200_195 := ng_ BK195 hg; replace BK195 := bb_ BK195 hb; replace HB := bs_ HB hb; clear hb hbox hg; have hnb20 := NB200_195.out; have hnc20 := NB195_200.out; obtain ⟨hcz21_0, hcz21_1, hcz21_2, hfz21_0, hfz21_1, hfz21_2⟩ := c3_ BK200))
         (try simp only [Act.put, List.setIfInBounds_toArray, List.set_cons_zero, List.set_cons_succ])
         obtain ⟨sx, hsx⟩ : ∃ sx, a0.extract ((ji14) : Int).toNat a0.size = sx := ⟨_, rfl⟩
         simp only [hsx] at HC17
         (try simp only [hsx])
         clear hsx
         go_cut [61] (fun v61 wc => ∃ (kq : Nat) (x61_16 : Bool), v61 = .bool x61_16 ∧ Aside0 (platbookref03_Parse.j1 kq sx x61_16 t196 t197 t198 = some (r1, r2, r3, r4, r5)) ∧ Aside0 (kq ≤ k1) ∧ Aside0 (wc.heap[gb195]? = some (.cells #[.bool x196000_1, .int .u64 x196001_1, .int .u64 x196002_1, .int .i64 x196003_1] 38 (0, 0))) ∧ Aside0 (wc.heap[gb200]? = some (.cells #[.bool t196, .int .u64 t197, .int .u64 t198] 26 (0, 0))) ∧ Aside0 (Below w.heap.size w wc))
         case first =>
          have H := HC17.out
          clear HC17
          by_cases c22 : t199 = 0
          ·
           rw [if_pos c22] at H
           have c22b0 : (t199 == 0) = true := beq_iff_eq.mpr c22
           have c22b1 : (t199 != 0) = false := bne_eq_false_iff_eq.mpr c22
           clear c22
           (first | rw [c22b0] | (simp only [i64_w, i32_w]; rw [c22b0]) | skip)
           by_cases c23 : (sx.size : Int) < 1
           ·
            rw [if_pos c23] at H
            have c23b0 : decide ((sx.size : Int) < 1) = true := decide_eq_true c23
            have c23b1 : decide (sx.size < 1) = true := decide_eq_true (by omega)
            clear c23
            have H' := Aside0.mk H
            clear H
            go_wp2
            go_meet
            case rel => exact ⟨_, (true), (by first | rfl | (simp; done) | (simp [*]; done)), H', ⟨by have := HK1.out; first | omega | exact Nat.le_refl _⟩, ⟨by refine pw_ ?_; refine blk_far ?_ NB195_200.out _; refine pw_ ?_; refine blk_far ?_ NB195_200.out _; refine pw_ ?_; refine blk_far ?_ NB195_200.out _; refine pw_ ?_; exact BK195.out⟩, ⟨by refine pw_ ?_; refine blk_put (cs := #[.bool t196, .int .u64 t197, .int .u64 0]) ?_ 2 _ rfl; refine pw_ ?_; refine blk_put (cs := #[.bool t196, .int .u64 0, .int .u64 0]) ?_ 1 _ rfl; refine pw_ ?_; refine blk_put (cs := #[.bool false, .int .u64 0, .int .u64 0]) ?_ 0 _ rfl; refine pw_ ?_; exact BK200.out⟩, ⟨pb_ HB⟩⟩
           ·
            rw [if_neg c23] at H
            have c23b0 : decide ((sx.size : Int) < 1) = false := decide_eq_false c23
            have c23b1 : decide (sx.size < 1) = false := decide_eq_false (by omega)
            clear c23
            by_cases c24 : (sx.size : Int) > 3
            ·
             rw [if_pos c24] at H
             have c24b0 : decide (3 < (sx.size : Int)) = true := decide_eq_true c24
             have c24b1 : decide (3 < sx.size) = true := decide_eq_true (by omega)
             clear c24
             have H' := Aside0.mk H
             clear H
             go_wp2
             go_meet
             case rel => exact ⟨_, (true), (by first | rfl | (simp; done) | (simp [*]; done)), H', ⟨by have := HK1.out; first | omega | exact Nat.le_refl _⟩, ⟨by refine pw_ ?_; refine blk_far ?_ NB195_200.out _; refine pw_ ?_; refine blk_far ?_ NB195_200.out _; refine pw_ ?_; refine blk_far ?_ NB195_200.out _; refine pw_ ?_; exact BK195.out⟩, ⟨by refine pw_ ?_; refine blk_put (cs := #[.bool t196, .int .u64 t197, .int .u64 0]) ?_ 2 _ rfl; refine pw_ ?_; refine blk_put (cs := #[.bool t196, .int .u64 0, .int .u64 0]) ?_ 1 _ rfl; refine pw_ ?_; refine blk_put (cs := #[.bool false, .int .u64 0, .int .u64 0]) ?_ 0 _ rfl; refine pw_ ?_; exact BK200.out⟩, ⟨pb_ HB⟩⟩
            ·
             rw [if_neg c24] at H
             have c24b0 : decide (3 < (sx.size : Int)) = false := decide_eq_false c24
             have c24b1 : decide (3 < sx.size) = false := decide_eq_false (by omega)
             clear c24
             by_cases c25 : (sx.size : Int) > 1
             ·
              rw [if_pos c25] at H
              have c25b0 : decide (1 < (sx.size : Int)) = true := decide_eq_true c25
              have c25b1 : decide (1 < sx.size) = true := decide_eq_true (by omega)
              clear c25
              by_cases c26 : 0 < (sx.size : Int)
              ·
               rw [if_pos c26] at H
               have c26b0 : decide (0 < (sx.size : Int)) = true := decide_eq_true c26
               have c26b1 : decide (0 < sx.size) = true := decide_eq_true (by omega)
               clear c26
               have H' := Aside0.mk H
               clear H
               have p27 : 0 ≤ (0 : Int) := (by omega)
               have q27 : 0 < sx.size := (by have : (0 : Int) < (sx.size : Int) := of_decide_eq_true (by first | (with_reducible assumption) | assumption); omega)
               have hx27 : ∀ h : 0 < sx.size, ((sx[0]'h).toNat : Int) = bt sx 0 := bt_at sx 0
               clear p27
               have qi27 : (0 < (sx.size : Int)) = True := eq_true (of_decide_eq_true (by first | (with_reducible assumption) | assumption))
               replace q27 := eq_true q27
               go_wp2
               go_meet
               case rel => exact ⟨_, (((bt sx 0) == 48)), (by first | rfl | (simp; done) | (simp only [← hji14] <;> (first | rfl | simp)) | (simp [*]; done)), H', ⟨by have := HK1.out; first | omega | exact Nat.le_refl _⟩, ⟨by refine pw_ ?_; refine blk_far ?_ NB195_200.out _; refine pw_ ?_; refine blk_far ?_ NB195_200.out _; refine pw_ ?_; refine blk_far ?_ NB195_200.out _; refine pw_ ?_; exact BK195.out⟩, ⟨by refine pw_ ?_; refine blk_put (cs := #[.bool t196, .int .u64 t197, .int .u64 0]) ?_ 2 _ rfl; refine pw_ ?_; refine blk_put (cs := #[.bool t196, .int .u64 0, .int .u64 0]) ?_ 1 _ rfl; refine pw_ ?_; refine blk_put (cs := #[.bool false, .int .u64 0, .int .u64 0]) ?_ 0 _ rfl; refine pw_ ?_; exact BK200.out⟩, ⟨pb_ HB⟩⟩
              ·
               rw [if_neg c26] at H
               exact absurd H (by simp)
             ·
              rw [if_neg c25] at H
              have c25b0 : decide (1 < (sx.size : Int)) = false := decide_eq_false c25
              have c25b1 : decide (1 < sx.size) = false := decide_eq_false (by omega)
              clear c25
              have H' := Aside0.mk H
              clear H
              go_wp2
              go_meet
              case rel => exact ⟨_, (false), (by first | rfl | (simp; done) | (simp [*]; done)), H', ⟨by have := HK1.out; first | omega | exact Nat.le_refl _⟩, ⟨by refine pw_ ?_; refine blk_far ?_ NB195_200.out _; refine pw_ ?_; refine blk_far ?_ NB195_200.out _; refine pw_ ?_; refine blk_far ?_ NB195_200.out _; refine pw_ ?_; exact BK195.out⟩, ⟨by refine pw_ ?_; refine blk_put (cs := #[.bool t196, .int .u64 t197, .int .u64 0]) ?_ 2 _ rfl; refine pw_ ?_; refine blk_put (cs := #[.bool t196, .int .u64 0, .int .u64 0]) ?_ 1 _ rfl; refine pw_ ?_; refine blk_put (cs := #[.bool false, .int .u64 0, .int .u64 0]) ?_ 0 _ rfl; refine pw_ ?_; exact BK200.out⟩, ⟨pb_ HB⟩⟩
          ·
           rw [if_neg c22] at H
           have c22b0 : (t199 == 0) = false := beq_eq_false_iff_ne.mpr c22
           have c22b1 : (t199 != 0) = true := bne_iff_ne.mpr c22
           (first | rw [c22b0] | (simp only [i64_w, i32_w]; rw [c22b0]) | skip)
           have H' := Aside0.mk H
           clear H
           go_wp2
           go_meet
           case rel => exact ⟨_, (true), (by first | rfl | (simp; done) | (simp [*]; done)), H', ⟨by have := HK1.out; first | omega | exact Nat.le_refl _⟩, ⟨by refine pw_ ?_; refine blk_far ?_ NB195_200.out _; refine pw_ ?_; refine blk_far ?_ NB195_200.out _; refine pw_ ?_; refine blk_far ?_ NB195_200.out _; refine pw_ ?_; exact BK195.out⟩, ⟨by refine pw_ ?_; refine blk_put (cs := #[.bool t196, .int .u64 t197, .int .u64 0]) ?_ 2 _ rfl; refine pw_ ?_; refine blk_put (cs := #[.bool t196, .int .u64 0, .int .u64 0]) ?_ 1 _ rfl; refine pw_ ?_; refine blk_put (cs := #[.bool false, .int .u64 0, .int .u64 0]) ?_ 0 _ rfl; refine pw_ ?_; exact BK200.out⟩, ⟨pb_ HB⟩⟩
         case rest =>
          clear HC17
          try clear c1
          try clear c2
          try clear p2
          try clear q2
          try clear hx2
          try clear qi2
          try clear c3
          try clear c3b0
          try clear c4
          try clear c4b0
          try clear p5
          try clear q5
          try clear hx5
          try clear c6
          try clear c6b0
          try clear c6b1
          try clear p6
          try clear c7
          try clear c7b0
          try clear c9
          try clear c9b0
          try clear c11
          try clear c11b0
          try clear c11b1
          try clear c12
          try clear c12b0
          try clear c12b1
          try clear c15
          try clear c15b0
          try clear c15b1
          try clear c16
          try clear c16b0
          try clear c16b1
          try clear c20
          try clear c22
          try clear c22b0
          try clear c22b1
          try clear c23
          try clear c23b0
          try clear c23b1
          try clear c24
          try clear c24b0
          try clear c24b1
          try clear c25
          try clear c25b0
          try clear c25b1
          try clear c26
          try clear c26b0
          try clear c26b1
          try clear p27
          try clear q27
          try clear hx27
          try clear qi27
          try clear hcz10_0
          try clear hcz10_1
          try clear hcz10_2
          try clear hcz10_3
          try clear hcz21_0
          try clear hcz21_1
          try clear hcz21_2
          try clear hcz8_0
          try clear hcz8_1
          try clear hcz8_2
          try clear hcz8_3
          try clear hfz10_0
          try clear hfz10_1
          try clear hfz10_2
          try clear hfz10_3
          try clear hfz21_0
          try clear hfz21_1
          try clear hfz21_2
          try clear hfz8_0
          try clear hfz8_1
          try clear hfz8_2
          try clear hfz8_3
          try clear p2
          try clear p27
          try clear p5
          try clear q27
          try clear q5
          obtain ⟨kq, x61_16, rfl, HA, HJ16, BK195, BK200, HB⟩ := hcut
          cases kq with
          | zero => exact absurd HA.out (by simp [platbookref03_Parse.j1])
          | succ kj16 =>
           have H := HA.out
           clear HA
           simp only [platbookref03_Parse.j1] at H
           by_cases c28 : x61_16 = true
           ·
            subst c28
            rw [if_pos rfl] at H
            simp only [Option.some.injEq, Prod.mk.injEq] at H
            obtain ⟨rfl, rfl, rfl, rfl, rfl⟩ := H
            have hnb29 := NB195_200.out
            have hnc29 := NB200_195.out
            obtain ⟨hcz30_0, hcz30_1, hcz30_2, hcz30_3, hfz30_0, hfz30_1, hfz30_2, hfz30_3⟩ := c4_ BK195
            go_wp2
            refine bodyPost_ret (results_ct rfl _ _ gb195 38 #[.bool false, .int .u64 0, .int .u64 0, .int .i64 0] (0, 0) _ rfl (by refine pw_ ?_; refine blk_put (cs := #[.bool false, .int .u64 0, .int .u64 0, .int .i64 x196003_1]) ?_ 3 _ rfl; refine pw_ ?_; refine blk_put (cs := #[.bool false, .int .u64 0, .int .u64 x196002_1, .int .i64 x196003_1]) ?_ 2 _ rfl; refine pw_ ?_; refine blk_put (cs := #[.bool false, .int .u64 x196001_1, .int .u64 x196002_1, .int .i64 x196003_1]) ?_ 1 _ rfl; refine pw_ ?_; refine blk_put (cs := #[.bool x196000_1, .int .u64 x196001_1, .int .u64 x196002_1, .int .i64 x196003_1]) ?_ 0 _ rfl; refine pw_ ?_; exact BK195.out) Tryz.underlying38 rfl (by kernel_rfl)) rfl ?_
            exact ⟨by first | rfl | (simp [errW_none, errW_some] <;> rfl) | (simp only [← hji14]; first | rfl | (simp [errW_none, errW_some] <;> rfl)) | (simp [*, errW_none, errW_some] <;> rfl), pb_ HB⟩
           ·
            replace c28 := Bool.eq_false_iff.mpr c28
            subst c28
            have H1 : (platbookref03_Parse.l1 kj16 sx 0 0 t196 t197 t198) = some (r1, r2, r3, r4, r5) := by rw [if_neg (show ¬ (false = true) by decide)] at H; exact H
            clear H
            have H := H1
            clear H1
            have H' := Aside0.mk H
            clear H
            go_wp2
            go_loopg [9, 10] kj16 (fun kq v9 v10 w' => ∃ (x9_3 : Int) (x10_3 : Int) (x196000_3 : Bool) (x196001_3 : Int) (x196002_3 : Int) (x196003_3 : Int), v9 = .int .i64 x9_3 ∧ v10 = .int .i64 x10_3 ∧ Aside0 (platbookref03_Parse.l1 kq sx x9_3 x10_3 t196 t197 t198 = some (r1, r2, r3, r4, r5)) ∧ Aside0 (kq ≤ kj16) ∧ Aside0 (w'.heap[gb195]? = some (.cells #[.bool x196000_3, .int .u64 x196001_3, .int .u64 x196002_3, .int .i64 x196003_3] 38 (0, 0))) ∧ Aside0 (w'.heap[gb200]? = some (.cells #[.bool t196, .int .u64 t197, .int .u64 t198] 26 (0, 0))) ∧ Aside0 (Below w.heap.size w w'))
            case atStart => exact ⟨(0), (0), (x196000_1), (x196001_1), (x196002_1), (x196003_1), (by first | rfl | (simp; done) | (simp [*]; done)), (by first | rfl | (simp; done) | (simp [*]; done)), H', ⟨Nat.le_refl _⟩, ⟨by refine pw_ ?_; exact BK195.out⟩, ⟨by refine pw_ ?_; exact BK200.out⟩, ⟨pb_ HB⟩⟩
            case round =>
             clear H'
             try clear c1
             try clear c2
             try clear p2
             try clear q2
             try clear hx2
             try clear qi2
             try clear c3
             try clear c3b0
             try clear c4
             try clear c4b0
             try clear p5
             try clear q5
             try clear hx5
             try clear c6
             try clear c6b0
             try clear c6b1
             try clear p6
             try clear c7
             try clear c7b0
             try clear c9
             try clear c9b0
             try clear c11
             try clear c11b0
             try clear c11b1
             try clear c12
             try clear c12b0
             try clear c12b1
             try clear c15
             try clear c15b0
             try clear c15b1
             try clear c16
             try clear c16b0
             try clear c16b1
             try clear c20
             try clear c22
             try clear c22b0
             try clear c22b1
             try clear c23
             try clear c23b0
             try clear c23b1
             try clear c24
             try clear c24b0
             try clear c24b1
             try clear c25
             try clear c25b0
             try clear c25b1
             try clear c26
             try clear c26b0
             try clear c26b1
             try clear p27
             try clear q27
             try clear hx27
             try clear qi27
             try clear c28
             try clear c29
             try clear hcz10_0
             try clear hcz10_1
             try clear hcz10_2
             try clear hcz10_3
             try clear hcz21_0
             try clear hcz21_1
             try clear hcz21_2
             try clear hcz30_0
             try clear hcz30_1
             try clear hcz30_2
             try clear hcz30_3
             try clear hcz8_0
             try clear hcz8_1
             try clear hcz8_2
             try clear hcz8_3
             try clear hfz10_0
             try clear hfz10_1
             try clear hfz10_2
             try clear hfz10_3
             try clear hfz21_0
             try clear hfz21_1
             try clear hfz21_2
             try clear hfz30_0
             try clear hfz30_1
             try clear hfz30_2
             try clear hfz30_3
             try clear hfz8_0
             try clear hfz8_1
             try clear hfz8_2
             try clear hfz8_3
             try clear p2
             try clear p27
             try clear p5
             try clear p6
             try clear q2
             try clear q27
             try clear q5
             obtain ⟨x9_3, x10_3, x196000_3, x196001_3, x196002_3, x196003_3, rfl, rfl, HA, HK3, BK195, BK200, HB⟩ := hrel
             cases gk with
             | zero => exact absurd HA.out (by simp [platbookref03_Parse.l1])
             | succ k3 =>
              have H := HA.out
              clear HA
              simp only [platbookref03_Parse.l1] at H
              by_cases c31 : x10_3 < (sx.size : Int)
              ·
               rw [if_pos c31] at H
               have c31b0 : decide (x10_3 < (sx.size : Int)) = true := decide_eq_true c31
               clear c31
               by_cases c32 : 0 ≤ x10_3
               ·
                rw [if_pos c32] at H
                have c32b0 : decide (0 ≤ x10_3) = true := decide_eq_true c32
                clear c32
                by_cases c34 : (bt sx x10_3) < 48
                ·
                 rw [if_pos c34] at H
                 have c34b0 : decide ((bt sx x10_3) < 48) = true := decide_eq_true c34
                 clear c34
                 simp only [Option.some.injEq, Prod.mk.injEq] at H
                 obtain ⟨rfl, rfl, rfl, rfl, rfl⟩ := H
                 have p33 : 0 ≤ (x10_3 : Int) := of_decide_eq_true (by first | (with_reducible assumption) | assumption)
                 have q33 : x10_3 < (sx.size : Int) := of_decide_eq_true (by first | (with_reducible assumption) | assumption)
                 have hx33 := bt_at sx x10_3
                 replace p33 := eq_true p33
                 replace q33 := eq_true q33
                 have hnb35 := NB195_200.out
                 have hnc35 := NB200_195.out
                 obtain ⟨hcz36_0, hcz36_1, hcz36_2, hcz36_3, hfz36_0, hfz36_1, hfz36_2, hfz36_3⟩ := c4_ BK195
                 go_wp2
                 refine bodyPost_ret (results_ct rfl _ _ gb195 38 #[.bool false, .int .u64 0, .int .u64 0, .int .i64 0] (0, 0) _ rfl (by refine pw_ ?_; refine blk_put (cs := #[.bool false, .int .u64 0, .int .u64 0, .int .i64 x196003_3]) ?_ 3 _ rfl; refine pw_ ?_; refine blk_put (cs := #[.bool false, .int .u64 0, .int .u64 x196002_3, .int .i64 x196003_3]) ?_ 2 _ rfl; refine pw_ ?_; refine blk_put (cs := #[.bool false, .int .u64 x196001_3, .int .u64 x196002_3, .int .i64 x196003_3]) ?_ 1 _ rfl; refine pw_ ?_; refine blk_put (cs := #[.bool x196000_3, .int .u64 x196001_3, .int .u64 x196002_3, .int .i64 x196003_3]) ?_ 0 _ rfl; refine pw_ ?_; exact BK195.out) Tryz.underlying38 rfl (by kernel_rfl)) rfl ?_
                 exact ⟨by first | rfl | (simp [errW_none, errW_some] <;> rfl) | (simp only [← hji14]; first | rfl | (simp [errW_none, errW_some] <;> rfl)) | (simp [*, errW_none, errW_some] <;> rfl), pb_ HB⟩
                ·
                 rw [if_neg c34] at H
                 have c34b0 : decide ((bt sx x10_3) < 48) = false := decide_eq_false c34
                 clear c34
                 by_cases c38 : (bt sx x10_3) > 57
                 ·
                  rw [if_pos c38] at H
                  have c38b0 : decide (57 < (bt sx x10_3)) = true := decide_eq_true c38
                  clear c38
                  simp only [Option.some.injEq, Prod.mk.injEq] at H
                  obtain ⟨rfl, rfl, rfl, rfl, rfl⟩ := H
                  have p33 : 0 ≤ (x10_3 : Int) := of_decide_eq_true (by first | (with_reducible assumption) | assumption)
                  have q33 : x10_3 < (sx.size : Int) := of_decide_eq_true (by first | (with_reducible assumption) | assumption)
                  have hx33 := bt_at sx x10_3
                  replace p33 := eq_true p33
                  replace q33 := eq_true q33
                  have p37 : 0 ≤ (x10_3 : Int) := of_decide_eq_true (by first | (with_reducible assumption) | assumption)
                  have q37 : x10_3 < (sx.size : Int) := of_decide_eq_true (by first | (with_reducible assumption) | assumption)
                  have hx37 := bt_at sx x10_3
                  replace p37 := eq_true p37
                  replace q37 := eq_true q37
                  have hnb39 := NB195_200.out
                  have hnc39 := NB200_195.out
                  obtain ⟨hcz40_0, hcz40_1, hcz40_2, hcz40_3, hfz40_0, hfz40_1, hfz40_2, hfz40_3⟩ := c4_ BK195
                  go_wp2
                  refine bodyPost_ret (results_ct rfl _ _ gb195 38 #[.bool false, .int .u64 0, .int .u64 0, .int .i64 0] (0, 0) _ rfl (by refine pw_ ?_; refine blk_put (cs := #[.bool false, .int .u64 0, .int .u64 0, .int .i64 x196003_3]) ?_ 3 _ rfl; refine pw_ ?_; refine blk_put (cs := #[.bool false, .int .u64 0, .int .u64 x196002_3, .int .i64 x196003_3]) ?_ 2 _ rfl; refine pw_ ?_; refine blk_put (cs := #[.bool false, .int .u64 x196001_3, .int .u64 x196002_3, .int .i64 x196003_3]) ?_ 1 _ rfl; refine pw_ ?_; refine blk_put (cs := #[.bool x196000_3, .int .u64 x196001_3, .int .u64 x196002_3, .int .i64 x196003_3]) ?_ 0 _ rfl; refine pw_ ?_; exact BK195.out) Tryz.underlying38 rfl (by kernel_rfl)) rfl ?_
                  exact ⟨by first | rfl | (simp [errW_none, errW_some] <;> rfl) | (simp only [← hji14]; first | rfl | (simp [errW_none, errW_some] <;> rfl)) | (simp [*, errW_none, errW_some] <;> rfl), pb_ HB⟩
                 ·
                  rw [if_neg c38] at H
                  have c38b0 : decide (57 < (bt sx x10_3)) = false := decide_eq_false c38
                  clear c38
                  have H' := Aside0.mk H
                  clear H
                  have p33 : 0 ≤ (x10_3 : Int) := of_decide_eq_true (by first | (with_reducible assumption) | assumption)
                  have q33 : x10_3 < (sx.size : Int) := of_decide_eq_true (by first | (with_reducible assumption) | assumption)
                  have hx33 := bt_at sx x10_3
                  replace p33 := eq_true p33
                  replace q33 := eq_true q33
                  have p37 : 0 ≤ (x10_3 : Int) := of_decide_eq_true (by first | (with_reducible assumption) | assumption)
                  have q37 : x10_3 < (sx.size : Int) := of_decide_eq_true (by first | (with_reducible assumption) | assumption)
                  have hx37 := bt_at sx x10_3
                  replace p37 := eq_true p37
                  replace q37 := eq_true q37
                  have p41 : 0 ≤ (x10_3 : Int) := of_decide_eq_true (by first | (with_reducible assumption) | assumption)
                  have q41 : x10_3 < (sx.size : Int) := of_decide_eq_true (by first | (with_reducible assumption) | assumption)
                  have hx41 := bt_at sx x10_3
                  replace p41 := eq_true p41
                  replace q41 := eq_true q41
                  go_wp2
                  go_roundg k3
                  case measure => have := HK1.out; have := HJ16.out; have := HK3.out; omega
                  case rel => exact ⟨(wrap64 ((wrap64 ((wrap64 (10 * x9_3)) + (wrap64 (bt sx x10_3)))) - 48)), (wrap64 (x10_3 + 1)), (x196000_3), (x196001_3), (x196002_3), (x196003_3), (by first | rfl | (simp; done) | (simp only [← hji14] <;> (first | rfl | simp)) | (simp [*]; done)), (by first | rfl | (simp; done) | (simp [*]; done)), H', ⟨by have := HK1.out; have := HJ16.out; have := HK3.out; omega⟩, ⟨by refine pw_ ?_; exact BK195.out⟩, ⟨by refine pw_ ?_; exact BK200.out⟩, ⟨pb_ HB⟩⟩
               ·
                rw [if_neg c32] at H
                exact absurd H (by simp)
              ·
               rw [if_neg c31] at H
               have c31b0 : decide (x10_3 < (sx.size : Int)) = false := decide_eq_false c31
               clear c31
               replace H := Option.bind_eq_some_iff.mp H
               obtain ⟨t202, A420, H⟩ := H
               replace H : (if t202 = true then (some (t196, t197, t198, x9_3, 0)) else (some (false, 0, 0, 0, 4))) = some (r1, r2, r3, r4, r5) := H
               have A42 := Aside0.mk A420
               clear A420
               by_cases c43 : t202 = true
               ·
                subst c43
                rw [if_pos rfl] at H
                simp only [Option.some.injEq, Prod.mk.injEq] at H
                obtain ⟨rfl, rfl, rfl, rfl, rfl⟩ := H
                have hnb44 := NB200_195.out
                have hnc44 := NB195_200.out
                obtain ⟨hcz45_0, hcz45_1, hcz45_2, hfz45_0, hfz45_1, hfz45_2⟩ := c3_ BK200
                go_wp2_with (first | ((with_reducible refine gate_dst (N := 11) rfl ?_); (try (refine gate_guard (by rfl) ?_; dsimp only)); refine bx_ 11 #[.bool false, .int .u64 0, .int .u64 0, .int .i64 0] 38 ?_; intro gb201 hg w46 hbox hb; have BK201 := Aside0.mk (hbox); have GW201 := gw_ HB hg; have GE201 := gw_ HB hg; have NB195_201 := nl_ BK195 hg; have NB201_195 := ng_ BK195 hg; have NB200_201 := nl_ BK200 hg; have NB201_200 := ng_ BK200 hg; replace BK195 := bb_ BK195 hb; replace BK200 := bb_ BK200 hb; replace HB := bs_ HB hb; clear hb hbox hg; have hnb47 := NB201_195.out; have hnc47 := NB195_201.out; have hnb48 := NB201_200.out; have hnc48 := NB200_201.out; obtain ⟨hcz49_0, hcz49_1, hcz49_2, hcz49_3, hfz49_0, hfz49_1, hfz49_2, hfz49_3⟩ := c4_ BK201) | ((with_reducible refine gate_callee (f := 29) rfl ?_); refine gl_ (some 92) Tryz.func29 #[.agg #[.bool t196, .int .u64 t197, .int .u64 t198, .int .i64 x9_3]] ?_; (with_reducible refine (platbookref03_Right.calls k3 t196 t197 t198 x9_3 true _ A42.out).mono ?_); rintro e w50 ⟨rfl, hb⟩; refine ⟨_, rfl, ?_⟩; replace BK195 := Aside0.mk (blk_below (g := gb195) (o := .cells #[.bool x196000_3, .int .u64 x196001_3, .int .u64 x196002_3, .int .i64 x196003_3] 38 (0, 0)) (by refine pw_ ?_; refine blk_far ?_ NB195_201.out _; refine pw_ ?_; refine blk_far ?_ NB195_201.out _; refine pw_ ?_; refine blk_far ?_ NB195_201.out _; refine pw_ ?_; refine blk_far ?_ NB195_201.out _; refine pw_ ?_; exact BK195.out) hb); replace BK200 := Aside0.mk (blk_below (g := gb200) (o := .cells #[.bool t196, .int .u64 t197, .int .u64 t198] 26 (0, 0)) (by refine pw_ ?_; refine blk_far ?_ NB200_201.out _; refine pw_ ?_; refine blk_far ?_ NB200_201.out _; refine pw_ ?_; refine blk_far ?_ NB200_201.out _; refine pw_ ?_; refine blk_far ?_ NB200_201.out _; refine pw_ ?_; exact BK200.out) hb); replace BK201 := Aside0.mk (blk_below (g := gb201) (o := .cells #[.bool t196, .int .u64 t197, .int .u64 t198, .int .i64 x9_3] 38 (0, 0)) (by refine pw_ ?_; refine blk_put (cs := #[.bool t196, .int .u64 t197, .int .u64 t198, .int .i64 0]) ?_ 3 _ rfl; refine pw_ ?_; refine blk_put (cs := #[.bool t196, .int .u64 t197, .int .u64 0, .int .i64 0]) ?_ 2 _ rfl; refine pw_ ?_; refine blk_put (cs := #[.bool t196, .int .u64 0, .int .u64 0, .int .i64 0]) ?_ 1 _ rfl; refine pw_ ?_; refine blk_put (cs := #[.bool false, .int .u64 0, .int .u64 0, .int .i64 0]) ?_ 0 _ rfl; refine pw_ ?_; exact BK201.out) hb); replace HB := bs_ HB hb; (try clear hb); (try clear hb2); (try clear hk); (try clear hi); obtain ⟨hcz51_0, hcz51_1, hcz51_2, hcz51_3, hfz51_0, hfz51_1, hfz51_2, hfz51_3⟩ := c4_ BK201; obtain ⟨hcz52_0, hcz52_1, hcz52_2, hcz52_3, hfz52_0, hfz52_1, hfz52_2, hfz52_3⟩ := c4_ BK195))
                refine bodyPost_ret (results_ct rfl _ _ gb195 38 #[.bool t196, .int .u64 t197, .int .u64 t198, .int .i64 x9_3] (0, 0) _ rfl (by refine pw_ ?_; refine blk_put (cs := #[.bool t196, .int .u64 t197, .int .u64 t198, .int .i64 x196003_3]) ?_ 3 _ rfl; refine pw_ ?_; refine blk_put (cs := #[.bool t196, .int .u64 t197, .int .u64 x196002_3, .int .i64 x196003_3]) ?_ 2 _ rfl; refine pw_ ?_; refine blk_put (cs := #[.bool t196, .int .u64 x196001_3, .int .u64 x196002_3, .int .i64 x196003_3]) ?_ 1 _ rfl; refine pw_ ?_; refine blk_put (cs := #[.bool x196000_3, .int .u64 x196001_3, .int .u64 x196002_3, .int .i64 x196003_3]) ?_ 0 _ rfl; refine pw_ ?_; exact BK195.out) Tryz.underlying38 rfl (by kernel_rfl)) rfl ?_
                exact ⟨by first | rfl | (simp [errW_none, errW_some] <;> rfl) | (simp only [← hji14]; first | rfl | (simp [errW_none, errW_some] <;> rfl)) | (simp [*, errW_none, errW_some] <;> rfl), pb_ HB⟩
               ·
                replace c43 := Bool.eq_false_iff.mpr c43
                subst c43
                have H1 : (some (false, 0, 0, 0, 4)) = some (r1, r2, r3, r4, r5) := by rw [if_neg (show ¬ (false = true) by decide)] at H; exact H
                clear H
                have H := H1
                clear H1
                simp only [Option.some.injEq, Prod.mk.injEq] at H
                obtain ⟨rfl, rfl, rfl, rfl, rfl⟩ := H
                have hnb53 := NB200_195.out
                have hnc53 := NB195_200.out
                obtain ⟨hcz54_0, hcz54_1, hcz54_2, hfz54_0, hfz54_1, hfz54_2⟩ := c3_ BK200
                go_wp2_with (first | ((with_reducible refine gate_dst (N := 11) rfl ?_); (try (refine gate_guard (by rfl) ?_; dsimp only)); refine bx_ 11 #[.bool false, .int .u64 0, .int .u64 0, .int .i64 0] 38 ?_; intro gb201 hg w55 hbox hb; have BK201 := Aside0.mk (hbox); have GW201 := gw_ HB hg; have GE201 := gw_ HB hg; have NB195_201 := nl_ BK195 hg; have NB201_195 := ng_ BK195 hg; have NB200_201 := nl_ BK200 hg; have NB201_200 := ng_ BK200 hg; replace BK195 := bb_ BK195 hb; replace BK200 := bb_ BK200 hb; replace HB := bs_ HB hb; clear hb hbox hg; have hnb56 := NB201_195.out; have hnc56 := NB195_201.out; have hnb57 := NB201_200.out; have hnc57 := NB200_201.out; obtain ⟨hcz58_0, hcz58_1, hcz58_2, hcz58_3, hfz58_0, hfz58_1, hfz58_2, hfz58_3⟩ := c4_ BK201) | ((with_reducible refine gate_callee (f := 29) rfl ?_); refine gl_ (some 92) Tryz.func29 #[.agg #[.bool t196, .int .u64 t197, .int .u64 t198, .int .i64 x9_3]] ?_; (with_reducible refine (platbookref03_Right.calls k3 t196 t197 t198 x9_3 false _ A42.out).mono ?_); rintro e w59 ⟨rfl, hb⟩; refine ⟨_, rfl, ?_⟩; replace BK195 := Aside0.mk (blk_below (g := gb195) (o := .cells #[.bool x196000_3, .int .u64 x196001_3, .int .u64 x196002_3, .int .i64 x196003_3] 38 (0, 0)) (by refine pw_ ?_; refine blk_far ?_ NB195_201.out _; refine pw_ ?_; refine blk_far ?_ NB195_201.out _; refine pw_ ?_; refine blk_far ?_ NB195_201.out _; refine pw_ ?_; refine blk_far ?_ NB195_201.out _; refine pw_ ?_; exact BK195.out) hb); replace BK200 := Aside0.mk (blk_below (g := gb200) (o := .cells #[.bool t196, .int .u64 t197, .int .u64 t198] 26 (0, 0)) (by refine pw_ ?_; refine blk_far ?_ NB200_201.out _; refine pw_ ?_; refine blk_far ?_ NB200_201.out _; refine pw_ ?_; refine blk_far ?_ NB200_201.out _; refine pw_ ?_; refine blk_far ?_ NB200_201.out _; refine pw_ ?_; exact BK200.out) hb); replace BK201 := Aside0.mk (blk_below (g := gb201) (o := .cells #[.bool t196, .int .u64 t197, .int .u64 t198, .int .i64 x9_3] 38 (0, 0)) (by refine pw_ ?_; refine blk_put (cs := #[.bool t196, .int .u64 t197, .int .u64 t198, .int .i64 0]) ?_ 3 _ rfl; refine pw_ ?_; refine blk_put (cs := #[.bool t196, .int .u64 t197, .int .u64 0, .int .i64 0]) ?_ 2 _ rfl; refine pw_ ?_; refine blk_put (cs := #[.bool t196, .int .u64 0, .int .u64 0, .int .i64 0]) ?_ 1 _ rfl; refine pw_ ?_; refine blk_put (cs := #[.bool false, .int .u64 0, .int .u64 0, .int .i64 0]) ?_ 0 _ rfl; refine pw_ ?_; exact BK201.out) hb); replace HB := bs_ HB hb; (try clear hb); (try clear hb2); (try clear hk); (try clear hi); obtain ⟨hcz60_0, hcz60_1, hcz60_2, hcz60_3, hfz60_0, hfz60_1, hfz60_2, hfz60_3⟩ := c4_ BK195))
                refine bodyPost_ret (results_ct rfl _ _ gb195 38 #[.bool false, .int .u64 0, .int .u64 0, .int .i64 0] (0, 0) _ rfl (by refine pw_ ?_; refine blk_put (cs := #[.bool false, .int .u64 0, .int .u64 0, .int .i64 x196003_3]) ?_ 3 _ rfl; refine pw_ ?_; refine blk_put (cs := #[.bool false, .int .u64 0, .int .u64 x196002_3, .int .i64 x196003_3]) ?_ 2 _ rfl; refine pw_ ?_; refine blk_put (cs := #[.bool false, .int .u64 x196001_3, .int .u64 x196002_3, .int .i64 x196003_3]) ?_ 1 _ rfl; refine pw_ ?_; refine blk_put (cs := #[.bool x196000_3, .int .u64 x196001_3, .int .u64 x196002_3, .int .i64 x196003_3]) ?_ 0 _ rfl; refine pw_ ?_; exact BK195.out) Tryz.underlying38 rfl (by kernel_rfl)) rfl ?_
                exact ⟨by first | rfl | (simp [errW_none, errW_some] <;> rfl) | (simp only [← hji14]; first | rfl | (simp [errW_none, errW_some] <;> rfl)) | (simp [*, errW_none, errW_some] <;> rfl), pb_ HB⟩
        ·
         rw [if_neg c16] at H
         exact absurd H (by simp)
       ·
        rw [if_neg c15] at H
        exact absurd H (by simp)
      ·
       rw [if_neg c12] at H
       exact absurd H (by simp)
     ·
      rw [if_neg c11] at H
      exact absurd H (by simp)

def platbookref02_Dec.f (a0 : Int) : Option (ByteArray) := (some (([] : List Int) : List Int)).bind fun y203 => (if a0 ≥ 100 then (if y203.length < 140737488355328 then ((some (y203 ++ [(wrap64 (48 + (wrap64 (Int.tdiv a0 100)))) % 256] : List Int)).bind fun y206 => (if a0 ≥ 10 then (if y206.length < 140737488355328 then ((some (y206 ++ [(wrap64 (48 + (Int.tmod (wrap64 (Int.tdiv a0 10)) 10))) % 256] : List Int)).bind fun y209 => (if y209.length < 140737488355328 then (some (strOfNums (y209 ++ [(wrap64 (48 + (Int.tmod a0 10))) % 256]))) else (none))) else (none)) else (if y206.length < 140737488355328 then (some (strOfNums (y206 ++ [(wrap64 (48 + (Int.tmod a0 10))) % 256]))) else (none)))) else (none)) else (if a0 ≥ 10 then (if y203.length < 140737488355328 then ((some (y203 ++ [(wrap64 (48 + (Int.tmod (wrap64 (Int.tdiv a0 10)) 10))) % 256] : List Int)).bind fun y218 => (if y218.length < 140737488355328 then (some (strOfNums (y218 ++ [(wrap64 (48 + (Int.tmod a0 10))) % 256]))) else (none))) else (none)) else (if y203.length < 140737488355328 then (some (strOfNums (y203 ++ [(wrap64 (48 + (Int.tmod a0 10))) % 256]))) else (none))))
set_option maxHeartbeats 8000000 in
set_option maxRecDepth 100000 in
theorem platbookref02_Dec.calls (a0 : Int) (r : ByteArray) (w : World) (h : platbookref02_Dec.f a0 = some r) :
  Calls Tryz.prog 77 #[.int .i64 a0] w fun e w' => e = .returned (.string r) ∧ Below w.heap.size w w' := by
 have HB := Aside0.mk (Below.refl w.heap.size w)
 have H : ((some (([] : List Int) : List Int)).bind fun y203 => (if a0 ≥ 100 then (if y203.length < 140737488355328 then ((some (y203 ++ [(wrap64 (48 + (wrap64 (Int.tdiv a0 100)))) % 256] : List Int)).bind fun y206 => (if a0 ≥ 10 then (if y206.length < 140737488355328 then ((some (y206 ++ [(wrap64 (48 + (Int.tmod (wrap64 (Int.tdiv a0 10)) 10))) % 256] : List Int)).bind fun y209 => (if y209.length < 140737488355328 then (some (strOfNums (y209 ++ [(wrap64 (48 + (Int.tmod a0 10))) % 256]))) else (none))) else (none)) else (if y206.length < 140737488355328 then (some (strOfNums (y206 ++ [(wrap64 (48 + (Int.tmod a0 10))) % 256]))) else (none)))) else (none)) else (if a0 ≥ 10 then (if y203.length < 140737488355328 then ((some (y203 ++ [(wrap64 (48 + (Int.tmod (wrap64 (Int.tdiv a0 10)) 10))) % 256] : List Int)).bind fun y218 => (if y218.length < 140737488355328 then (some (strOfNums (y218 ++ [(wrap64 (48 + (Int.tmod a0 10))) % 256]))) else (none))) else (none)) else (if y203.length < 140737488355328 then (some (strOfNums (y203 ++ [(wrap64 (48 + (Int.tmod a0 10))) % 256]))) else (none))))) = some r := h
 clear h
 obtain ⟨y203, hy203⟩ : ∃ y_ : List Int, y_ = (([] : List Int)) := ⟨_, rfl⟩
 replace H : (if a0 ≥ 100 then (if y203.length < 140737488355328 then ((some (y203 ++ [(wrap64 (48 + (wrap64 (Int.tdiv a0 100)))) % 256] : List Int)).bind fun y206 => (if a0 ≥ 10 then (if y206.length < 140737488355328 then ((some (y206 ++ [(wrap64 (48 + (Int.tmod (wrap64 (Int.tdiv a0 10)) 10))) % 256] : List Int)).bind fun y209 => (if y209.length < 140737488355328 then (some (strOfNums (y209 ++ [(wrap64 (48 + (Int.tmod a0 10))) % 256]))) else (none))) else (none)) else (if y206.length < 140737488355328 then (some (strOfNums (y206 ++ [(wrap64 (48 + (Int.tmod a0 10))) % 256]))) else (none)))) else (none)) else (if a0 ≥ 10 then (if y203.length < 140737488355328 then ((some (y203 ++ [(wrap64 (48 + (Int.tmod (wrap64 (Int.tdiv a0 10)) 10))) % 256] : List Int)).bind fun y218 => (if y218.length < 140737488355328 then (some (strOfNums (y218 ++ [(wrap64 (48 + (Int.tmod a0 10))) % 256]))) else (none))) else (none)) else (if y203.length < 140737488355328 then (some (strOfNums (y203 ++ [(wrap64 (48 + (Int.tmod a0 10))) % 256]))) else (none)))) = some r := by first | (rw [hy203]; with_reducible exact H) | (have H2_ := (Option.bind_some _ _).symm.trans H; rw [hy203]; with_reducible exact H2_) | (have H2_ := (Option.bind_some _ _).symm.trans H; with_reducible exact H2_) | with_reducible exact H | (rw [hy203]; exact H) | exact H
 have Ny203 := Aside0.mk hy203
 clear hy203
 by_cases c2 : a0 ≥ 100
 ·
  rw [if_pos c2] at H
  have c2b0 : decide (100 ≤ a0) = true := decide_eq_true c2
  clear c2
  by_cases c3 : y203.length < 140737488355328
  ·
   rw [if_pos c3] at H
   have LMc3 := Aside0.mk c3
   clear c3
   obtain ⟨y206, hy206⟩ : ∃ y_ : List Int, y_ = (y203 ++ [(wrap64 (48 + (wrap64 (Int.tdiv a0 100)))) % 256]) := ⟨_, rfl⟩
   replace H : (if a0 ≥ 10 then (if y206.length < 140737488355328 then ((some (y206 ++ [(wrap64 (48 + (Int.tmod (wrap64 (Int.tdiv a0 10)) 10))) % 256] : List Int)).bind fun y209 => (if y209.length < 140737488355328 then (some (strOfNums (y209 ++ [(wrap64 (48 + (Int.tmod a0 10))) % 256]))) else (none))) else (none)) else (if y206.length < 140737488355328 then (some (strOfNums (y206 ++ [(wrap64 (48 + (Int.tmod a0 10))) % 256]))) else (none))) = some r := by first | (rw [hy206]; with_reducible exact H) | (have H2_ := (Option.bind_some _ _).symm.trans H; rw [hy206]; with_reducible exact H2_) | (have H2_ := (Option.bind_some _ _).symm.trans H; with_reducible exact H2_) | with_reducible exact H | (rw [hy206]; exact H) | exact H
   have Ny206 := Aside0.mk hy206
   clear hy206
   by_cases c4 : a0 ≥ 10
   ·
    rw [if_pos c4] at H
    have c4b0 : decide (10 ≤ a0) = true := decide_eq_true c4
    clear c4
    by_cases c5 : y206.length < 140737488355328
    ·
     rw [if_pos c5] at H
     have LMc5 := Aside0.mk c5
     clear c5
     obtain ⟨y209, hy209⟩ : ∃ y_ : List Int, y_ = (y206 ++ [(wrap64 (48 + (Int.tmod (wrap64 (Int.tdiv a0 10)) 10))) % 256]) := ⟨_, rfl⟩
     replace H : (if y209.length < 140737488355328 then (some (strOfNums (y209 ++ [(wrap64 (48 + (Int.tmod a0 10))) % 256]))) else (none)) = some r := by first | (rw [hy209]; with_reducible exact H) | (have H2_ := (Option.bind_some _ _).symm.trans H; rw [hy209]; with_reducible exact H2_) | (have H2_ := (Option.bind_some _ _).symm.trans H; with_reducible exact H2_) | with_reducible exact H | (rw [hy209]; exact H) | exact H
     have Ny209 := Aside0.mk hy209
     clear hy209
     by_cases c6 : y209.length < 140737488355328
     ·
      rw [if_pos c6] at H
      have LMc6 := Aside0.mk c6
      clear c6
      obtain ⟨y212, hy212⟩ : ∃ y_ : List Int, y_ = (y209 ++ [(wrap64 (48 + (Int.tmod a0 10))) % 256]) := ⟨_, rfl⟩
      replace H : (some (strOfNums y212)) = some r := by first | (rw [hy212]; with_reducible exact H) | (have H2_ := (Option.bind_some _ _).symm.trans H; rw [hy212]; with_reducible exact H2_) | (have H2_ := (Option.bind_some _ _).symm.trans H; with_reducible exact H2_) | with_reducible exact H | (rw [hy212]; exact H) | exact H
      have Ny212 := Aside0.mk hy212
      clear hy212
      obtain rfl := Option.some.inj H
      go_enter Tryz.func77, Tryz.ntmps77
      go_wp2_with (first | ((with_reducible refine gate_dst (N := 4) rfl ?_); refine Kd.R_lit (Kd.int .u8) _ 5 ?hg (N := 4) ?hd (xs := ([] : List Int)) (inner := []) (ok := fun _ => True) (okp := fun _ => True) ?hr ?hp (fun _ hk => hk) trivial (Below.refl _ _) (Nat.le_refl _) (by simp) ?_; (case hd => rfl); (case hg => rfl); (case hr => first | (go_simp; done) | (go_simp; rfl)); (case hp => exact (Reps.none _ _)); intro v204 w7 ho8 hb hg_ hnew_; clear hg_ hnew_; (first | rw [← Ny203.out] at ho8 | (simp only [Int.reduceToNat] at ho8; rw [← Ny203.out] at ho8)); have HO205 := Aside0.mk (Kd.R_lower ho8 (below_size (pb_ HB))); replace HB := bs_ HB hb; clear hb ho8) | ((with_reducible refine gate_builtin (b := .append) (xs := #[.tmp 7, .tmp 12]) rfl ?_); at_builtin; refine Kd.R_append (Kd.int .u8) (w0 := w) w.heap.size rfl (.tmp 7) (.tmp 12) 122 5 (.int .u8 0) 1 rfl Tryz.underlying122 info5 rfl (by decide) (by omega) v204 y203 ((wrap64 (48 + (wrap64 (Int.tdiv a0 100)))) % 256) [.int .u8 ((wrap64 (48 + (wrap64 (Int.tdiv a0 100)))) % 256)] (fun _ => True) (fun _ => False) rfl rfl ?aP (fun _ hk => hk.elim) ?aF ?aO ?aB ?aS ?aL ?_; (case aP => exact rfl); (case aB => exact (pb_ HB)); (case aF => exact (fun _ _ => trivial)); (case aO => exact (by (with_reducible repeat (first | apply Kd.R_alloc | apply Kd.R_drewN | apply Kd.R_drew)); exact HO205.out)); (case aS => exact (below_size (pb_ HB))); (case aL => have := LMc3.out; omega); intro v207 w9 ho hb hg hat; rw [← Ny206.out] at ho; have HO208 := Aside0.mk (ho); replace HB := Aside0.mk (hb); clear HO205; clear ho hb hg hat) | ((with_reducible refine gate_builtin (b := .append) (xs := #[.tmp 16, .tmp 22]) rfl ?_); at_builtin; refine Kd.R_append (Kd.int .u8) (w0 := w) w.heap.size rfl (.tmp 16) (.tmp 22) 122 5 (.int .u8 0) 1 rfl Tryz.underlying122 info5 rfl (by decide) (by omega) v207 y206 ((wrap64 (48 + (Int.tmod (wrap64 (Int.tdiv a0 10)) 10))) % 256) [.int .u8 ((wrap64 (48 + (Int.tmod (wrap64 (Int.tdiv a0 10)) 10))) % 256)] (fun _ => True) (fun _ => False) rfl rfl ?aP (fun _ hk => hk.elim) ?aF ?aO ?aB ?aS ?aL ?_; (case aP => exact rfl); (case aB => exact (pb_ HB)); (case aF => exact (fun _ _ => trivial)); (case aO => exact (by (with_reducible repeat (first | apply Kd.R_alloc | apply Kd.R_drewN | apply Kd.R_drew)); exact HO208.out)); (case aS => exact (below_size (pb_ HB))); (case aL => have := LMc5.out; omega); intro v210 w10 ho hb hg hat; rw [← Ny209.out] at ho; have HO211 := Aside0.mk (ho); replace HB := Aside0.mk (hb); clear HO208; clear ho hb hg hat) | ((with_reducible refine gate_builtin (b := .append) (xs := #[.tmp 24, .tmp 29]) rfl ?_); at_builtin; refine Kd.R_append (Kd.int .u8) (w0 := w) w.heap.size rfl (.tmp 24) (.tmp 29) 122 5 (.int .u8 0) 1 rfl Tryz.underlying122 info5 rfl (by decide) (by omega) v210 y209 ((wrap64 (48 + (Int.tmod a0 10))) % 256) [.int .u8 ((wrap64 (48 + (Int.tmod a0 10))) % 256)] (fun _ => True) (fun _ => False) rfl rfl ?aP (fun _ hk => hk.elim) ?aF ?aO ?aB ?aS ?aL ?_; (case aP => exact rfl); (case aB => exact (pb_ HB)); (case aF => exact (fun _ _ => trivial)); (case aO => exact (by (with_reducible repeat (first | apply Kd.R_alloc | apply Kd.R_drewN | apply Kd.R_drew)); exact HO211.out)); (case aS => exact (below_size (pb_ HB))); (case aL => have := LMc6.out; omega); intro v213 w11 ho hb hg hat; rw [← Ny212.out] at ho; have HO214 := Aside0.mk (ho); replace HB := Aside0.mk (hb); clear HO211; clear ho hb hg hat; have hcv12 := own_string (P := Tryz.prog) Tryz.underlying122 Tryz.underlying5 Tryz.underlying9 (Kd.own_of_R HO214.out)))
      go_ret
      exact ⟨by first | rfl | (simp [errW_none, errW_some] <;> rfl) | (simp [*, errW_none, errW_some] <;> rfl), pb_ HB⟩
     ·
      rw [if_neg c6] at H
      exact absurd H (by simp)
    ·
     rw [if_neg c5] at H
     exact absurd H (by simp)
   ·
    rw [if_neg c4] at H
    have c4b0 : decide (10 ≤ a0) = false := decide_eq_false c4
    clear c4
    by_cases c13 : y206.length < 140737488355328
    ·
     rw [if_pos c13] at H
     have LMc13 := Aside0.mk c13
     clear c13
     obtain ⟨y215, hy215⟩ : ∃ y_ : List Int, y_ = (y206 ++ [(wrap64 (48 + (Int.tmod a0 10))) % 256]) := ⟨_, rfl⟩
     replace H : (some (strOfNums y215)) = some r := by first | (rw [hy215]; with_reducible exact H) | (have H2_ := (Option.bind_some _ _).symm.trans H; rw [hy215]; with_reducible exact H2_) | (have H2_ := (Option.bind_some _ _).symm.trans H; with_reducible exact H2_) | with_reducible exact H | (rw [hy215]; exact H) | exact H
     have Ny215 := Aside0.mk hy215
     clear hy215
     obtain rfl := Option.some.inj H
     go_enter Tryz.func77, Tryz.ntmps77
     go_wp2_with (first | ((with_reducible refine gate_dst (N := 4) rfl ?_); refine Kd.R_lit (Kd.int .u8) _ 5 ?hg (N := 4) ?hd (xs := ([] : List Int)) (inner := []) (ok := fun _ => True) (okp := fun _ => True) ?hr ?hp (fun _ hk => hk) trivial (Below.refl _ _) (Nat.le_refl _) (by simp) ?_; (case hd => rfl); (case hg => rfl); (case hr => first | (go_simp; done) | (go_simp; rfl)); (case hp => exact (Reps.none _ _)); intro v204 w14 ho15 hb hg_ hnew_; clear hg_ hnew_; (first | rw [← Ny203.out] at ho15 | (simp only [Int.reduceToNat] at ho15; rw [← Ny203.out] at ho15)); have HO205 := Aside0.mk (Kd.R_lower ho15 (below_size (pb_ HB))); replace HB := bs_ HB hb; clear hb ho15) | ((with_reducible refine gate_builtin (b := .append) (xs := #[.tmp 7, .tmp 12]) rfl ?_); at_builtin; refine Kd.R_append (Kd.int .u8) (w0 := w) w.heap.size rfl (.tmp 7) (.tmp 12) 122 5 (.int .u8 0) 1 rfl Tryz.underlying122 info5 rfl (by decide) (by omega) v204 y203 ((wrap64 (48 + (wrap64 (Int.tdiv a0 100)))) % 256) [.int .u8 ((wrap64 (48 + (wrap64 (Int.tdiv a0 100)))) % 256)] (fun _ => True) (fun _ => False) rfl rfl ?aP (fun _ hk => hk.elim) ?aF ?aO ?aB ?aS ?aL ?_; (case aP => exact rfl); (case aB => exact (pb_ HB)); (case aF => exact (fun _ _ => trivial)); (case aO => exact (by (with_reducible repeat (first | apply Kd.R_alloc | apply Kd.R_drewN | apply Kd.R_drew)); exact HO205.out)); (case aS => exact (below_size (pb_ HB))); (case aL => have := LMc3.out; omega); intro v207 w16 ho hb hg hat; rw [← Ny206.out] at ho; have HO208 := Aside0.mk (ho); replace HB := Aside0.mk (hb); clear HO205; clear ho hb hg hat) | ((with_reducible refine gate_builtin (b := .append) (xs := #[.tmp 24, .tmp 29]) rfl ?_); at_builtin; refine Kd.R_append (Kd.int .u8) (w0 := w) w.heap.size rfl (.tmp 24) (.tmp 29) 122 5 (.int .u8 0) 1 rfl Tryz.underlying122 info5 rfl (by decide) (by omega) v207 y206 ((wrap64 (48 + (Int.tmod a0 10))) % 256) [.int .u8 ((wrap64 (48 + (Int.tmod a0 10))) % 256)] (fun _ => True) (fun _ => False) rfl rfl ?aP (fun _ hk => hk.elim) ?aF ?aO ?aB ?aS ?aL ?_; (case aP => exact rfl); (case aB => exact (pb_ HB)); (case aF => exact (fun _ _ => trivial)); (case aO => exact (by (with_reducible repeat (first | apply Kd.R_alloc | apply Kd.R_drewN | apply Kd.R_drew)); exact HO208.out)); (case aS => exact (below_size (pb_ HB))); (case aL => have := LMc13.out; omega); intro v216 w17 ho hb hg hat; rw [← Ny215.out] at ho; have HO217 := Aside0.mk (ho); replace HB := Aside0.mk (hb); clear HO208; clear ho hb hg hat; have hcv18 := own_string (P := Tryz.prog) Tryz.underlying122 Tryz.underlying5 Tryz.underlying9 (Kd.own_of_R HO217.out)))
     go_ret
     exact ⟨by first | rfl | (simp [errW_none, errW_some] <;> rfl) | (simp [*, errW_none, errW_some] <;> rfl), pb_ HB⟩
    ·
     rw [if_neg c13] at H
     exact absurd H (by simp)
  ·
   rw [if_neg c3] at H
   exact absurd H (by simp)
 ·
  rw [if_neg c2] at H
  have c2b0 : decide (100 ≤ a0) = false := decide_eq_false c2
  clear c2
  by_cases c19 : a0 ≥ 10
  ·
   rw [if_pos c19] at H
   have c19b0 : decide (10 ≤ a0) = true := decide_eq_true c19
   clear c19
   by_cases c20 : y203.length < 140737488355328
   ·
    rw [if_pos c20] at H
    have LMc20 := Aside0.mk c20
    clear c20
    obtain ⟨y218, hy218⟩ : ∃ y_ : List Int, y_ = (y203 ++ [(wrap64 (48 + (Int.tmod (wrap64 (Int.tdiv a0 10)) 10))) % 256]) := ⟨_, rfl⟩
    replace H : (if y218.length < 140737488355328 then (some (strOfNums (y218 ++ [(wrap64 (48 + (Int.tmod a0 10))) % 256]))) else (none)) = some r := by first | (rw [hy218]; with_reducible exact H) | (have H2_ := (Option.bind_some _ _).symm.trans H; rw [hy218]; with_reducible exact H2_) | (have H2_ := (Option.bind_some _ _).symm.trans H; with_reducible exact H2_) | with_reducible exact H | (rw [hy218]; exact H) | exact H
    have Ny218 := Aside0.mk hy218
    clear hy218
    by_cases c21 : y218.length < 140737488355328
    ·
     rw [if_pos c21] at H
     have LMc21 := Aside0.mk c21
     clear c21
     obtain ⟨y221, hy221⟩ : ∃ y_ : List Int, y_ = (y218 ++ [(wrap64 (48 + (Int.tmod a0 10))) % 256]) := ⟨_, rfl⟩
     replace H : (some (strOfNums y221)) = some r := by first | (rw [hy221]; with_reducible exact H) | (have H2_ := (Option.bind_some _ _).symm.trans H; rw [hy221]; with_reducible exact H2_) | (have H2_ := (Option.bind_some _ _).symm.trans H; with_reducible exact H2_) | with_reducible exact H | (rw [hy221]; exact H) | exact H
     have Ny221 := Aside0.mk hy221
     clear hy221
     obtain rfl := Option.some.inj H
     go_enter Tryz.func77, Tryz.ntmps77
     go_wp2_with (first | ((with_reducible refine gate_dst (N := 4) rfl ?_); refine Kd.R_lit (Kd.int .u8) _ 5 ?hg (N := 4) ?hd (xs := ([] : List Int)) (inner := []) (ok := fun _ => True) (okp := fun _ => True) ?hr ?hp (fun _ hk => hk) trivial (Below.refl _ _) (Nat.le_refl _) (by simp) ?_; (case hd => rfl); (case hg => rfl); (case hr => first | (go_simp; done) | (go_simp; rfl)); (case hp => exact (Reps.none _ _)); intro v204 w22 ho23 hb hg_ hnew_; clear hg_ hnew_; (first | rw [← Ny203.out] at ho23 | (simp only [Int.reduceToNat] at ho23; rw [← Ny203.out] at ho23)); have HO205 := Aside0.mk (Kd.R_lower ho23 (below_size (pb_ HB))); replace HB := bs_ HB hb; clear hb ho23) | ((with_reducible refine gate_builtin (b := .append) (xs := #[.tmp 16, .tmp 22]) rfl ?_); at_builtin; refine Kd.R_append (Kd.int .u8) (w0 := w) w.heap.size rfl (.tmp 16) (.tmp 22) 122 5 (.int .u8 0) 1 rfl Tryz.underlying122 info5 rfl (by decide) (by omega) v204 y203 ((wrap64 (48 + (Int.tmod (wrap64 (Int.tdiv a0 10)) 10))) % 256) [.int .u8 ((wrap64 (48 + (Int.tmod (wrap64 (Int.tdiv a0 10)) 10))) % 256)] (fun _ => True) (fun _ => False) rfl rfl ?aP (fun _ hk => hk.elim) ?aF ?aO ?aB ?aS ?aL ?_; (case aP => exact rfl); (case aB => exact (pb_ HB)); (case aF => exact (fun _ _ => trivial)); (case aO => exact (by (with_reducible repeat (first | apply Kd.R_alloc | apply Kd.R_drewN | apply Kd.R_drew)); exact HO205.out)); (case aS => exact (below_size (pb_ HB))); (case aL => have := LMc20.out; omega); intro v219 w24 ho hb hg hat; rw [← Ny218.out] at ho; have HO220 := Aside0.mk (ho); replace HB := Aside0.mk (hb); clear HO205; clear ho hb hg hat) | ((with_reducible refine gate_builtin (b := .append) (xs := #[.tmp 24, .tmp 29]) rfl ?_); at_builtin; refine Kd.R_append (Kd.int .u8) (w0 := w) w.heap.size rfl (.tmp 24) (.tmp 29) 122 5 (.int .u8 0) 1 rfl Tryz.underlying122 info5 rfl (by decide) (by omega) v219 y218 ((wrap64 (48 + (Int.tmod a0 10))) % 256) [.int .u8 ((wrap64 (48 + (Int.tmod a0 10))) % 256)] (fun _ => True) (fun _ => False) rfl rfl ?aP (fun _ hk => hk.elim) ?aF ?aO ?aB ?aS ?aL ?_; (case aP => exact rfl); (case aB => exact (pb_ HB)); (case aF => exact (fun _ _ => trivial)); (case aO => exact (by (with_reducible repeat (first | apply Kd.R_alloc | apply Kd.R_drewN | apply Kd.R_drew)); exact HO220.out)); (case aS => exact (below_size (pb_ HB))); (case aL => have := LMc21.out; omega); intro v222 w25 ho hb hg hat; rw [← Ny221.out] at ho; have HO223 := Aside0.mk (ho); replace HB := Aside0.mk (hb); clear HO220; clear ho hb hg hat; have hcv26 := own_string (P := Tryz.prog) Tryz.underlying122 Tryz.underlying5 Tryz.underlying9 (Kd.own_of_R HO223.out)))
     go_ret
     exact ⟨by first | rfl | (simp [errW_none, errW_some] <;> rfl) | (simp [*, errW_none, errW_some] <;> rfl), pb_ HB⟩
    ·
     rw [if_neg c21] at H
     exact absurd H (by simp)
   ·
    rw [if_neg c20] at H
    exact absurd H (by simp)
  ·
   rw [if_neg c19] at H
   have c19b0 : decide (10 ≤ a0) = false := decide_eq_false c19
   clear c19
   by_cases c27 : y203.length < 140737488355328
   ·
    rw [if_pos c27] at H
    have LMc27 := Aside0.mk c27
    clear c27
    obtain ⟨y224, hy224⟩ : ∃ y_ : List Int, y_ = (y203 ++ [(wrap64 (48 + (Int.tmod a0 10))) % 256]) := ⟨_, rfl⟩
    replace H : (some (strOfNums y224)) = some r := by first | (rw [hy224]; with_reducible exact H) | (have H2_ := (Option.bind_some _ _).symm.trans H; rw [hy224]; with_reducible exact H2_) | (have H2_ := (Option.bind_some _ _).symm.trans H; with_reducible exact H2_) | with_reducible exact H | (rw [hy224]; exact H) | exact H
    have Ny224 := Aside0.mk hy224
    clear hy224
    obtain rfl := Option.some.inj H
    go_enter Tryz.func77, Tryz.ntmps77
    go_wp2_with (first | ((with_reducible refine gate_dst (N := 4) rfl ?_); refine Kd.R_lit (Kd.int .u8) _ 5 ?hg (N := 4) ?hd (xs := ([] : List Int)) (inner := []) (ok := fun _ => True) (okp := fun _ => True) ?hr ?hp (fun _ hk => hk) trivial (Below.refl _ _) (Nat.le_refl _) (by simp) ?_; (case hd => rfl); (case hg => rfl); (case hr => first | (go_simp; done) | (go_simp; rfl)); (case hp => exact (Reps.none _ _)); intro v204 w28 ho29 hb hg_ hnew_; clear hg_ hnew_; (first | rw [← Ny203.out] at ho29 | (simp only [Int.reduceToNat] at ho29; rw [← Ny203.out] at ho29)); have HO205 := Aside0.mk (Kd.R_lower ho29 (below_size (pb_ HB))); replace HB := bs_ HB hb; clear hb ho29) | ((with_reducible refine gate_builtin (b := .append) (xs := #[.tmp 24, .tmp 29]) rfl ?_); at_builtin; refine Kd.R_append (Kd.int .u8) (w0 := w) w.heap.size rfl (.tmp 24) (.tmp 29) 122 5 (.int .u8 0) 1 rfl Tryz.underlying122 info5 rfl (by decide) (by omega) v204 y203 ((wrap64 (48 + (Int.tmod a0 10))) % 256) [.int .u8 ((wrap64 (48 + (Int.tmod a0 10))) % 256)] (fun _ => True) (fun _ => False) rfl rfl ?aP (fun _ hk => hk.elim) ?aF ?aO ?aB ?aS ?aL ?_; (case aP => exact rfl); (case aB => exact (pb_ HB)); (case aF => exact (fun _ _ => trivial)); (case aO => exact (by (with_reducible repeat (first | apply Kd.R_alloc | apply Kd.R_drewN | apply Kd.R_drew)); exact HO205.out)); (case aS => exact (below_size (pb_ HB))); (case aL => have := LMc27.out; omega); intro v225 w30 ho hb hg hat; rw [← Ny224.out] at ho; have HO226 := Aside0.mk (ho); replace HB := Aside0.mk (hb); clear HO205; clear ho hb hg hat; have hcv31 := own_string (P := Tryz.prog) Tryz.underlying122 Tryz.underlying5 Tryz.underlying9 (Kd.own_of_R HO226.out)))
    go_ret
    exact ⟨by first | rfl | (simp [errW_none, errW_some] <;> rfl) | (simp [*, errW_none, errW_some] <;> rfl), pb_ HB⟩
   ·
    rw [if_neg c27] at H
    exact absurd H (by simp)

end Go.Proofs.YtgdgklibilddgaaGreatDoor.PPt

namespace Go.Proofs.YtgdgklibilddgaaGreatDoor.PPt
open Go.RowKit Go.Proofs.YtgdgklibilddgaaGreatDoorW.PrintWords Go.Proofs.YtgdgklibilddgaaGreatDoorW.PrintLast Go.Proofs.YtgdgklibilddgaaGreatDoorW.PrintMore
attribute [local go_sem] max2_int min2_int max_two min_two max_three min_three max_four min_four   -- for this text's walks alone

attribute [local go_sem high] eqA38
def platbookref03_Print.f (k : Nat) (a0_0 : Bool) (a0_1 : Int) (a0_2 : Int) (a0_3 : Int) : Option (ByteArray) := (platbookref03_Right.f k a0_0 a0_1 a0_2 a0_3).bind fun t228 => (if t228 = true then ((platbookref02_Print.f a0_0 a0_1 a0_2).bind fun t229 => (if t229.size + 1 ≤ 9223372036854775807 then ((platbookref02_Dec.f a0_3).bind fun t230 => (if (t229 ++ (⟨#[47]⟩ : ByteArray)).size + t230.size ≤ 9223372036854775807 then (some ((t229 ++ (⟨#[47]⟩ : ByteArray)) ++ t230)) else (none))) else (none))) else (some (⟨#[]⟩ : ByteArray)))
def platbookref03_Print.T3 : Bool × List (List Nat × List Nat) := (true, [([], []), ([0], [0]), ([1], [1]), ([2], [2]), ([], []), ([4], [4]), ([5, 2], [5]), ([3, 6], [3, 6]), ([7, 6, 0, 1, 2, 3, 4, 5, 6, 7], [7])])
def platbookref03_Print.B3 : List Nat := [0, 1, 3, 7, 0, 16, 55, 127, 255]
theorem platbookref03_Print.tab3 : rtab .any (opsOf Tryz.f28 3) = platbookref03_Print.T3 := by kernel_rfl
theorem platbookref03_Print.bits3 : waitsOk platbookref03_Print.T3.2 platbookref03_Print.B3 = true := by kernel_rfl
set_option maxHeartbeats 8000000 in
set_option maxRecDepth 100000 in
theorem platbookref03_Print.calls (k : Nat) (a0_0 : Bool) (a0_1 : Int) (a0_2 : Int) (a0_3 : Int) (r : ByteArray) (w : World) (h : platbookref03_Print.f k a0_0 a0_1 a0_2 a0_3 = some r) :
  Calls Tryz.prog 28 #[.agg #[.bool a0_0, .int .u64 a0_1, .int .u64 a0_2, .int .i64 a0_3]] w fun e w' => e = .returned (.string r) ∧ Below w.heap.size w w' := by
 have hu38 := Tryz.underlying38
 have hu26 := Tryz.underlying26
 have HB := Aside0.mk (Below.refl w.heap.size w)
 have H : ((platbookref03_Right.f k a0_0 a0_1 a0_2 a0_3).bind fun t228 => (if t228 = true then ((platbookref02_Print.f a0_0 a0_1 a0_2).bind fun t229 => (if t229.size + 1 ≤ 9223372036854775807 then ((platbookref02_Dec.f a0_3).bind fun t230 => (if (t229 ++ (⟨#[47]⟩ : ByteArray)).size + t230.size ≤ 9223372036854775807 then (some ((t229 ++ (⟨#[47]⟩ : ByteArray)) ++ t230)) else (none))) else (none))) else (some (⟨#[]⟩ : ByteArray)))) = some r := h
 clear h
 replace H := Option.bind_eq_some_iff.mp H
 obtain ⟨t228, A20, H⟩ := H
 replace H : (if t228 = true then ((platbookref02_Print.f a0_0 a0_1 a0_2).bind fun t229 => (if t229.size + 1 ≤ 9223372036854775807 then ((platbookref02_Dec.f a0_3).bind fun t230 => (if (t229 ++ (⟨#[47]⟩ : ByteArray)).size + t230.size ≤ 9223372036854775807 then (some ((t229 ++ (⟨#[47]⟩ : ByteArray)) ++ t230)) else (none))) else (none))) else (some (⟨#[]⟩ : ByteArray))) = some r := H
 have A2 := Aside0.mk A20
 clear A20
 by_cases c3 : t228 = true
 ·
  subst c3
  rw [if_pos rfl] at H
  replace H := Option.bind_eq_some_iff.mp H
  obtain ⟨t229, A40, H⟩ := H
  replace H : (if t229.size + 1 ≤ 9223372036854775807 then ((platbookref02_Dec.f a0_3).bind fun t230 => (if (t229 ++ (⟨#[47]⟩ : ByteArray)).size + t230.size ≤ 9223372036854775807 then (some ((t229 ++ (⟨#[47]⟩ : ByteArray)) ++ t230)) else (none))) else (none)) = some r := H
  have A4 := Aside0.mk A40
  clear A40
  by_cases c5 : t229.size + 1 ≤ 9223372036854775807
  ·
   rw [if_pos c5] at H
   have c5b0 := eq_true c5
   have c5b1 : decide (t229.size + 1 ≤ 9223372036854775807) = true := decide_eq_true c5
   try have c5b2 : (9223372036854775807 < t229.size + 1) = False := eq_false (Nat.not_lt.2 c5)
   replace H := Option.bind_eq_some_iff.mp H
   obtain ⟨t230, A60, H⟩ := H
   replace H : (if (t229 ++ (⟨#[47]⟩ : ByteArray)).size + t230.size ≤ 9223372036854775807 then (some ((t229 ++ (⟨#[47]⟩ : ByteArray)) ++ t230)) else (none)) = some r := H
   have A6 := Aside0.mk A60
   clear A60
   by_cases c7 : (t229 ++ (⟨#[47]⟩ : ByteArray)).size + t230.size ≤ 9223372036854775807
   ·
    rw [if_pos c7] at H
    have c7b0 := eq_true c7
    have c7b1 : decide ((t229 ++ (⟨#[47]⟩ : ByteArray)).size + t230.size ≤ 9223372036854775807) = true := decide_eq_true c7
    try have c7b2 : (9223372036854775807 < (t229 ++ (⟨#[47]⟩ : ByteArray)).size + t230.size) = False := eq_false (Nat.not_lt.2 c7)
    (try (have c7b3 := of_eq_false c7b2; simp only [ByteArray.size_append, show (⟨#[47]⟩ : ByteArray).size = 1 from rfl] at c7b3; replace c7b3 := eq_false c7b3))
    obtain rfl := Option.some.inj H
    go_enter Tryz.func28, Tryz.ntmps28
    try go_wp2_with (first | ((with_reducible refine gate_dst (N := 1) rfl ?_); refine bx_ 1 #[.bool a0_0, .int .u64 a0_1, .int .u64 a0_2, .int .i64 a0_3] 38 ?_; intro gb227 hg w8 hbox hb; have BK227 := Aside0.mk (hbox); have GW227 := gw_ HB hg; have GE227 := gw_ HB hg; replace HB := bs_ HB hb; clear hb hbox hg; obtain ⟨hcz9_0, hcz9_1, hcz9_2, hcz9_3, hfz9_0, hfz9_1, hfz9_2, hfz9_3⟩ := c4_ BK227) | ((with_reducible refine gate_callee (f := 29) rfl ?_); refine gl_ (some 4) Tryz.func29 #[.agg #[.bool a0_0, .int .u64 a0_1, .int .u64 a0_2, .int .i64 a0_3]] ?_; (with_reducible refine (platbookref03_Right.calls k a0_0 a0_1 a0_2 a0_3 true _ A2.out).mono ?_); rintro e w10 ⟨rfl, hb⟩; refine ⟨_, rfl, ?_⟩; replace BK227 := bb_ BK227 hb; replace HB := bs_ HB hb; (try clear hb); (try clear hb2); (try clear hk); (try clear hi)))
    replace BK227 := Aside0.mk (blk_drew BK227.out)
    replace HB := Aside0.mk (below_drew1 HB.out)
    refine start_ (n := 9) (S := fun w' => w'.cell? ⟨gb227, 0, none⟩ = some (.bool a0_0) ∧ w'.cell? ⟨gb227, 1, none⟩ = some (.int .u64 a0_1) ∧ w'.cell? ⟨gb227, 2, none⟩ = some (.int .u64 a0_2) ∧ w'.cell? ⟨gb227, 3, none⟩ = some (.int .i64 a0_3)) (ds := []) (bm_ 9 0) (by kernel_rfl) rfl rfl ⟨kc_ BK227 0, kc_ BK227 1, kc_ BK227 2, kc_ BK227 3⟩ (fun hHeld => ?_); refine with_tabW platbookref03_Print.tab3 platbookref03_Print.bits3 (fun HT_ HW_ => ?_)
    generalize w10.drew = w11 at BK227 HB hHeld ⊢
    refine pu_ 0 (some 6) (bm_ 9 1) rfl HT_ ⟨by rfl, by intro w'; go_simp; with_reducible rfl⟩ ?_
    refine pu_ 4 (some 10) (bm_ 9 17) rfl HT_ ⟨by rfl, by intro w'; go_simp; with_reducible rfl⟩ ?_
    refine ta_ 1 (some 7) (bm_ 9 19) rfl HT_ HW_ ⟨by rfl, by rintro w' ⟨s0, s1, s2, s3⟩; go_simp; with_reducible rfl⟩ hHeld ?_
    refine ta_ 5 (some 11) (bm_ 9 51) rfl HT_ HW_ ⟨by rfl, by rintro w' ⟨s0, s1, s2, s3⟩; go_simp; with_reducible rfl⟩ hHeld ?_
    refine one_ (i := 2) (N := some 8) (bm_ 9 55) rfl rfl (one_of HT_.out (by kernel_rfl)) (by decide) (fun K hK => ?_)
    refine gr_ Tryz.func76 #[.agg #[.bool a0_0, .int .u64 a0_1, .int .u64 a0_2]] ?_
    with_reducible refine (platbookref02_Print.calls a0_0 a0_1 a0_2 t229 _ A4.out).mono ?_
    rintro e w12 ⟨rfl, hb⟩
    refine ⟨_, rfl, ?_⟩
    replace BK227 := bb_ BK227 hb
    replace HB := bs_ HB hb
    (try clear hb)
    (try clear hb2)
    (try clear hk)
    (try clear hi)
    refine hK.out _ _ ⟨kc_ BK227 0, kc_ BK227 1, kc_ BK227 2, kc_ BK227 3⟩ (fun hHeld => ?_)
    clear hK K
    refine norm_ (a' := ?_) ?_ ?_
    rotate_left
    ·
     show Act.put _ (some 8) _ = _
     simp only [Act.put, List.setIfInBounds_toArray, List.set_cons_zero, List.set_cons_succ, i64_w, i32_w]
     rfl
    refine pu_ 3 (some 9) (bm_ 9 63) rfl HT_ ⟨by rfl, by intro w'; go_simp; with_reducible rfl⟩ ?_
    refine one_ (i := 6) (N := some 12) (bm_ 9 127) rfl rfl (one_of HT_.out (by kernel_rfl)) (by decide) (fun K hK => ?_)
    refine gr_ Tryz.func77 #[.int .i64 a0_3] ?_
    with_reducible refine (platbookref02_Dec.calls a0_3 t230 _ A6.out).mono ?_
    rintro e w13 ⟨rfl, hb⟩
    refine ⟨_, rfl, ?_⟩
    replace BK227 := bb_ BK227 hb
    replace HB := bs_ HB hb
    (try clear hb)
    (try clear hb2)
    (try clear hk)
    (try clear hi)
    refine hK.out _ _ ⟨kc_ BK227 0, kc_ BK227 1, kc_ BK227 2, kc_ BK227 3⟩ (fun hHeld => ?_)
    clear hK K
    refine norm_ (a' := ?_) ?_ ?_
    rotate_left
    ·
     show Act.put _ (some 12) _ = _
     simp only [Act.put, List.setIfInBounds_toArray, List.set_cons_zero, List.set_cons_succ, i64_w, i32_w]
     rfl
    refine pu_ 7 (some 13) (bm_ 9 255) rfl HT_ ⟨by rfl, by intro w'; go_simp; with_reducible rfl⟩ ?_
    refine pu_ 8 (some 2) (bm_ 9 511) rfl HT_ ⟨by rfl, by intro w'; go_simp; with_reducible rfl⟩ ?_
    refine done_ (done_of HT_.out (by kernel_rfl)) ?_
    try go_wp2
    go_ret
    exact ⟨by first | rfl | (simp [errW_none, errW_some] <;> rfl) | (simp [*, errW_none, errW_some] <;> rfl), pb_ HB⟩
   ·
    rw [if_neg c7] at H
    exact absurd H (by simp)
  ·
   rw [if_neg c5] at H
   exact absurd H (by simp)
 ·
  replace c3 := Bool.eq_false_iff.mpr c3
  subst c3
  have H1 : (some (⟨#[]⟩ : ByteArray)) = some r := by rw [if_neg (show ¬ (false = true) by decide)] at H; exact H
  clear H
  have H := H1
  clear H1
  obtain rfl := Option.some.inj H
  go_enter Tryz.func28, Tryz.ntmps28
  go_wp2_with (first | ((with_reducible refine gate_dst (N := 1) rfl ?_); refine bx_ 1 #[.bool a0_0, .int .u64 a0_1, .int .u64 a0_2, .int .i64 a0_3] 38 ?_; intro gb227 hg w14 hbox hb; have BK227 := Aside0.mk (hbox); have GW227 := gw_ HB hg; have GE227 := gw_ HB hg; replace HB := bs_ HB hb; clear hb hbox hg; obtain ⟨hcz15_0, hcz15_1, hcz15_2, hcz15_3, hfz15_0, hfz15_1, hfz15_2, hfz15_3⟩ := c4_ BK227) | ((with_reducible refine gate_callee (f := 29) rfl ?_); refine gl_ (some 4) Tryz.func29 #[.agg #[.bool a0_0, .int .u64 a0_1, .int .u64 a0_2, .int .i64 a0_3]] ?_; (with_reducible refine (platbookref03_Right.calls k a0_0 a0_1 a0_2 a0_3 false _ A2.out).mono ?_); rintro e w16 ⟨rfl, hb⟩; refine ⟨_, rfl, ?_⟩; replace BK227 := bb_ BK227 hb; replace HB := bs_ HB hb; (try clear hb); (try clear hb2); (try clear hk); (try clear hi)))
  go_ret
  exact ⟨by first | rfl | (simp [errW_none, errW_some] <;> rfl) | (simp [*, errW_none, errW_some] <;> rfl), pb_ HB⟩

def platbooklaw03_PrefixTexts.j0 : Nat → ByteArray → Bool → Bool → Int → Int → Int → Option (Bool)
 | 0, _, _, _, _, _, _ => none
 | k + 1, x9, x42, x232000, x232001, x232002, x232003 => if x42 = true then (some false) else ((platbookref03_Right.f k x232000 x232001 x232002 x232003).bind fun t247 => (if t247 = true then ((prefix_Parse.f x9).bind fun bt248 => (if ((bt248.1 == x232000 && ((bt248.2.1 == x232001 && (bt248.2.2.1 == x232002)))) && (bt248.2.2.2.1 == x232003)) = true then (some (bt248.2.2.2.2 == 0)) else (some false))) else (some (x9.toList == ([] : List UInt8)))))
def platbooklaw03_PrefixTexts.f (k : Nat) (a0_0 : Bool) (a0_1 : Int) (a0_2 : Int) (a0_3 : Int) (a1 : ByteArray) : Option (Bool) := (platbooklaw03_awake.f).bind fun t232 => (if t232 = true then (if (a1.size : Int) > 1000 then (some true) else ((prefix_Parse.f a1).bind fun bt233 => ((platbookref03_Parse.f k a1).bind fun bt239 => ((prefix_Print.f a0_0 a0_1 a0_2 a0_3).bind fun t245 => (if ((!(bt233.1 == bt239.1) || ((!(bt233.2.1 == bt239.2.1) || (!(bt233.2.2.1 == bt239.2.2.1))))) || (!(bt233.2.2.2.1 == bt239.2.2.2.1))) = true then (platbooklaw03_PrefixTexts.j0 k t245 true a0_0 a0_1 a0_2 a0_3) else (if bt233.2.2.2.2 = bt239.2.2.2.2 then ((platbookref03_Print.f k a0_0 a0_1 a0_2 a0_3).bind fun t246 => (platbooklaw03_PrefixTexts.j0 k t245 (t245.toList != t246.toList) a0_0 a0_1 a0_2 a0_3)) else (platbooklaw03_PrefixTexts.j0 k t245 true a0_0 a0_1 a0_2 a0_3))))))) else (some false))
set_option maxHeartbeats 8000000 in
set_option maxRecDepth 100000 in
theorem platbooklaw03_PrefixTexts.calls (k : Nat) (a0_0 : Bool) (a0_1 : Int) (a0_2 : Int) (a0_3 : Int) (a1 : ByteArray) (r : Bool) (w : World) (hG : Glob w) (hrt : r = true) (h : platbooklaw03_PrefixTexts.f k a0_0 a0_1 a0_2 a0_3 a1 = some r) :
  Calls Tryz.prog 4 #[.agg #[.bool a0_0, .int .u64 a0_1, .int .u64 a0_2, .int .i64 a0_3], .string a1] w fun e w' => e = .returned (.bool r) ∧ Below w.heap.size w w' := by
 have hu38 := Tryz.underlying38
 have HGLB := Aside0.mk hG
 clear hG
 have HRT := Aside0.mk hrt
 clear hrt
 have HB := Aside0.mk (Below.refl w.heap.size w)
 have H : ((platbooklaw03_awake.f).bind fun t232 => (if t232 = true then (if (a1.size : Int) > 1000 then (some true) else ((prefix_Parse.f a1).bind fun bt233 => ((platbookref03_Parse.f k a1).bind fun bt239 => ((prefix_Print.f a0_0 a0_1 a0_2 a0_3).bind fun t245 => (if ((!(bt233.1 == bt239.1) || ((!(bt233.2.1 == bt239.2.1) || (!(bt233.2.2.1 == bt239.2.2.1))))) || (!(bt233.2.2.2.1 == bt239.2.2.2.1))) = true then (platbooklaw03_PrefixTexts.j0 k t245 true a0_0 a0_1 a0_2 a0_3) else (if bt233.2.2.2.2 = bt239.2.2.2.2 then ((platbookref03_Print.f k a0_0 a0_1 a0_2 a0_3).bind fun t246 => (platbooklaw03_PrefixTexts.j0 k t245 (t245.toList != t246.toList) a0_0 a0_1 a0_2 a0_3)) else (platbooklaw03_PrefixTexts.j0 k t245 true a0_0 a0_1 a0_2 a0_3))))))) else (some false))) = some r := h
 clear h
 replace H := Option.bind_eq_some_iff.mp H
 obtain ⟨t232, A30, H⟩ := H
 replace H : (if t232 = true then (if (a1.size : Int) > 1000 then (some true) else ((prefix_Parse.f a1).bind fun bt233 => ((platbookref03_Parse.f k a1).bind fun bt239 => ((prefix_Print.f a0_0 a0_1 a0_2 a0_3).bind fun t245 => (if ((!(bt233.1 == bt239.1) || ((!(bt233.2.1 == bt239.2.1) || (!(bt233.2.2.1 == bt239.2.2.1))))) || (!(bt233.2.2.2.1 == bt239.2.2.2.1))) = true then (platbooklaw03_PrefixTexts.j0 k t245 true a0_0 a0_1 a0_2 a0_3) else (if bt233.2.2.2.2 = bt239.2.2.2.2 then ((platbookref03_Print.f k a0_0 a0_1 a0_2 a0_3).bind fun t246 => (platbooklaw03_PrefixTexts.j0 k t245 (t245.toList != t246.toList) a0_0 a0_1 a0_2 a0_3)) else (platbooklaw03_PrefixTexts.j0 k t245 true a0_0 a0_1 a0_2 a0_3))))))) else (some false)) = some r := H
 have A3 := Aside0.mk A30
 clear A30
 by_cases c4 : t232 = true
 ·
  subst c4
  rw [if_pos rfl] at H
  by_cases c5 : (a1.size : Int) > 1000
  ·
   rw [if_pos c5] at H
   have c5b0 : decide (1000 < (a1.size : Int)) = true := decide_eq_true c5
   have c5b1 : decide (1000 < a1.size) = true := decide_eq_true (by omega)
   clear c5
   obtain rfl := Option.some.inj H
   go_enter Tryz.func4, Tryz.ntmps4
   go_wp2_with (first | ((with_reducible refine gate_dst (N := 2) rfl ?_); refine bx_ 2 #[.bool a0_0, .int .u64 a0_1, .int .u64 a0_2, .int .i64 a0_3] 38 ?_; intro gb231 hg w6 hbox hb; have BK231 := Aside0.mk (hbox); have GW231 := gw_ HB hg; have GE231 := gw_ HB hg; replace HB := bs_ HB hb; clear hb hbox hg) | ((with_reducible refine gate_callee (f := 24) rfl ?_); refine gl_ (some 12) Tryz.func24 #[] ?_; (with_reducible refine (platbooklaw03_awake.calls  true _ ?side1 rfl A3.out).mono ?_); (case side1 => exact glob_keep HGLB.out (pb_ HB)); rintro e w7 ⟨rfl, hb⟩; refine ⟨_, rfl, ?_⟩; replace BK231 := bb_ BK231 hb; replace HB := bs_ HB hb; (try clear hb); (try clear hb2); (try clear hk); (try clear hi)))
   go_ret
   exact ⟨by first | rfl | (simp [errW_none, errW_some] <;> rfl) | (simp [*, errW_none, errW_some] <;> rfl), pb_ HB⟩
  ·
   rw [if_neg c5] at H
   have c5b0 : decide (1000 < (a1.size : Int)) = false := decide_eq_false c5
   have c5b1 : decide (1000 < a1.size) = false := decide_eq_false (by omega)
   clear c5
   replace H := Option.bind_eq_some_iff.mp H
   obtain ⟨⟨t233, t234, t235, t236, t237⟩, A80, H⟩ := H
   replace H : ((platbookref03_Parse.f k a1).bind fun bt239 => ((prefix_Print.f a0_0 a0_1 a0_2 a0_3).bind fun t245 => (if ((!(t233 == bt239.1) || ((!(t234 == bt239.2.1) || (!(t235 == bt239.2.2.1))))) || (!(t236 == bt239.2.2.2.1))) = true then (platbooklaw03_PrefixTexts.j0 k t245 true a0_0 a0_1 a0_2 a0_3) else (if t237 = bt239.2.2.2.2 then ((platbookref03_Print.f k a0_0 a0_1 a0_2 a0_3).bind fun t246 => (platbooklaw03_PrefixTexts.j0 k t245 (t245.toList != t246.toList) a0_0 a0_1 a0_2 a0_3)) else (platbooklaw03_PrefixTexts.j0 k t245 true a0_0 a0_1 a0_2 a0_3))))) = some r := H
   have A8 := Aside0.mk A80
   clear A80
   replace H := Option.bind_eq_some_iff.mp H
   obtain ⟨⟨t239, t240, t241, t242, t243⟩, A90, H⟩ := H
   replace H : ((prefix_Print.f a0_0 a0_1 a0_2 a0_3).bind fun t245 => (if ((!(t233 == t239) || ((!(t234 == t240) || (!(t235 == t241))))) || (!(t236 == t242))) = true then (platbooklaw03_PrefixTexts.j0 k t245 true a0_0 a0_1 a0_2 a0_3) else (if t237 = t243 then ((platbookref03_Print.f k a0_0 a0_1 a0_2 a0_3).bind fun t246 => (platbooklaw03_PrefixTexts.j0 k t245 (t245.toList != t246.toList) a0_0 a0_1 a0_2 a0_3)) else (platbooklaw03_PrefixTexts.j0 k t245 true a0_0 a0_1 a0_2 a0_3)))) = some r := H
   have A9 := Aside0.mk A90
   clear A90
   replace H := Option.bind_eq_some_iff.mp H
   obtain ⟨t245, A100, H⟩ := H
   replace H : (if ((!(t233 == t239) || ((!(t234 == t240) || (!(t235 == t241))))) || (!(t236 == t242))) = true then (platbooklaw03_PrefixTexts.j0 k t245 true a0_0 a0_1 a0_2 a0_3) else (if t237 = t243 then ((platbookref03_Print.f k a0_0 a0_1 a0_2 a0_3).bind fun t246 => (platbooklaw03_PrefixTexts.j0 k t245 (t245.toList != t246.toList) a0_0 a0_1 a0_2 a0_3)) else (platbooklaw03_PrefixTexts.j0 k t245 true a0_0 a0_1 a0_2 a0_3))) = some r := H
   have A10 := Aside0.mk A100
   clear A100
   have HC11 := Aside0.mk H
   clear H
   go_enter Tryz.func4, Tryz.ntmps4
   go_upto_region 8 with (first | ((with_reducible refine gate_dst (N := 2) rfl ?_); refine bx_ 2 #[.bool a0_0, .int .u64 a0_1, .int .u64 a0_2, .int .i64 a0_3] 38 ?_; intro gb231 hg w12 hbox hb; have BK231 := Aside0.mk (hbox); have GW231 := gw_ HB hg; have GE231 := gw_ HB hg; replace HB := bs_ HB hb; clear hb hbox hg) | ((with_reducible refine gate_callee (f := 24) rfl ?_); refine gl_ (some 12) Tryz.func24 #[] ?_; (with_reducible refine (platbooklaw03_awake.calls  true _ ?side1 rfl A3.out).mono ?_); (case side1 => exact glob_keep HGLB.out (pb_ HB)); rintro e w13 ⟨rfl, hb⟩; refine ⟨_, rfl, ?_⟩; replace BK231 := bb_ BK231 hb; replace HB := bs_ HB hb; (try clear hb); (try clear hb2); (try clear hk); (try clear hi)) | ((with_reducible refine gate_callee (f := 25) rfl ?_); refine gl_ (some 19) Tryz.func25 #[.string a1] ?_; (with_reducible refine (prefix_Parse.calls a1 t233 t234 t235 t236 t237 _ ?side1 A8.out).mono ?_); (case side1 => exact glob_keep HGLB.out (pb_ HB)); rintro e w14 ⟨rfl, hb⟩; refine ⟨_, rfl, ?_⟩; replace BK231 := bb_ BK231 hb; replace HB := bs_ HB hb; (try clear hb); (try clear hb2); (try clear hk); (try clear hi)) | ((with_reducible refine gate_dst (N := 5) rfl ?_); refine bx_ 5 #[.bool false, .int .u64 0, .int .u64 0, .int .i64 0] 38 ?_; intro gb238 hg w15 hbox hb; have BK238 := Aside0.mk (hbox); have GW238 := gw_ HB hg; have GE238 := gw_ HB hg; have NB231_238 := nl_ BK231 hg; have NB238_231 := ng_ BK231 hg; replace BK231 := bb_ BK231 hb; replace HB := bs_ HB hb; clear hb hbox hg; have hnb16 := NB238_231.out; have hnc16 := NB231_238.out; obtain ⟨hcz17_0, hcz17_1, hcz17_2, hcz17_3, hfz17_0, hfz17_1, hfz17_2, hfz17_3⟩ := c4_ BK238) | ((with_reducible refine gate_callee (f := 26) rfl ?_); refine gl_ (some 24) Tryz.func26 #[.string a1] ?_; (with_reducible refine (platbookref03_Parse.calls k a1 t239 t240 t241 t242 t243 _ A9.out).mono ?_); rintro e w18 ⟨rfl, hb⟩; refine ⟨_, rfl, ?_⟩; replace BK231 := Aside0.mk (blk_below (g := gb231) (o := .cells #[.bool a0_0, .int .u64 a0_1, .int .u64 a0_2, .int .i64 a0_3] 38 (0, 0)) (by refine pw_ ?_; refine blk_far ?_ NB231_238.out _; refine pw_ ?_; refine blk_far ?_ NB231_238.out _; refine pw_ ?_; refine blk_far ?_ NB231_238.out _; refine pw_ ?_; refine blk_far ?_ NB231_238.out _; refine pw_ ?_; exact BK231.out) hb); replace BK238 := Aside0.mk (blk_below (g := gb238) (o := .cells #[.bool t233, .int .u64 t234, .int .u64 t235, .int .i64 t236] 38 (0, 0)) (by refine pw_ ?_; refine blk_put (cs := #[.bool t233, .int .u64 t234, .int .u64 t235, .int .i64 0]) ?_ 3 _ rfl; refine pw_ ?_; refine blk_put (cs := #[.bool t233, .int .u64 t234, .int .u64 0, .int .i64 0]) ?_ 2 _ rfl; refine pw_ ?_; refine blk_put (cs := #[.bool t233, .int .u64 0, .int .u64 0, .int .i64 0]) ?_ 1 _ rfl; refine pw_ ?_; refine blk_put (cs := #[.bool false, .int .u64 0, .int .u64 0, .int .i64 0]) ?_ 0 _ rfl; refine pw_ ?_; exact BK238.out) hb); replace HB := bs_ HB hb; (try clear hb); (try clear hb2); (try clear hk); (try clear hi)) | ((with_reducible refine gate_dst (N := 7) rfl ?_); refine bx_ 7 #[.bool false, .int .u64 0, .int .u64 0, .int .i64 0] 38 ?_; intro gb244 hg w19 hbox hb; have BK244 := Aside0.mk (hbox); have GW244 := gw_ HB hg; have GE244 := gw_ HB hg; have NB231_244 := nl_ BK231 hg; have NB244_231 := ng_ BK231 hg; have NB238_244 := nl_ BK238 hg; have NB244_238 := ng_ BK238 hg; replace BK231 := bb_ BK231 hb; replace BK238 := bb_ BK238 hb; replace HB := bs_ HB hb; clear hb hbox hg; have hnb20 := NB244_231.out; have hnc20 := NB231_244.out; have hnb21 := NB244_238.out; have hnc21 := NB238_244.out; obtain ⟨hcz22_0, hcz22_1, hcz22_2, hcz22_3, hfz22_0, hfz22_1, hfz22_2, hfz22_3⟩ := c4_ BK244; obtain ⟨hcz23_0, hcz23_1, hcz23_2, hcz23_3, hfz23_0, hfz23_1, hfz23_2, hfz23_3⟩ := c4_ BK231) | ((with_reducible refine gate_callee (f := 27) rfl ?_); refine gl_ (some 28) Tryz.func27 #[.agg #[.bool a0_0, .int .u64 a0_1, .int .u64 a0_2, .int .i64 a0_3]] ?_; (with_reducible refine (prefix_Print.calls a0_0 a0_1 a0_2 a0_3 t245 _ ?side1 A10.out).mono ?_); (case side1 => exact glob_keep HGLB.out (pb_ HB)); rintro e w24 ⟨rfl, hb⟩; refine ⟨_, rfl, ?_⟩; replace BK231 := Aside0.mk (blk_below (g := gb231) (o := .cells #[.bool a0_0, .int .u64 a0_1, .int .u64 a0_2, .int .i64 a0_3] 38 (0, 0)) (by refine pw_ ?_; refine blk_far ?_ NB231_244.out _; refine pw_ ?_; refine blk_far ?_ NB231_244.out _; refine pw_ ?_; refine blk_far ?_ NB231_244.out _; refine pw_ ?_; refine blk_far ?_ NB231_244.out _; refine pw_ ?_; exact BK231.out) hb); replace BK238 := Aside0.mk (blk_below (g := gb238) (o := .cells #[.bool t233, .int .u64 t234, .int .u64 t235, .int .i64 t236] 38 (0, 0)) (by refine pw_ ?_; refine blk_far ?_ NB238_244.out _; refine pw_ ?_; refine blk_far ?_ NB238_244.out _; refine pw_ ?_; refine blk_far ?_ NB238_244.out _; refine pw_ ?_; refine blk_far ?_ NB238_244.out _; refine pw_ ?_; exact BK238.out) hb); replace BK244 := Aside0.mk (blk_below (g := gb244) (o := .cells #[.bool t239, .int .u64 t240, .int .u64 t241, .int .i64 t242] 38 (0, 0)) (by refine pw_ ?_; refine blk_put (cs := #[.bool t239, .int .u64 t240, .int .u64 t241, .int .i64 0]) ?_ 3 _ rfl; refine pw_ ?_; refine blk_put (cs := #[.bool t239, .int .u64 t240, .int .u64 0, .int .i64 0]) ?_ 2 _ rfl; refine pw_ ?_; refine blk_put (cs := #[.bool t239, .int .u64 0, .int .u64 0, .int .i64 0]) ?_ 1 _ rfl; refine pw_ ?_; refine blk_put (cs := #[.bool false, .int .u64 0, .int .u64 0, .int .i64 0]) ?_ 0 _ rfl; refine pw_ ?_; exact BK244.out) hb); replace HB := bs_ HB hb; (try clear hb); (try clear hb2); (try clear hk); (try clear hi)))
   (try simp only [Act.put, List.setIfInBounds_toArray, List.set_cons_zero, List.set_cons_succ])
   go_cut [42] (fun v42 wc => ∃ (kq : Nat) (x42_10 : Bool), v42 = .bool x42_10 ∧ Aside0 (platbooklaw03_PrefixTexts.j0 kq t245 x42_10 a0_0 a0_1 a0_2 a0_3 = some r) ∧ Aside0 (kq ≤ k) ∧ Aside0 (wc.heap[gb231]? = some (.cells #[.bool a0_0, .int .u64 a0_1, .int .u64 a0_2, .int .i64 a0_3] 38 (0, 0))) ∧ Aside0 (wc.heap[gb238]? = some (.cells #[.bool t233, .int .u64 t234, .int .u64 t235, .int .i64 t236] 38 (0, 0))) ∧ Aside0 (wc.heap[gb244]? = some (.cells #[.bool t239, .int .u64 t240, .int .u64 t241, .int .i64 t242] 38 (0, 0))) ∧ Aside0 (Below w.heap.size w wc))
   case first =>
    have H := HC11.out
    clear HC11
    by_cases c25 : ((!(t233 == t239) || ((!(t234 == t240) || (!(t235 == t241))))) || (!(t236 == t242))) = true
    ·
     rw [if_pos c25] at H
     have c25b0 : ((!(t233 == t239) || ((!(t234 == t240) || (!(t235 == t241))))) || (!(t236 == t242))) = true := c25
     clear c25
     (first | rw [c25b0] | (simp only [i64_w, i32_w]; rw [c25b0]) | skip)
     have H' := Aside0.mk H
     clear H
     have hnb26 := NB238_231.out
     have hnc26 := NB231_238.out
     have hnb27 := NB238_244.out
     have hnc27 := NB244_238.out
     obtain ⟨hcz28_0, hcz28_1, hcz28_2, hcz28_3, hfz28_0, hfz28_1, hfz28_2, hfz28_3⟩ := c4_ BK238
     have hnb29 := NB244_231.out
     have hnc29 := NB231_244.out
     obtain ⟨hcz30_0, hcz30_1, hcz30_2, hcz30_3, hfz30_0, hfz30_1, hfz30_2, hfz30_3⟩ := c4_ BK244
     go_wp2
     go_meet
     case rel => exact ⟨_, (true), (by first | rfl | (simp; done) | (simp [*]; done)), H', ⟨by first | omega | exact Nat.le_refl _⟩, ⟨by refine pw_ ?_; exact BK231.out⟩, ⟨by refine pw_ ?_; exact BK238.out⟩, ⟨by refine pw_ ?_; exact BK244.out⟩, ⟨pb_ HB⟩⟩
    ·
     rw [if_neg c25] at H
     have c25b0 : ((!(t233 == t239) || ((!(t234 == t240) || (!(t235 == t241))))) || (!(t236 == t242))) = false := by simpa using c25
     clear c25
     (first | rw [c25b0] | (simp only [i64_w, i32_w]; rw [c25b0]) | skip)
     by_cases c31 : t237 = t243
     ·
      rw [if_pos c31] at H
      have c31b0 : (t237 == t243) = true := beq_iff_eq.mpr c31
      have c31b1 : (t237 != t243) = false := bne_eq_false_iff_eq.mpr c31
      clear c31
      replace H := Option.bind_eq_some_iff.mp H
      obtain ⟨t246, A320, H⟩ := H
      replace H : (platbooklaw03_PrefixTexts.j0 k t245 (t245.toList != t246.toList) a0_0 a0_1 a0_2 a0_3) = some r := H
      have A32 := Aside0.mk A320
      clear A320
      have H' := Aside0.mk H
      clear H
      have hnb33 := NB238_231.out
      have hnc33 := NB231_238.out
      have hnb34 := NB238_244.out
      have hnc34 := NB244_238.out
      obtain ⟨hcz35_0, hcz35_1, hcz35_2, hcz35_3, hfz35_0, hfz35_1, hfz35_2, hfz35_3⟩ := c4_ BK238
      have hnb36 := NB244_231.out
      have hnc36 := NB231_244.out
      obtain ⟨hcz37_0, hcz37_1, hcz37_2, hcz37_3, hfz37_0, hfz37_1, hfz37_2, hfz37_3⟩ := c4_ BK244
      obtain ⟨hcz38_0, hcz38_1, hcz38_2, hcz38_3, hfz38_0, hfz38_1, hfz38_2, hfz38_3⟩ := c4_ BK231
      go_wp2_with (first | (go_at_call 28; (with_reducible refine (platbookref03_Print.calls k a0_0 a0_1 a0_2 a0_3 t246 _ A32.out).mono ?_); rintro e w39 ⟨rfl, hb⟩; replace BK231 := bb_ BK231 hb; replace BK238 := bb_ BK238 hb; replace BK244 := bb_ BK244 hb; replace HB := bs_ HB hb; (try clear hb); (try clear hb2); (try clear hk); (try clear hi)))
      go_meet
      case rel => exact ⟨_, ((t245.toList != t246.toList)), (by first | rfl | (simp; done) | (simp [*]; done)), H', ⟨by first | omega | exact Nat.le_refl _⟩, ⟨by refine pw_ ?_; exact BK231.out⟩, ⟨by refine pw_ ?_; exact BK238.out⟩, ⟨by refine pw_ ?_; exact BK244.out⟩, ⟨pb_ HB⟩⟩
     ·
      rw [if_neg c31] at H
      have c31b0 : (t237 == t243) = false := beq_eq_false_iff_ne.mpr c31
      have c31b1 : (t237 != t243) = true := bne_iff_ne.mpr c31
      have H' := Aside0.mk H
      clear H
      have hnb40 := NB238_231.out
      have hnc40 := NB231_238.out
      have hnb41 := NB238_244.out
      have hnc41 := NB244_238.out
      obtain ⟨hcz42_0, hcz42_1, hcz42_2, hcz42_3, hfz42_0, hfz42_1, hfz42_2, hfz42_3⟩ := c4_ BK238
      have hnb43 := NB244_231.out
      have hnc43 := NB231_244.out
      obtain ⟨hcz44_0, hcz44_1, hcz44_2, hcz44_3, hfz44_0, hfz44_1, hfz44_2, hfz44_3⟩ := c4_ BK244
      go_wp2
      go_meet
      case rel => exact ⟨_, (true), (by first | rfl | (simp; done) | (simp [*]; done)), H', ⟨by first | omega | exact Nat.le_refl _⟩, ⟨by refine pw_ ?_; exact BK231.out⟩, ⟨by refine pw_ ?_; exact BK238.out⟩, ⟨by refine pw_ ?_; exact BK244.out⟩, ⟨pb_ HB⟩⟩
   case rest =>
    clear HC11
    try clear c1
    try clear c2
    try clear p2
    try clear c3
    try clear c4
    try clear c5
    try clear c5b0
    try clear c5b1
    try clear c16
    try clear c20
    try clear c21
    try clear c24
    try clear c25
    try clear c25b0
    try clear c26
    try clear c27
    try clear c29
    try clear c31
    try clear c31b0
    try clear c31b1
    try clear c33
    try clear c34
    try clear c36
    try clear c40
    try clear c41
    try clear c43
    try clear hcz17_0
    try clear hcz17_1
    try clear hcz17_2
    try clear hcz17_3
    try clear hcz22_0
    try clear hcz22_1
    try clear hcz22_2
    try clear hcz22_3
    try clear hcz23_0
    try clear hcz23_1
    try clear hcz23_2
    try clear hcz23_3
    try clear hcz28_0
    try clear hcz28_1
    try clear hcz28_2
    try clear hcz28_3
    try clear hcz30_0
    try clear hcz30_1
    try clear hcz30_2
    try clear hcz30_3
    try clear hcz35_0
    try clear hcz35_1
    try clear hcz35_2
    try clear hcz35_3
    try clear hcz37_0
    try clear hcz37_1
    try clear hcz37_2
    try clear hcz37_3
    try clear hcz38_0
    try clear hcz38_1
    try clear hcz38_2
    try clear hcz38_3
    try clear hcz42_0
    try clear hcz42_1
    try clear hcz42_2
    try clear hcz42_3
    try clear hcz44_0
    try clear hcz44_1
    try clear hcz44_2
    try clear hcz44_3
    try clear hfz17_0
    try clear hfz17_1
    try clear hfz17_2
    try clear hfz17_3
    try clear hfz22_0
    try clear hfz22_1
    try clear hfz22_2
    try clear hfz22_3
    try clear hfz23_0
    try clear hfz23_1
    try clear hfz23_2
    try clear hfz23_3
    try clear hfz28_0
    try clear hfz28_1
    try clear hfz28_2
    try clear hfz28_3
    try clear hfz30_0
    try clear hfz30_1
    try clear hfz30_2
    try clear hfz30_3
    try clear hfz35_0
    try clear hfz35_1
    try clear hfz35_2
    try clear hfz35_3
    try clear hfz37_0
    try clear hfz37_1
    try clear hfz37_2
    try clear hfz37_3
    try clear hfz38_0
    try clear hfz38_1
    try clear hfz38_2
    try clear hfz38_3
    try clear hfz42_0
    try clear hfz42_1
    try clear hfz42_2
    try clear hfz42_3
    try clear hfz44_0
    try clear hfz44_1
    try clear hfz44_2
    try clear hfz44_3
    obtain ⟨kq, x42_10, rfl, HA, HJ10, BK231, BK238, BK244, HB⟩ := hcut
    cases kq with
    | zero => exact absurd HA.out (by simp [platbooklaw03_PrefixTexts.j0])
    | succ kj10 =>
     have H := HA.out
     clear HA
     simp only [platbooklaw03_PrefixTexts.j0] at H
     by_cases c45 : x42_10 = true
     ·
      subst c45
      rw [if_pos rfl] at H
      obtain rfl := Option.some.inj H
      exact absurd HRT.out (by decide)
     ·
      replace c45 := Bool.eq_false_iff.mpr c45
      subst c45
      have H1 : ((platbookref03_Right.f kj10 a0_0 a0_1 a0_2 a0_3).bind fun t247 => (if t247 = true then ((prefix_Parse.f t245).bind fun bt248 => (if ((bt248.1 == a0_0 && ((bt248.2.1 == a0_1 && (bt248.2.2.1 == a0_2)))) && (bt248.2.2.2.1 == a0_3)) = true then (some (bt248.2.2.2.2 == 0)) else (some false))) else (some (t245.toList == ([] : List UInt8))))) = some r := by rw [if_neg (show ¬ (false = true) by decide)] at H; exact H
      clear H
      have H := H1
      clear H1
      replace H := Option.bind_eq_some_iff.mp H
      obtain ⟨t247, A460, H⟩ := H
      replace H : (if t247 = true then ((prefix_Parse.f t245).bind fun bt248 => (if ((bt248.1 == a0_0 && ((bt248.2.1 == a0_1 && (bt248.2.2.1 == a0_2)))) && (bt248.2.2.2.1 == a0_3)) = true then (some (bt248.2.2.2.2 == 0)) else (some false))) else (some (t245.toList == ([] : List UInt8)))) = some r := H
      have A46 := Aside0.mk A460
      clear A460
      by_cases c47 : t247 = true
      ·
       subst c47
       rw [if_pos rfl] at H
       replace H := Option.bind_eq_some_iff.mp H
       obtain ⟨⟨t248, t249, t250, t251, t252⟩, A480, H⟩ := H
       replace H : (if ((t248 == a0_0 && ((t249 == a0_1 && (t250 == a0_2)))) && (t251 == a0_3)) = true then (some (t252 == 0)) else (some false)) = some r := H
       have A48 := Aside0.mk A480
       clear A480
       by_cases c49 : ((t248 == a0_0 && ((t249 == a0_1 && (t250 == a0_2)))) && (t251 == a0_3)) = true
       ·
        rw [if_pos c49] at H
        have c49b0 : ((t248 == a0_0 && ((t249 == a0_1 && (t250 == a0_2)))) && (t251 == a0_3)) = true := c49
        clear c49
        obtain rfl := Option.some.inj H
        have hnb50 := NB231_238.out
        have hnc50 := NB238_231.out
        have hnb51 := NB231_244.out
        have hnc51 := NB244_231.out
        obtain ⟨hcz52_0, hcz52_1, hcz52_2, hcz52_3, hfz52_0, hfz52_1, hfz52_2, hfz52_3⟩ := c4_ BK231
        go_wp2_with (first | ((with_reducible refine gate_callee (f := 29) rfl ?_); refine gl_ (some 44) Tryz.func29 #[.agg #[.bool a0_0, .int .u64 a0_1, .int .u64 a0_2, .int .i64 a0_3]] ?_; (with_reducible refine (platbookref03_Right.calls kj10 a0_0 a0_1 a0_2 a0_3 true _ A46.out).mono ?_); rintro e w53 ⟨rfl, hb⟩; refine ⟨_, rfl, ?_⟩; replace BK231 := bb_ BK231 hb; replace BK238 := bb_ BK238 hb; replace BK244 := bb_ BK244 hb; replace HB := bs_ HB hb; (try clear hb); (try clear hb2); (try clear hk); (try clear hi)) | ((with_reducible refine gate_callee (f := 25) rfl ?_); refine gl_ (some 50) Tryz.func25 #[.string t245] ?_; (with_reducible refine (prefix_Parse.calls t245 t248 t249 t250 t251 t252 _ ?side1 A48.out).mono ?_); (case side1 => exact glob_keep HGLB.out (pb_ HB)); rintro e w54 ⟨rfl, hb⟩; refine ⟨_, rfl, ?_⟩; replace BK231 := bb_ BK231 hb; replace BK238 := bb_ BK238 hb; replace BK244 := bb_ BK244 hb; replace HB := bs_ HB hb; (try clear hb); (try clear hb2); (try clear hk); (try clear hi)) | ((with_reducible refine gate_dst (N := 10) rfl ?_); refine bx_ 10 #[.bool false, .int .u64 0, .int .u64 0, .int .i64 0] 38 ?_; intro gb253 hg w55 hbox hb; have BK253 := Aside0.mk (hbox); have GW253 := gw_ HB hg; have GE253 := gw_ HB hg; have NB231_253 := nl_ BK231 hg; have NB253_231 := ng_ BK231 hg; have NB238_253 := nl_ BK238 hg; have NB253_238 := ng_ BK238 hg; have NB244_253 := nl_ BK244 hg; have NB253_244 := ng_ BK244 hg; replace BK231 := bb_ BK231 hb; replace BK238 := bb_ BK238 hb; replace BK244 := bb_ BK244 hb; replace HB := bs_ HB hb; clear hb hbox hg; have hnb56 := NB253_231.out; have hnc56 := NB231_253.out; have hnb57 := NB253_238.out; have hnc57 := NB238_253.out; have hnb58 := NB253_244.out; have hnc58 := NB244_253.out; obtain ⟨hcz59_0, hcz59_1, hcz59_2, hcz59_3, hfz59_0, hfz59_1, hfz59_2, hfz59_3⟩ := c4_ BK253; obtain ⟨hcz60_0, hcz60_1, hcz60_2, hcz60_3, hfz60_0, hfz60_1, hfz60_2, hfz60_3⟩ := c4_ BK231))
        go_ret
        exact ⟨by first | rfl | (simp [errW_none, errW_some] <;> rfl) | (simp [*, errW_none, errW_some] <;> rfl), pb_ HB⟩
       ·
        rw [if_neg c49] at H
        have c49b0 : ((t248 == a0_0 && ((t249 == a0_1 && (t250 == a0_2)))) && (t251 == a0_3)) = false := by simpa using c49
        clear c49
        obtain rfl := Option.some.inj H
        exact absurd HRT.out (by decide)
      ·
       replace c47 := Bool.eq_false_iff.mpr c47
       subst c47
       have H1 : (some (t245.toList == ([] : List UInt8))) = some r := by rw [if_neg (show ¬ (false = true) by decide)] at H; exact H
       clear H
       have H := H1
       clear H1
       obtain rfl := Option.some.inj H
       have hnb61 := NB231_238.out
       have hnc61 := NB238_231.out
       have hnb62 := NB231_244.out
       have hnc62 := NB244_231.out
       obtain ⟨hcz63_0, hcz63_1, hcz63_2, hcz63_3, hfz63_0, hfz63_1, hfz63_2, hfz63_3⟩ := c4_ BK231
       go_wp2_with (first | ((with_reducible refine gate_callee (f := 29) rfl ?_); refine gl_ (some 44) Tryz.func29 #[.agg #[.bool a0_0, .int .u64 a0_1, .int .u64 a0_2, .int .i64 a0_3]] ?_; (with_reducible refine (platbookref03_Right.calls kj10 a0_0 a0_1 a0_2 a0_3 false _ A46.out).mono ?_); rintro e w64 ⟨rfl, hb⟩; refine ⟨_, rfl, ?_⟩; replace BK231 := bb_ BK231 hb; replace BK238 := bb_ BK238 hb; replace BK244 := bb_ BK244 hb; replace HB := bs_ HB hb; (try clear hb); (try clear hb2); (try clear hk); (try clear hi)))
       go_ret
       exact ⟨by first | rfl | (simp [errW_none, errW_some] <;> rfl) | (simp [*, errW_none, errW_some] <;> rfl), pb_ HB⟩
 ·
  replace c4 := Bool.eq_false_iff.mpr c4
  subst c4
  have H1 : (some false) = some r := by rw [if_neg (show ¬ (false = true) by decide)] at H; exact H
  clear H
  have H := H1
  clear H1
  obtain rfl := Option.some.inj H
  exact absurd HRT.out (by decide)

end Go.Proofs.YtgdgklibilddgaaGreatDoor.PPt

namespace Go.Proofs.YtgdgklibilddgaaGreatDoor
open Go.RowKit Go.Proofs.YtgdgklibilddgaaGreatDoorW.PrintWords Go.Proofs.YtgdgklibilddgaaGreatDoor.PPt

/-- the lowest d bits, the lowest one first -/
def rowL : Nat → Nat → List Int
  | _, 0 => []
  | x, d + 1 => ((x % 2 : Nat) : Int) :: rowL (x / 2) d
theorem rowL_succ (x d : Nat) : rowL x (d + 1) = ((x % 2 : Nat) : Int) :: rowL (x / 2) d := rfl
theorem bit_nat {b : Int} (h : b = 0 ∨ b = 1) : ∃ c : Nat, b = (c : Int) ∧ c ≤ 1 := by
  rcases h with rfl | rfl
  · exact ⟨0, rfl, by omega⟩
  · exact ⟨1, rfl, by omega⟩
theorem rowL_len : ∀ (d x : Nat), (rowL x d).length = d
  | 0, _ => rfl
  | d + 1, x => by simp [rowL, rowL_len d]
theorem rowL_add : ∀ (a b x : Nat), rowL x (a + b) = rowL x a ++ rowL (x / 2 ^ a) b
  | 0, b, x => by simp [rowL]
  | a + 1, b, x => by
    rw [show a + 1 + b = (a + b) + 1 by omega, rowL, rowL_add a b, rowL, List.cons_append, Nat.div_div_eq_div_mul, Nat.pow_succ, Nat.mul_comm 2]
theorem rowL_mod : ∀ (a h l : Nat), rowL (h * 2 ^ a + l) a = rowL l a
  | 0, _, _ => rfl
  | a + 1, h, l => by
    have e : h * 2 ^ (a + 1) = 2 * (h * 2 ^ a) := by rw [Nat.pow_succ]; rw [← Nat.mul_assoc, Nat.mul_comm 2]
    rw [rowL, rowL, show (h * 2 ^ (a + 1) + l) % 2 = l % 2 by omega, show (h * 2 ^ (a + 1) + l) / 2 = h * 2 ^ a + l / 2 by omega, rowL_mod a h]
theorem rowL_join {a b h l : Nat} (hl : l < 2 ^ a) : rowL (h * 2 ^ a + l) (a + b) = rowL l a ++ rowL h b := by
  rw [rowL_add, rowL_mod]
  congr 2
  rw [Nat.mul_comm, Nat.mul_add_div (Nat.two_pow_pos a), Nat.div_eq_of_lt hl, Nat.add_zero]
theorem rowL_bit : ∀ (d x : Nat), ∀ b ∈ rowL x d, b = 0 ∨ b = 1
  | 0, _, b, h => by cases h
  | d + 1, x, b, h => by
    rw [rowL] at h
    rcases List.mem_cons.1 h with rfl | h
    · omega
    · exact rowL_bit d (x / 2) b h
theorem tmod2 (x : Nat) : wrap64 (Int.tmod (x : Int) 2) = ((x % 2 : Nat) : Int) := by
  rw [Int.tmod_eq_emod_of_nonneg (by omega)]; unfold wrap64; omega
theorem tdiv2 (x : Nat) (h : x < 18446744073709551616) : IntKind.u64.wrap (Int.tdiv (x : Int) 2) = ((x / 2 : Nat) : Int) := by
  rw [Int.tdiv_eq_ediv_of_nonneg (by omega)]
  show ((x : Int) / 2) % 18446744073709551616 = _
  omega
theorem w64 {i : Int} (h0 : -9223372036854775808 ≤ i) (h : i < 9223372036854775808) : wrap64 i = i := by unfold wrap64; omega
theorem pbits_l1 (d : Nat) : ∀ (k : Nat) (acc : List Int) (x : Nat), d ≤ 64 → x < 18446744073709551616 → acc.length + d ≤ 1000 → platbookref01_Bits.l1 (k + d + 1) acc x (64 - (d : Int)) = some (acc ++ rowL x d) := by
  induction d with
  | zero => intro k acc x _ _ _; rw [platbookref01_Bits.l1, if_neg (by omega)]; simp [rowL]
  | succ d ih =>
    intro k acc x hd hx ha
    rw [show k + (d + 1) + 1 = (k + d + 1) + 1 by omega, platbookref01_Bits.l1, if_pos (by omega), if_pos (by omega), tmod2, tdiv2 x hx, w64 (by omega) (by omega), show (64 : Int) - ((d + 1 : Nat) : Int) + 1 = 64 - (d : Int) by omega, ih k _ (x / 2) (by omega) (by omega) (by simp; omega), rowL_succ x d]
    simp
theorem pbits_l0 (d : Nat) : ∀ (k : Nat) (acc : List Int) (x h : Nat), d ≤ 64 → x < 18446744073709551616 → h < 18446744073709551616 → acc.length + d + 64 ≤ 1000 → platbookref01_Bits.l0 (k + d + 66) acc x h (64 - (d : Int)) = some (acc ++ rowL x d ++ rowL h 64) := by
  induction d with
  | zero =>
    intro k acc x h _ _ hh ha
    rw [show k + 0 + 66 = (k + 64 + 1) + 1 by omega, platbookref01_Bits.l0, if_neg (by omega)]
    have := pbits_l1 64 k acc h (by omega) hh (by omega)
    rw [show (64 : Int) - ((64 : Nat) : Int) = 0 by omega] at this
    rw [this]; simp [rowL]
  | succ d ih =>
    intro k acc x h hd hx hh ha
    rw [show k + (d + 1) + 66 = (k + d + 66) + 1 by omega, platbookref01_Bits.l0, if_pos (by omega), if_pos (by omega), tmod2, tdiv2 x hx, w64 (by omega) (by omega), show (64 : Int) - ((d + 1 : Nat) : Int) + 1 = 64 - (d : Int) by omega, ih k _ (x / 2) h (by omega) (by omega) hh (by simp; omega), rowL_succ x d]
    simp
theorem pbits_f (k n : Nat) (hn : n < 340282366920938463463374607431768211456) : platbookref01_Bits.f (k + 130) (hi n) (lo n) = some (rowL n 128) := by
  unfold platbookref01_Bits.f hi lo
  have := pbits_l0 64 k [] (n % 18446744073709551616) (n / 18446744073709551616 % 18446744073709551616) (by omega) (by omega) (by omega) (by simp)
  rw [show (64 : Int) - ((64 : Nat) : Int) = 0 by omega] at this
  rw [show k + 130 = k + 64 + 66 by omega, this]
  have e := rowL_join (a := 64) (b := 64) (h := n / 18446744073709551616 % 18446744073709551616) (l := n % 18446744073709551616) (Nat.mod_lt _ (by decide))
  rw [show (2 : Nat) ^ 64 = 18446744073709551616 by decide, show n / 18446744073709551616 % 18446744073709551616 * 18446744073709551616 + n % 18446744073709551616 = n by omega] at e
  rw [List.nil_append, ← e]
/-- an address's bits, the highest one first -/
def rowT (n w : Nat) : List Int := (rowL n w).reverse
theorem prow_l0 (j : Nat) : ∀ (k : Nat) (xs acc : List Int), j ≤ xs.length → xs.length ≤ 1000 → acc.length + j ≤ 1000 → platbookref03_Row.l0 (k + j + 1) xs acc ((j : Int) - 1) = some (acc ++ (xs.take j).reverse) := by
  induction j with
  | zero => intro k xs acc _ _ _; rw [platbookref03_Row.l0, if_neg (by omega)]; simp
  | succ j ih =>
    intro k xs acc hj hx ha
    have e : rd xs (((j + 1 : Nat) : Int) - 1) = xs[j] := by
      unfold rd; rw [show ((((j + 1 : Nat) : Int) - 1)).toNat = j by omega]; simp [List.getD, List.getElem?_eq_getElem (show j < xs.length by omega)]
    rw [show k + (j + 1) + 1 = (k + j + 1) + 1 by omega, platbookref03_Row.l0, if_pos (by omega), if_pos (by omega), if_pos (by omega), if_pos (by omega), w64 (by omega) (by omega), e, show ((j + 1 : Nat) : Int) - 1 - 1 = (j : Int) - 1 by omega, ih k xs _ (by omega) hx (by simp; omega), List.take_succ_eq_append_getElem (show j < xs.length by omega), List.reverse_append]
    simp
theorem width_hl (v : Bool) (n : Nat) : platbookref02_Width.f v (hi n) (lo n) = some ((widthN v : Nat) : Int) := by
  unfold platbookref02_Width.f; rw [if_pos (by simpa using okW_hl n)]
theorem widthN_le (v : Bool) : widthN v ≤ 128 := by cases v <;> decide
theorem widthN_pos (v : Bool) : 32 ≤ widthN v := by cases v <;> decide
theorem prow_f (k : Nat) (v : Bool) (n : Nat) (hn : n < 340282366920938463463374607431768211456) : platbookref03_Row.f (k + 300) v (hi n) (lo n) = some (rowT n (widthN v)) := by
  unfold platbookref03_Row.f
  rw [show k + 300 = (k + 170) + 130 by omega, pbits_f _ n hn, width_hl]
  simp only [Option.bind_some]
  have hw := widthN_le v
  have hp := widthN_pos v
  rw [w64 (by omega) (by omega), show k + 170 + 130 = (k + 299 - widthN v) + widthN v + 1 by omega, prow_l0 _ _ _ _ (by rw [rowL_len]; exact hw) (by rw [rowL_len]; omega) (by simp; omega)]
  have e : rowL n 128 = rowL n (widthN v) ++ rowL (n / 2 ^ widthN v) (128 - widthN v) := by rw [← rowL_add]; congr 1; omega
  rw [e, List.take_left' (rowL_len _ _)]; rfl
/-- the number of a row of bits, the lowest one first -/
def valL : List Int → Nat
  | [] => 0
  | b :: r => b.toNat + 2 * valL r
theorem valL_append : ∀ (a b : List Int), valL (a ++ b) = valL a + 2 ^ a.length * valL b
  | [], b => by simp [valL]
  | x :: a, b => by rw [List.cons_append, valL, valL, valL_append a b, List.length_cons, Nat.pow_succ, Nat.mul_add]; rw [Nat.mul_comm (2 ^ a.length) 2, Nat.mul_assoc]; omega
theorem valL_lt : ∀ (a : List Int), (∀ b ∈ a, b = 0 ∨ b = 1) → valL a < 2 ^ a.length
  | [], _ => by simp [valL]
  | x :: a, h => by
    have h1 := valL_lt a (fun b hb => h b (by simp [hb]))
    have h2 := h x (by simp)
    rw [valL, List.length_cons, Nat.pow_succ]
    rcases h2 with rfl | rfl
    · simp; omega
    · simp; omega
theorem valL_row : ∀ (d x : Nat), valL (rowL x d) = x % 2 ^ d
  | 0, x => by simp [rowL, valL, Nat.mod_one]
  | d + 1, x => by
    rw [rowL, valL, valL_row d, Nat.pow_succ, Nat.mul_comm (2 ^ d) 2, Nat.mod_mul]
    omega
theorem valL_rep (d : Nat) : valL (List.replicate d 0) = 0 := by
  induction d with
  | zero => rfl
  | succ d ih => rw [List.replicate_succ, valL, ih]; rfl
theorem valL_ones (d : Nat) : valL (List.replicate d 1) = 2 ^ d - 1 := by
  induction d with
  | zero => rfl
  | succ d ih => rw [List.replicate_succ, valL, ih, Nat.pow_succ]; have := Nat.two_pow_pos d; simp; omega
theorem u64w {x : Nat} (h : x < 18446744073709551616) : IntKind.u64.wrap (x : Int) = (x : Int) := by show (x : Int) % 18446744073709551616 = _; omega
theorem pnum_l1 (j : Nat) : ∀ (k : Nat) (L : List Int) (H x : Nat), (∀ b ∈ L, b = 0 ∨ b = 1) → L.length ≤ 1000 → j ≤ 1000 → x * 2 ^ j + valL (L.take j) < 18446744073709551616 → platbookref01_Num.l1 (k + j + 1) L ((j : Int) - 1) H x = some ((H : Int), ((x * 2 ^ j + valL (L.take j) : Nat) : Int)) := by
  induction j with
  | zero => intro k L H x _ _ _ _; rw [platbookref01_Num.l1, if_neg (by omega)]; simp [valL]
  | succ j ih =>
    intro k L H x hb hl hj hx
    have hp : 2 ^ (j + 1) = 2 * 2 ^ j := by rw [Nat.pow_succ]; omega
    have hp0 := Nat.two_pow_pos j
    rw [show k + (j + 1) + 1 = (k + j + 1) + 1 by omega, platbookref01_Num.l1, if_pos (by omega)]
    by_cases h : j < L.length
    · have e : L.take (j + 1) = L.take j ++ [L[j]] := List.take_succ_eq_append_getElem h
      have hbj : L[j] = 0 ∨ L[j] = 1 := hb _ (List.getElem_mem h)
      obtain ⟨c, hc, hc2⟩ : ∃ c : Nat, L[j] = (c : Int) ∧ c ≤ 1 := by exact bit_nat hbj
      have er : rd L (((j + 1 : Nat) : Int) - 1) = (c : Int) := by
        unfold rd; rw [show ((((j + 1 : Nat) : Int) - 1)).toNat = j by omega]; simp [List.getD, List.getElem?_eq_getElem h, hc]
      have ev : valL (L.take (j + 1)) = valL (L.take j) + 2 ^ j * c := by
        rw [e, valL_append, List.length_take, Nat.min_eq_left (by omega), hc]; simp [valL]
      have e2 : x * 2 ^ (j + 1) + valL (L.take (j + 1)) = (2 * x + c) * 2 ^ j + valL (L.take j) := by
        rw [ev, hp, Nat.add_mul, Nat.mul_comm (2 ^ j) c, ← Nat.mul_assoc, Nat.mul_comm x 2]; omega
      rw [e2] at hx ⊢
      have hx2 : (2 * x + c) * 1 ≤ (2 * x + c) * 2 ^ j := Nat.mul_le_mul_left _ hp0
      rw [if_pos (by omega), if_pos (by omega), er, w64 (by omega) (by omega), show ((x : Int) * 2) = ((2 * x : Nat) : Int) by omega, u64w (x := 2 * x) (by omega), u64w (x := c) (by omega), show ((2 * x : Nat) : Int) + (c : Int) = ((2 * x + c : Nat) : Int) by omega, u64w (by omega), show ((j + 1 : Nat) : Int) - 1 - 1 = (j : Int) - 1 by omega]
      exact ih k L H (2 * x + c) hb hl (by omega) hx
    · have e : L.take (j + 1) = L.take j := by rw [List.take_of_length_le (by omega), List.take_of_length_le (by omega)]
      have e2 : x * 2 ^ (j + 1) + valL (L.take (j + 1)) = (2 * x) * 2 ^ j + valL (L.take j) := by
        rw [e, hp, ← Nat.mul_assoc, Nat.mul_comm x 2]
      rw [e2] at hx ⊢
      have hx2 : (2 * x) * 1 ≤ (2 * x) * 2 ^ j := Nat.mul_le_mul_left _ hp0
      rw [if_neg (by omega), w64 (by omega) (by omega), show ((x : Int) * 2) = ((2 * x : Nat) : Int) by omega, u64w (by omega), show ((j + 1 : Nat) : Int) - 1 - 1 = (j : Int) - 1 by omega]
      exact ih k L H (2 * x) hb hl (by omega) hx
theorem pnum_l0 (j : Nat) : ∀ (k : Nat) (L : List Int) (x : Nat), (∀ b ∈ L, b = 0 ∨ b = 1) → L.length ≤ 1000 → j ≤ 64 → x * 2 ^ j + valL ((L.drop 64).take j) < 18446744073709551616 → platbookref01_Num.l0 (k + j + 66) L (64 + (j : Int) - 1) x 0 = some (((x * 2 ^ j + valL ((L.drop 64).take j) : Nat) : Int), ((valL (L.take 64) : Nat) : Int)) := by
  induction j with
  | zero =>
    intro k L x hb hl _ _
    rw [show k + 0 + 66 = (k + 64 + 1) + 1 by omega, platbookref01_Num.l0, if_neg (by omega)]
    have hv : valL (L.take 64) < 2 ^ 64 := Nat.lt_of_lt_of_le (valL_lt _ (fun b h => hb b (List.mem_of_mem_take h))) (Nat.pow_le_pow_right (by omega) (by rw [List.length_take]; omega))
    have := pnum_l1 64 k L x 0 hb hl (by omega) (by rw [Nat.zero_mul, Nat.zero_add]; exact hv)
    rw [show ((64 : Nat) : Int) - 1 = 63 by omega, show k + 64 + 1 = k + 65 from rfl, show ((0 : Nat) : Int) = 0 from rfl] at this
    rw [this]; simp [valL]
  | succ j ih =>
    intro k L x hb hl hj hx
    have hp : 2 ^ (j + 1) = 2 * 2 ^ j := by rw [Nat.pow_succ]; omega
    have hp0 := Nat.two_pow_pos j
    rw [show k + (j + 1) + 66 = (k + j + 66) + 1 by omega, platbookref01_Num.l0, if_pos (by omega)]
    by_cases h : 64 + j < L.length
    · have hd : j < (L.drop 64).length := by rw [List.length_drop]; omega
      have e : (L.drop 64).take (j + 1) = (L.drop 64).take j ++ [L[64 + j]] := by rw [List.take_succ_eq_append_getElem hd, List.getElem_drop]
      have hbj : L[64 + j] = 0 ∨ L[64 + j] = 1 := hb _ (List.getElem_mem h)
      obtain ⟨c, hc, hc2⟩ : ∃ c : Nat, L[64 + j] = (c : Int) ∧ c ≤ 1 := by exact bit_nat hbj
      have er : rd L (64 + ((j + 1 : Nat) : Int) - 1) = (c : Int) := by
        unfold rd; rw [show (64 + ((j + 1 : Nat) : Int) - 1).toNat = 64 + j by omega]; simp [List.getD, List.getElem?_eq_getElem h, hc]
      have ev : valL ((L.drop 64).take (j + 1)) = valL ((L.drop 64).take j) + 2 ^ j * c := by
        rw [e, valL_append, List.length_take, Nat.min_eq_left (by omega), hc]; simp [valL]
      have e2 : x * 2 ^ (j + 1) + valL ((L.drop 64).take (j + 1)) = (2 * x + c) * 2 ^ j + valL ((L.drop 64).take j) := by
        rw [ev, hp, Nat.add_mul, Nat.mul_comm (2 ^ j) c, ← Nat.mul_assoc, Nat.mul_comm x 2]; omega
      rw [e2] at hx ⊢
      have hx2 : (2 * x + c) * 1 ≤ (2 * x + c) * 2 ^ j := Nat.mul_le_mul_left _ hp0
      rw [if_pos (by omega), if_pos (by omega), er, w64 (by omega) (by omega), show ((x : Int) * 2) = ((2 * x : Nat) : Int) by omega, u64w (x := 2 * x) (by omega), u64w (x := c) (by omega), show ((2 * x : Nat) : Int) + (c : Int) = ((2 * x + c : Nat) : Int) by omega, u64w (by omega), show 64 + ((j + 1 : Nat) : Int) - 1 - 1 = 64 + (j : Int) - 1 by omega]
      exact ih k L (2 * x + c) hb hl (by omega) hx
    · have hd : (L.drop 64).length ≤ j := by rw [List.length_drop]; omega
      have e : (L.drop 64).take (j + 1) = (L.drop 64).take j := by rw [List.take_of_length_le (by omega), List.take_of_length_le (by omega)]
      have e2 : x * 2 ^ (j + 1) + valL ((L.drop 64).take (j + 1)) = (2 * x) * 2 ^ j + valL ((L.drop 64).take j) := by
        rw [e, hp, ← Nat.mul_assoc, Nat.mul_comm x 2]
      rw [e2] at hx ⊢
      have hx2 : (2 * x) * 1 ≤ (2 * x) * 2 ^ j := Nat.mul_le_mul_left _ hp0
      rw [if_neg (by omega), w64 (by omega) (by omega), show ((x : Int) * 2) = ((2 * x : Nat) : Int) by omega, u64w (by omega), show 64 + ((j + 1 : Nat) : Int) - 1 - 1 = 64 + (j : Int) - 1 by omega]
      exact ih k L (2 * x) hb hl (by omega) hx
theorem pnum_f (k : Nat) (L : List Int) (hb : ∀ b ∈ L, b = 0 ∨ b = 1) (hl : L.length ≤ 128) : platbookref01_Num.f (k + 130) L = some (hi (valL L), lo (valL L)) := by
  unfold platbookref01_Num.f
  have hbd : ∀ b ∈ L.drop 64, b = 0 ∨ b = 1 := fun b h => hb b (List.mem_of_mem_drop h)
  have hv : valL (L.drop 64) < 2 ^ 64 := Nat.lt_of_lt_of_le (valL_lt _ hbd) (Nat.pow_le_pow_right (by omega) (by rw [List.length_drop]; omega))
  have ht : (L.drop 64).take 64 = L.drop 64 := List.take_of_length_le (by rw [List.length_drop]; omega)
  have := pnum_l0 64 k L 0 hb (by omega) (by omega) (by rw [Nat.zero_mul, Nat.zero_add, ht]; exact hv)
  rw [show (64 : Int) + ((64 : Nat) : Int) - 1 = 127 by omega, Nat.zero_mul, Nat.zero_add, ht] at this
  rw [show k + 130 = k + 64 + 66 by omega]
  rw [show ((0 : Nat) : Int) = 0 from rfl] at this
  rw [this]
  have hlo : valL (L.take 64) < 2 ^ 64 := Nat.lt_of_lt_of_le (valL_lt _ (fun b h => hb b (List.mem_of_mem_take h))) (Nat.pow_le_pow_right (by omega) (by rw [List.length_take]; omega))
  have e : valL L = valL (L.take 64) + 2 ^ (L.take 64).length * valL (L.drop 64) := by rw [← valL_append, List.take_append_drop]
  have e2 : valL L = valL (L.take 64) + 18446744073709551616 * valL (L.drop 64) := by
    by_cases h : 64 ≤ L.length
    · rw [e, List.length_take, Nat.min_eq_left h]
    · have : L.drop 64 = [] := List.drop_eq_nil_of_le (by omega)
      rw [e, this]; simp [valL]
  rw [show (2 : Nat) ^ 64 = 18446744073709551616 by decide] at hv hlo
  unfold hi lo
  rw [show valL L / 18446744073709551616 % 18446744073709551616 = valL (L.drop 64) by omega, show valL L % 18446744073709551616 = valL (L.take 64) by omega]
theorem paddr_l0 (j : Nat) : ∀ (k : Nat) (v : Bool) (xs acc : List Int), j ≤ xs.length → xs.length ≤ 128 → acc.length + j ≤ 128 → (∀ b ∈ xs, b = 0 ∨ b = 1) → (∀ b ∈ acc, b = 0 ∨ b = 1) → platbookref03_Addr.l0 (k + j + 131) v xs acc ((j : Int) - 1) = some (v, hi (valL (acc ++ (xs.take j).reverse)), lo (valL (acc ++ (xs.take j).reverse))) := by
  induction j with
  | zero =>
    intro k v xs acc _ _ ha hb1 hb2
    rw [show k + 0 + 131 = (k + 130) + 1 by omega, platbookref03_Addr.l0, if_neg (by omega), pnum_f k acc hb2 (by omega)]
    simp
  | succ j ih =>
    intro k v xs acc hj hx ha hb1 hb2
    have e : rd xs (((j + 1 : Nat) : Int) - 1) = xs[j] := by
      unfold rd; rw [show ((((j + 1 : Nat) : Int) - 1)).toNat = j by omega]; simp [List.getD, List.getElem?_eq_getElem (show j < xs.length by omega)]
    rw [show k + (j + 1) + 131 = (k + j + 131) + 1 by omega, platbookref03_Addr.l0, if_pos (by omega), if_pos (by omega), if_pos (by omega), if_pos (by omega), w64 (by omega) (by omega), e, show ((j + 1 : Nat) : Int) - 1 - 1 = (j : Int) - 1 by omega, ih k v xs _ (by omega) hx (by simp; omega) hb1 (by
      intro b h
      rcases List.mem_append.1 h with h | h
      · exact hb2 b h
      · rw [List.mem_singleton] at h; subst h; exact hb1 _ (List.getElem_mem _)), List.take_succ_eq_append_getElem (show j < xs.length by omega), List.reverse_append]
    simp
theorem paddr_f (k : Nat) (v : Bool) (xs : List Int) (hx : xs.length ≤ 128) (hb : ∀ b ∈ xs, b = 0 ∨ b = 1) : platbookref03_Addr.f (k + 300) v xs = some (v, hi (valL xs.reverse), lo (valL xs.reverse)) := by
  unfold platbookref03_Addr.f
  rw [w64 (by omega) (by omega), show k + 300 = (k + 169 - xs.length) + xs.length + 131 by omega, paddr_l0 _ _ _ _ _ (Nat.le_refl _) hx (by simpa using hx) hb (by simp)]
  simp
theorem pfilled_l0 (d : Nat) : ∀ (k i : Nat) (bit : Int) (xs : List Int) (v : Bool) (h l : Int), i + d = xs.length → xs.length ≤ 128 → (∀ b ∈ xs, b = 0 ∨ b = 1) → (bit = 0 ∨ bit = 1) → platbookref03_Filled.l0 (k + d + 301) bit xs i v h l = some (v, hi (valL (xs.take i ++ List.replicate d bit).reverse), lo (valL (xs.take i ++ List.replicate d bit).reverse)) := by
  induction d with
  | zero =>
    intro k i bit xs v h l hi hx hb _
    rw [show k + 0 + 301 = (k + 300) + 1 by omega, platbookref03_Filled.l0, if_neg (by omega), paddr_f k v xs hx hb, List.take_of_length_le (by omega)]
    simp
  | succ d ih =>
    intro k i bit xs v h l hi hx hb hbit
    rw [show k + (d + 1) + 301 = (k + d + 301) + 1 by omega, platbookref03_Filled.l0, if_pos (by omega), if_pos (by omega), w64 (by omega) (by omega), show ((i : Int)).toNat = i by omega, show (i : Int) + 1 = ((i + 1 : Nat) : Int) by omega, ih k (i + 1) bit (xs.set i bit) v h l (by rw [List.length_set]; omega) (by rw [List.length_set]; omega) (by
      intro b h
      rcases List.mem_or_eq_of_mem_set h with h | rfl
      · exact hb b h
      · exact hbit) hbit]
    have e : (xs.set i bit).take (i + 1) = xs.take i ++ [bit] := by
      rw [List.take_succ_eq_append_getElem (by rw [List.length_set]; omega), List.getElem_set_self, List.take_set_of_le (Nat.le_refl _)]
    rw [e, List.append_assoc, List.replicate_succ]; rfl
theorem rowT_len (n w : Nat) : (rowT n w).length = w := by unfold rowT; rw [List.length_reverse, rowL_len]
theorem pfilled_f (k : Nat) (v : Bool) (n : Nat) (i : Nat) (bit : Int) (hn : n < 340282366920938463463374607431768211456) (hi' : i ≤ widthN v) (hbit : bit = 0 ∨ bit = 1) : platbookref03_Filled.f (k + 500) v (hi n) (lo n) i bit = some (v, hi (n / 2 ^ (widthN v - i) % 2 ^ i * 2 ^ (widthN v - i) + bit.toNat * (2 ^ (widthN v - i) - 1)), lo (n / 2 ^ (widthN v - i) % 2 ^ i * 2 ^ (widthN v - i) + bit.toNat * (2 ^ (widthN v - i) - 1))) := by
  unfold platbookref03_Filled.f
  have hw := widthN_le v
  rw [show k + 500 = (k + 200) + 300 by omega, prow_f _ v n hn]
  simp only [Option.bind_some]
  rw [show k + 200 + 300 = (k + 199 - (widthN v - i)) + (widthN v - i) + 301 by omega, pfilled_l0 (widthN v - i) _ i bit _ v _ _ (by rw [rowT_len]; omega) (by rw [rowT_len]; omega) (by intro b h; unfold rowT at h; rw [List.mem_reverse] at h; exact rowL_bit _ _ b h) hbit]
  have e : valL ((rowT n (widthN v)).take i ++ List.replicate (widthN v - i) bit).reverse = n / 2 ^ (widthN v - i) % 2 ^ i * 2 ^ (widthN v - i) + bit.toNat * (2 ^ (widthN v - i) - 1) := by
    rw [List.reverse_append, List.reverse_replicate, valL_append, List.length_replicate]
    have e1 : ((rowT n (widthN v)).take i).reverse = rowL (n / 2 ^ (widthN v - i)) i := by
      unfold rowT
      rw [show widthN v = (widthN v - i) + i by omega, rowL_add, List.reverse_append, List.take_left' (by rw [List.length_reverse, rowL_len]), List.reverse_reverse]
      rw [show widthN v - i + i - i = widthN v - i by omega]
    have e2 : valL (List.replicate (widthN v - i) bit) = bit.toNat * (2 ^ (widthN v - i) - 1) := by
      rcases hbit with rfl | rfl
      · rw [valL_rep]; simp
      · rw [valL_ones]; simp
    rw [e1, valL_row, e2, Nat.mul_comm (2 ^ (widthN v - i))]
    omega
  rw [e]
end Go.Proofs.YtgdgklibilddgaaGreatDoor

namespace Go.Proofs.YtgdgklibilddgaaGreatDoor
open Go.RowKit Go.Proofs.YtgdgklibilddgaaGreatDoorW.PrintWords Go.Proofs.YtgdgklibilddgaaGreatDoor.PPt

/-- as a rewriting step, not by computation -/
theorem bsome {α β : Type} (x : α) (f : α → Option β) : (some x).bind f = f x := by
  have h : ∀ y : Option α, y = some x → y.bind f = f x := by intro y hy; subst hy; rfl
  exact h _ rfl
theorem rright02_hl (v : Bool) {n : Nat} (hn : n < 340282366920938463463374607431768211456) : platbookref02_Right.f v (hi n) (lo n) = some (rightB v n) := by
  unfold platbookref02_Right.f; rw [if_pos (okW_hl n), num_hi_lo hn]
theorem pright_hl (v : Bool) {n : Nat} (b : Int) (hn : n < 340282366920938463463374607431768211456) : prefix_Right.f v (hi n) (lo n) b = some (rightP v n b) := by
  unfold prefix_Right.f; rw [if_pos (okW_hl n), num_hi_lo hn]
theorem hl_eq {a b : Nat} (ha : a < 340282366920938463463374607431768211456) (hb : b < 340282366920938463463374607431768211456) : (hi a == hi b && lo a == lo b) = (a == b) := by
  rw [Bool.eq_iff_iff]; simp only [Bool.and_eq_true, beq_iff_eq]; exact hi_lo_eq ha hb
theorem rightB_iff {v : Bool} {n : Nat} : rightB v n = true ↔ n < 2 ^ widthN v := by unfold rightB; simp
theorem top_lt {f n : Nat} (hn : n < 340282366920938463463374607431768211456) : topN f n < 340282366920938463463374607431768211456 := Nat.lt_of_le_of_lt (topN_le f n) hn
/-- without the bits behind: the reference's way -/
theorem top_ref {v : Bool} {n i : Nat} (hn : n < 2 ^ widthN v) (hi : i ≤ widthN v) : n / 2 ^ (widthN v - i) % 2 ^ i * 2 ^ (widthN v - i) = topN (widthN v - i) n := by
  unfold topN
  rw [Nat.mod_eq_of_lt]
  rw [Nat.div_lt_iff_lt_mul (Nat.two_pow_pos _), ← Nat.pow_add, show i + (widthN v - i) = widthN v by omega]; exact hn
def tup5 (x : Bool × Nat × Int × Int) : Bool × Int × Int × Int × Int := (x.1, hi x.2.1, lo x.2.1, x.2.2.1, x.2.2.2)
theorem rrightP_f (K : Nat) (hK : 600 ≤ K) (v : Bool) (n : Nat) (b : Int) (hn : n < 340282366920938463463374607431768211456) : platbookref03_Right.f K v (hi n) (lo n) b = some (rightP v n b) := by
  obtain ⟨k, rfl⟩ : ∃ k, K = k + 500 := ⟨K - 500, by omega⟩
  unfold platbookref03_Right.f
  rw [rright02_hl v hn]
  simp only [bsome]
  unfold rightP
  cases hr : rightB v n
  · rw [if_neg (by simp)]; rfl
  · rw [if_pos rfl]
    by_cases h0 : b < 0
    · rw [if_pos h0, decide_eq_false (by omega)]; rfl
    · rw [if_neg h0, width_hl, decide_eq_true (show 0 ≤ b by omega)]
      simp only [bsome]
      by_cases h1 : b ≤ (widthN v : Int)
      · rw [if_neg (by omega), decide_eq_true h1]
        obtain ⟨i, rfl⟩ := Int.eq_ofNat_of_zero_le (show 0 ≤ b by omega)
        rw [pfilled_f k v n i 0 hn (by omega) (.inl rfl), top_ref (rightB_iff.1 hr) (by omega)]
        have e : fr v (i : Int) = widthN v - i := by unfold fr; omega
        simp only [bsome, Int.toNat_zero, Nat.zero_mul, Nat.add_zero]
        rw [hl_eq (top_lt hn) hn, e]
        simp only [beq_self_eq_true, Bool.true_and, Option.some.injEq]
        rw [Bool.eq_iff_iff]; simp [topN_eq]
      · rw [if_pos (by omega), decide_eq_false h1]; rfl
end Go.Proofs.YtgdgklibilddgaaGreatDoor

namespace Go.Proofs.YtgdgklibilddgaaGreatDoor
open Go.RowKit

/-- what is printed is read as it was -/
theorem parse_printA {v : Bool} {n : Nat} (hn : n < 340282366920938463463374607431768211456) (hr : rightB v n = true) : parseA (printA v n) = some (v, n) := by
  unfold printA
  rw [if_pos hr]
  cases v
  · rw [if_neg (by simp)]; exact parse_print4 (right_false hr)
  · rw [if_pos rfl, parse_long (grps_len n) (fun g hg => grps_lt hg), valG_grps hn]
theorem printA_len (v : Bool) (n : Nat) : (printA v n).length ≤ 1000 := by
  unfold printA
  split
  · split
    · rw [← print_alike (grps_len n)]
      exact Nat.le_trans (preT_len (grps_len n)) (by omega)
    · unfold print4
      have := join_len (c := [46]) (m := 3) (l := (bytesB 4 n).map Lib.decDigits) (fun p hp => by
        obtain ⟨x, hx, rfl⟩ := List.mem_map.1 hp
        exact (by decide +kernel : ∀ x, x < 256 → (Lib.decDigits x).length ≤ 3) x (bytesB_lt hx))
      rw [List.length_map, bytesB_len] at this
      refine Nat.le_trans this ?_
      simp
  · simp
theorem dec_no47 : ∀ k, k < 256 → (47 : UInt8) ∉ Lib.decDigits k := by decide +kernel
theorem hexC_no47 : ∀ d, d < 16 → hexC d ≠ 47 := by decide
theorem joinH_no47 {G : List Nat} (h : ∀ g ∈ G, g < 65536) : (47 : UInt8) ∉ joinH G := by
  intro hm
  unfold joinH at hm
  rcases mem_join hm with h1 | ⟨p, hp, hx⟩
  · cases h1
  · obtain ⟨g, hg, rfl⟩ := List.mem_map.1 hp
    obtain ⟨d, hd, e⟩ := hexD_mem (h g hg) hx
    exact hexC_no47 d hd e.symm
theorem printA_no47 (v : Bool) (n : Nat) : (47 : UInt8) ∉ printA v n := by
  intro hm
  unfold printA at hm
  split at hm
  · split at hm
    · unfold print6 at hm
      have hg : ∀ g ∈ grps n, g < 65536 := fun g hg => grps_lt hg
      split at hm
      · exact joinH_no47 hg hm
      · rw [List.mem_append, List.mem_cons, List.mem_cons] at hm
        rcases hm with hm | hm | hm | hm
        · exact joinH_no47 (fun g h => hg g (List.mem_of_mem_take h)) hm
        · cases hm
        · cases hm
        · exact joinH_no47 (fun g h => hg g (List.mem_of_mem_drop h)) hm
    · unfold print4 at hm
      rcases mem_join hm with h1 | ⟨p, hp, hx⟩
      · cases h1
      · obtain ⟨g, hg, rfl⟩ := List.mem_map.1 hp
        exact dec_no47 g (bytesB_lt hg) hx
  · cases hm
def dg (a : UInt8) : Bool := decide (48 ≤ a.toNat) && decide (a.toNat ≤ 57)
def dv (a : UInt8) : Nat := a.toNat - 48
def decP : List UInt8 → Option Nat
  | [a] => if dg a = true then some (dv a) else none
  | [a, b] => if (dg a && dg b && a != 48) = true then some (10 * dv a + dv b) else none
  | [a, b, c] => if (dg a && dg b && dg c && a != 48) = true then some (100 * dv a + 10 * dv b + dv c) else none
  | _ => none
theorem dg_at {a : UInt8} (h : dg a = true) : ∃ x, x < 10 ∧ a = UInt8.ofNat (48 + x) ∧ dv a = x := by
  unfold dg at h
  simp only [Bool.and_eq_true, decide_eq_true_iff] at h
  refine ⟨a.toNat - 48, by omega, ?_, rfl⟩
  rw [show 48 + (a.toNat - 48) = a.toNat by omega]
  exact UInt8.ofNat_toNat.symm
theorem dec1 : ∀ x, x < 10 → Lib.decDigits x = [UInt8.ofNat (48 + x)] := by decide +kernel
theorem dec2 : ∀ x, x < 10 → ∀ y, y < 10 → UInt8.ofNat (48 + x) ≠ 48 → Lib.decDigits (10 * x + y) = [UInt8.ofNat (48 + x), UInt8.ofNat (48 + y)] := by decide +kernel
theorem dec3 : ∀ x, x < 10 → ∀ y, y < 10 → ∀ z, z < 10 → UInt8.ofNat (48 + x) ≠ 48 → Lib.decDigits (100 * x + 10 * y + z) = [UInt8.ofNat (48 + x), UInt8.ofNat (48 + y), UInt8.ofNat (48 + z)] := by decide +kernel
theorem dec_back : ∀ k, k < 129 → decP (Lib.decDigits k) = some k := by decide +kernel
theorem atoi_back : ∀ k, k < 1000 → atoiP (Lib.decDigits k) = some (k : Int) := by decide +kernel
theorem decP_some {w : List UInt8} {k : Nat} (h : decP w = some k) : k < 1000 ∧ Lib.decDigits k = w := by
  unfold decP at h
  split at h
  · split at h
    · rename_i a ha
      obtain ⟨x, hx, rfl, e⟩ := dg_at ha
      rw [e] at h
      injection h with h; subst h
      exact ⟨by omega, dec1 x hx⟩
    · cases h
  · split at h
    · rename_i a b hab
      simp only [Bool.and_eq_true, bne_iff_ne] at hab
      obtain ⟨⟨ha, hb⟩, h0⟩ := hab
      obtain ⟨x, hx, rfl, e⟩ := dg_at ha
      obtain ⟨y, hy, rfl, f⟩ := dg_at hb
      rw [e, f] at h
      injection h with h; subst h
      exact ⟨by omega, dec2 x hx y hy h0⟩
    · cases h
  · split at h
    · rename_i a b c hab
      simp only [Bool.and_eq_true, bne_iff_ne] at hab
      obtain ⟨⟨⟨ha, hb⟩, hc⟩, h0⟩ := hab
      obtain ⟨x, hx, rfl, e⟩ := dg_at ha
      obtain ⟨y, hy, rfl, f⟩ := dg_at hb
      obtain ⟨z, hz, rfl, g⟩ := dg_at hc
      rw [e, f, g] at h
      injection h with h; subst h
      exact ⟨by omega, dec3 x hx y hy z hz h0⟩
    · cases h
  · cases h
/-- the prefix of a text, the reference's way -/
def parseR (p w : List UInt8) : Option (Bool × Nat × Int) :=
  match parseA p, decP w with
  | some (v, n), some k => if rightP v n (k : Int) = true then some (v, n, (k : Int)) else none
  | _, _ => none
theorem right_le {v : Bool} {n : Nat} {k : Int} (h : rightP v n k = true) : 0 ≤ k ∧ k ≤ 128 := by
  unfold rightP at h
  simp only [Bool.and_eq_true, decide_eq_true_iff] at h
  have : widthN v ≤ 128 := by cases v <;> decide
  omega
theorem parse_alike (l : List UInt8) : parsePfx l = parseR (Lib.cut l [47]).1 (Lib.cut l [47]).2.1 := by
  unfold parsePfx parseR
  generalize (Lib.cut l [47]).1 = p
  generalize (Lib.cut l [47]).2.1 = w
  cases hp : parseA p with
  | none => rfl
  | some x =>
    obtain ⟨v, n⟩ := x
    cases hd : decP w with
    | some k =>
      obtain ⟨hk, rfl⟩ := decP_some hd
      rw [atoi_back k hk]
      simp only [Lib.itoa_nonneg, beq_self_eq_true, Bool.true_and]
    | none =>
      cases ha : atoiP w with
      | none => rfl
      | some k =>
        simp only
        refine if_neg fun h => ?_
        rw [Bool.and_eq_true, beq_iff_eq] at h
        obtain ⟨h1, h2⟩ := h
        have h3 := right_le h2
        obtain ⟨i, rfl⟩ := Int.eq_ofNat_of_zero_le h3.1
        rw [Lib.itoa_nonneg] at h1
        rw [← h1, dec_back i (by omega)] at hd
        cases hd
end Go.Proofs.YtgdgklibilddgaaGreatDoor

namespace Go.Proofs.YtgdgklibilddgaaGreatDoor
open Go.RowKit Go.Proofs.YtgdgklibilddgaaGreatDoorW.PrintWords Go.Proofs.YtgdgklibilddgaaGreatDoor.PPt

theorem btl (s : ByteArray) : (bts s).length = s.size := by simp [bts]
theorem bts_tail {s : ByteArray} {x : Nat} : bts (s.extract x s.size) = (bts s).drop x := by
  unfold bts; rw [ByteArray.data_extract, Array.toList_extract, List.extract_eq_take_drop]; exact List.take_of_length_le (by rw [List.length_drop, Array.length_toList]; exact Nat.le_refl _)
theorem bts_head {s : ByteArray} {x : Nat} : bts (s.extract 0 x) = (bts s).take x := by
  unfold bts; rw [ByteArray.data_extract, Array.toList_extract, List.extract_eq_take_drop, List.drop_zero, Nat.sub_zero]
theorem bt_nat {s : ByteArray} {i : Nat} (h : i < s.size) : bt s (i : Int) = ((s[i]'h).toNat : Int) := by unfold bt; simp [h]
theorem drop_here {s : ByteArray} {i : Nat} (h : i < s.size) : (bts s).drop i = s[i]'h :: (bts s).drop (i + 1) := by
  rw [List.drop_eq_getElem_cons (by rw [btl]; exact h)]; rfl
theorem bt_drop {s : ByteArray} {i : Nat} {b : UInt8} {r : List UInt8} (h : (bts s).drop i = b :: r) : bt s (i : Int) = (b.toNat : Int) ∧ i < s.size ∧ (bts s).drop (i + 1) = r := by
  have hi' : i < s.size := by
    refine Classical.byContradiction fun hn => ?_
    rw [List.drop_eq_nil_of_le (by rw [btl]; omega)] at h; cases h
  rw [drop_here hi'] at h
  injection h with h1 h2
  exact ⟨by rw [bt_nat hi', h1], hi', h2⟩
theorem u47 {b : UInt8} : (b.toNat : Int) = 47 ↔ b = 47 := by
  constructor
  · intro h; exact UInt8.toNat_inj.1 (by show b.toNat = 47; omega)
  · rintro rfl; rfl
theorem u48 {b : UInt8} : ((b.toNat : Int) == 48) = (b == 48) := by
  rw [Bool.eq_iff_iff, beq_iff_eq, beq_iff_eq]
  constructor
  · intro h; exact UInt8.toNat_inj.1 (by show b.toNat = 48; omega)
  · rintro rfl; rfl
theorem scan2 (d : Nat) : ∀ (K i j : Nat) (s : ByteArray), i + d = s.size → s.size ≤ 1000 → (47 : UInt8) ∈ (bts s).drop i → platbookref03_Parse.l0 (K + d + 1) s (j : Int) (i : Int) = some (false, 0, 0, 0, 4) := by
  induction d with
  | zero =>
    intro K i j s h hs hm
    rw [List.drop_eq_nil_of_le (by rw [btl]; omega)] at hm; cases hm
  | succ d ih =>
    intro K i j s h hs hm
    have hi' : i < s.size := by omega
    rw [drop_here hi'] at hm
    rw [show K + (d + 1) + 1 = (K + d + 1) + 1 by omega, platbookref03_Parse.l0, if_pos (by omega), if_pos (by omega), bt_nat hi']
    by_cases hb : s[i]'hi' = 47
    · rw [if_pos (u47.2 hb), if_pos (by omega)]
    · rw [if_neg (fun e => hb (u47.1 e)), w64 (by omega) (by omega), show (i : Int) + 1 = ((i + 1 : Nat) : Int) by omega]
      refine ih K (i + 1) j s (by omega) hs ?_
      rcases List.mem_cons.1 hm with e | e
      · exact absurd e.symm hb
      · exact e
theorem scan3 (d : Nat) : ∀ (K i j : Nat) (s : ByteArray), i + d = s.size → s.size ≤ 1000 → (47 : UInt8) ∉ (bts s).drop i → platbookref03_Parse.l0 (K + d) s (j : Int) (i : Int) = platbookref03_Parse.l0 K s (j : Int) (s.size : Int) := by
  induction d with
  | zero => intro K i j s h hs hm; rw [← h, Nat.add_zero, Nat.add_zero]
  | succ d ih =>
    intro K i j s h hs hm
    have hi' : i < s.size := by omega
    rw [drop_here hi', List.mem_cons, not_or] at hm
    rw [show K + (d + 1) = (K + d) + 1 by omega, platbookref03_Parse.l0, if_pos (by omega), if_pos (by omega), bt_nat hi', if_neg (fun e => hm.1 (u47.1 e).symm), w64 (by omega) (by omega), show (i : Int) + 1 = ((i + 1 : Nat) : Int) by omega]
    exact ih K (i + 1) j s (by omega) hs hm.2
theorem scan0 (d : Nat) : ∀ (K i : Nat) (s : ByteArray), i + d = s.size → s.size ≤ 1000 → (47 : UInt8) ∉ (bts s).drop i → platbookref03_Parse.l0 (K + d + 1) s (-1) (i : Int) = some (false, 0, 0, 0, 4) := by
  induction d with
  | zero => intro K i s h hs hm; rw [Nat.add_zero, platbookref03_Parse.l0, if_neg (by omega), if_pos (by omega)]
  | succ d ih =>
    intro K i s h hs hm
    have hi' : i < s.size := by omega
    rw [drop_here hi', List.mem_cons, not_or] at hm
    rw [show K + (d + 1) + 1 = (K + d + 1) + 1 by omega, platbookref03_Parse.l0, if_pos (by omega), if_pos (by omega), bt_nat hi', if_neg (fun e => hm.1 (u47.1 e).symm), w64 (by omega) (by omega), show (i : Int) + 1 = ((i + 1 : Nat) : Int) by omega]
    exact ih K (i + 1) s (by omega) hs hm.2
theorem scan1 (r : List UInt8) : ∀ (p : List UInt8) (K i : Nat) (s : ByteArray), s.size ≤ 1000 → (bts s).drop i = p ++ 47 :: r → (47 : UInt8) ∉ p → platbookref03_Parse.l0 (K + p.length + 1) s (-1) (i : Int) = platbookref03_Parse.l0 K s ((i + p.length : Nat) : Int) ((i + p.length + 1 : Nat) : Int)
  | [], K, i, s, hs, h, _ => by
    obtain ⟨h1, h2, _⟩ := bt_drop h
    simp only [List.length_nil, Nat.add_zero]
    rw [platbookref03_Parse.l0, if_pos (by omega), if_pos (by omega), h1, if_pos (u47.2 rfl), if_neg (by omega), w64 (by omega) (by omega), show (i : Int) + 1 = ((i + 1 : Nat) : Int) by omega]
  | b :: p, K, i, s, hs, h, hp => by
    obtain ⟨h1, h2, h3⟩ := bt_drop h
    rw [List.mem_cons, not_or] at hp
    rw [List.length_cons, show K + (p.length + 1) + 1 = (K + p.length + 1) + 1 by omega, platbookref03_Parse.l0, if_pos (by omega), if_pos (by omega), h1, if_neg (fun e => hp.1 (u47.1 e).symm), w64 (by omega) (by omega), show (i : Int) + 1 = ((i + 1 : Nat) : Int) by omega, scan1 r p K (i + 1) s hs h3 hp.2, show i + 1 + p.length = i + (p.length + 1) by omega]
theorem l1_no {w : ByteArray} {i : Nat} {b : UInt8} {r : List UInt8} (h : (bts w).drop i = b :: r) (hd : dg b = false) (k : Nat) (x : Int) (v : Bool) (y z : Int) : platbookref03_Parse.l1 (k + 1) w x (i : Int) v y z = some (false, 0, 0, 0, 4) := by
  obtain ⟨h1, h2, _⟩ := bt_drop h
  unfold dg at hd
  rw [platbookref03_Parse.l1, if_pos (by omega), if_pos (by omega), h1]
  by_cases h3 : (b.toNat : Int) < 48
  · rw [if_pos h3]
  · rw [if_neg h3]
    by_cases h4 : (b.toNat : Int) > 57
    · rw [if_pos h4]
    · rw [decide_eq_true (by omega), decide_eq_true (by omega)] at hd; cases hd
theorem l1_yes {w : ByteArray} {i : Nat} {b : UInt8} {r : List UInt8} (h : (bts w).drop i = b :: r) (hd : dg b = true) (k x : Nat) (hx : x ≤ 1000) (hi' : i ≤ 1000) (v : Bool) (y z : Int) : platbookref03_Parse.l1 (k + 1) w (x : Int) (i : Int) v y z = platbookref03_Parse.l1 k w ((10 * x + dv b : Nat) : Int) ((i + 1 : Nat) : Int) v y z := by
  obtain ⟨h1, h2, _⟩ := bt_drop h
  unfold dg at hd
  simp only [Bool.and_eq_true, decide_eq_true_iff] at hd
  rw [platbookref03_Parse.l1, if_pos (by omega), if_pos (by omega), h1, if_neg (by omega), if_neg (by omega), w64 (i := 10 * (x : Int)) (by omega) (by omega), w64 (i := (b.toNat : Int)) (by omega) (by omega), w64 (i := 10 * (x : Int) + (b.toNat : Int)) (by omega) (by omega), w64 (i := 10 * (x : Int) + (b.toNat : Int) - 48) (by omega) (by omega), w64 (i := (i : Int) + 1) (by omega) (by omega)]
  congr 1
  · unfold dv; omega
def outR (v : Bool) (n : Nat) (x : Nat) : Bool × Nat × Int × Int := if rightP v n (x : Int) = true then (v, n, (x : Int), 0) else (false, 0, 0, 4)
theorem l1_end {w : ByteArray} {i : Nat} (h : i = w.size) (k x : Nat) (hk : 600 ≤ k) (v : Bool) (n : Nat) (hn : n < 340282366920938463463374607431768211456) : platbookref03_Parse.l1 (k + 1) w (x : Int) (i : Int) v (hi n) (lo n) = some (tup5 (outR v n x)) := by
  rw [platbookref03_Parse.l1, if_neg (by omega), rrightP_f k hk v n _ hn]
  simp only [bsome]
  unfold outR
  cases rightP v n (x : Int)
  · rw [if_neg (by decide), if_neg (by decide)]; rfl
  · rw [if_pos rfl, if_pos rfl]; rfl
theorem outR_eq (p w : List UInt8) (v : Bool) (n k : Nat) (hp : parseA p = some (v, n)) (hw : decP w = some k) : pfxP (parseR p w) = outR v n k := by
  unfold parseR outR
  rw [hp, hw]
  simp only
  cases rightP v n (k : Int)
  · rw [if_neg (by decide), if_neg (by decide)]; rfl
  · rw [if_pos rfl, if_pos rfl]; rfl
theorem outR_no (p w : List UInt8) (h : parseA p = none ∨ decP w = none) : pfxP (parseR p w) = (false, 0, 0, 4) := by
  have e : parseR p w = none := by
    unfold parseR
    rcases h with h | h
    · rw [h]
    · rw [h]; cases parseA p <;> rfl
  rw [e]; rfl
theorem decP1 (a : UInt8) : decP [a] = if dg a = true then some (dv a) else none := rfl
theorem decP2 (a b : UInt8) : decP [a, b] = if (dg a && dg b && a != 48) = true then some (10 * dv a + dv b) else none := rfl
theorem decP3 (a b c : UInt8) : decP [a, b, c] = if (dg a && dg b && dg c && a != 48) = true then some (100 * dv a + 10 * dv b + dv c) else none := rfl
theorem tail_f (k : Nat) (hk : 700 ≤ k) (s : ByteArray) (j : Nat) (hj : j < s.size) (hs : s.size ≤ 1000) :
    platbookref03_Parse.l0 (k + 1) s (j : Int) (s.size : Int) = some (tup5 (pfxP (parseR ((bts s).take j) ((bts s).drop (j + 1))))) := by
  have eP : platbookref02_Parse.f (s.extract 0 j) = some ((addrP (parseA ((bts s).take j))).1, hi (addrP (parseA ((bts s).take j))).2.1, lo (addrP (parseA ((bts s).take j))).2.1, (addrP (parseA ((bts s).take j))).2.2) := by
    unfold platbookref02_Parse.f
    rw [if_pos (decide_eq_true (by rw [ByteArray.size_extract]; omega)), bts_head]
  rw [platbookref03_Parse.l0, if_neg (by omega), if_neg (by omega), if_pos (by omega), if_pos (by omega), Int.toNat_natCast, eP]
  simp only [bsome]
  rw [w64 (by omega) (by omega), if_pos (by omega), if_pos (by omega), show ((j : Int) + 1).toNat = j + 1 by omega]
  obtain ⟨w, hw⟩ : ∃ w, s.extract (j + 1) s.size = w := ⟨_, rfl⟩
  have hb : bts w = (bts s).drop (j + 1) := by rw [← hw]; exact bts_tail
  rw [hw, ← hb]
  have hl := btl w
  obtain ⟨q, rfl⟩ : ∃ q, k = q + 1 + 1 + 1 + 1 + 1 := ⟨k - 5, by omega⟩
  have bad : ∀ (v : Bool) (y z : Int), platbookref03_Parse.j1 (q + 1 + 1 + 1 + 1 + 1) w true v y z = some (false, 0, 0, 0, 4) := by
    intro v y z; rw [platbookref03_Parse.j1, if_pos rfl]
  have go : ∀ (v : Bool) (y z : Int), platbookref03_Parse.j1 (q + 1 + 1 + 1 + 1 + 1) w false v y z = platbookref03_Parse.l1 (q + 1 + 1 + 1 + 1) w ((0 : Nat) : Int) ((0 : Nat) : Int) v y z := by
    intro v y z; rw [platbookref03_Parse.j1, if_neg (by decide)]; rfl
  cases hp : parseA ((bts s).take j) with
  | none =>
    rw [outR_no _ _ (.inl hp), if_neg (by decide), bad]; rfl
  | some x =>
    obtain ⟨v, n⟩ := x
    have hn := parseA_lt hp
    rw [if_pos (show (addrP (some (v, n))).2.2 = 0 from rfl)]
    simp only [addrP]
    match hc : bts w with
    | [] =>
      rw [hc] at hl
      rw [outR_no _ _ (.inr rfl), if_pos (by simp at hl; omega), bad]; rfl
    | [a] =>
      rw [hc] at hl
      have hl' : w.size = 1 := by simpa using hl.symm
      have d0 : (bts w).drop 0 = [a] := hc
      rw [if_neg (by omega), if_neg (by omega), if_neg (by omega), go]
      cases ha : dg a
      · rw [l1_no d0 ha, outR_no _ _ (.inr (by rw [decP1, ha]; rfl))]; rfl
      · rw [l1_yes d0 ha _ _ (by omega) (by omega), l1_end (by omega) _ _ (by omega) v n hn, outR_eq _ _ v n (10 * 0 + dv a) hp (by rw [decP1, ha, if_pos rfl, Nat.mul_zero, Nat.zero_add])]
    | [a, b] =>
      rw [hc] at hl
      have hl' : w.size = 2 := by simpa using hl.symm
      have d0 : (bts w).drop 0 = [a, b] := hc
      have d1 : (bts w).drop (0 + 1) = [b] := (bt_drop d0).2.2
      have e0 : bt w 0 = (a.toNat : Int) := (bt_drop d0).1
      rw [if_neg (by omega), if_neg (by omega), if_pos (by omega), if_pos (by omega), e0, u48]
      cases h0 : (a == 48)
      · rw [go]
        have h0' : (a != 48) = true := by unfold bne; rw [h0]; rfl
        cases ha : dg a
        · rw [l1_no d0 ha, outR_no _ _ (.inr (by rw [decP2, ha]; rfl))]; rfl
        · rw [l1_yes d0 ha _ _ (by omega) (by omega)]
          have b1 : dv a ≤ 9 := by obtain ⟨x, hx, _, e⟩ := dg_at ha; omega
          cases hb' : dg b
          · rw [l1_no d1 hb', outR_no _ _ (.inr (by rw [decP2, ha, hb']; rfl))]; rfl
          · rw [l1_yes d1 hb' _ _ (by omega) (by omega), l1_end (by omega) _ _ (by omega) v n hn, outR_eq _ _ v n (10 * (10 * 0 + dv a) + dv b) hp (by rw [decP2, ha, hb', h0', if_pos (show (true && true && true) = true from rfl), Nat.mul_zero, Nat.zero_add])]
      · have h0' : (a != 48) = false := by unfold bne; rw [h0]; rfl
        rw [bad, outR_no _ _ (.inr (by rw [decP2, h0', Bool.and_false]; rfl))]; rfl
    | [a, b, c] =>
      rw [hc] at hl
      have hl' : w.size = 3 := by simpa using hl.symm
      have d0 : (bts w).drop 0 = [a, b, c] := hc
      have d1 : (bts w).drop (0 + 1) = [b, c] := (bt_drop d0).2.2
      have d2 : (bts w).drop (0 + 1 + 1) = [c] := (bt_drop d1).2.2
      have e0 : bt w 0 = (a.toNat : Int) := (bt_drop d0).1
      rw [if_neg (by omega), if_neg (by omega), if_pos (by omega), if_pos (by omega), e0, u48]
      cases h0 : (a == 48)
      · rw [go]
        have h0' : (a != 48) = true := by unfold bne; rw [h0]; rfl
        cases ha : dg a
        · rw [l1_no d0 ha, outR_no _ _ (.inr (by rw [decP3, ha]; rfl))]; rfl
        · rw [l1_yes d0 ha _ _ (by omega) (by omega)]
          have b1 : dv a ≤ 9 := by obtain ⟨x, hx, _, e⟩ := dg_at ha; omega
          cases hb' : dg b
          · rw [l1_no d1 hb', outR_no _ _ (.inr (by rw [decP3, ha, hb']; rfl))]; rfl
          · rw [l1_yes d1 hb' _ _ (by omega) (by omega)]
            have b2 : dv b ≤ 9 := by obtain ⟨x, hx, _, e⟩ := dg_at hb'; omega
            cases hc' : dg c
            · rw [l1_no d2 hc', outR_no _ _ (.inr (by rw [decP3, ha, hb', hc']; rfl))]; rfl
            · rw [l1_yes d2 hc' _ _ (by omega) (by omega), l1_end (by omega) _ _ (by omega) v n hn, outR_eq _ _ v n (10 * (10 * (10 * 0 + dv a) + dv b) + dv c) hp (by rw [decP3, ha, hb', hc', h0', if_pos (show (true && true && true && true) = true from rfl)]; congr 1; omega)]
      · have h0' : (a != 48) = false := by unfold bne; rw [h0]; rfl
        rw [bad, outR_no _ _ (.inr (by rw [decP3, h0', Bool.and_false]; rfl))]; rfl
    | a :: b :: c :: d :: r =>
      rw [hc] at hl
      have hl' : 4 ≤ w.size := by rw [← hl]; simp
      rw [outR_no _ _ (.inr rfl), if_neg (by omega), if_pos (by omega), bad]; rfl
/-- the reference's reading of any text -/
theorem rpparse_f (K : Nat) (hK : 2000 ≤ K) (s : ByteArray) (hs : s.size ≤ 1000) : platbookref03_Parse.f K s = some (tup5 (pfxP (parsePfx (bts s)))) := by
  unfold platbookref03_Parse.f
  rw [parse_alike]
  rcases index_one 47 (bts s) with ⟨h1, h2⟩ | ⟨p, r, h1, h2, h3⟩
  · have e : Lib.cut (bts s) [47] = (bts s, [], false) := by unfold Lib.cut; rw [h2, if_neg (by decide)]
    rw [e]
    have := scan0 s.size (K - s.size - 1) 0 s (by omega) hs (by rw [List.drop_zero]; exact h1)
    rw [show K - s.size - 1 + s.size + 1 = K by omega, show ((0 : Nat) : Int) = 0 from rfl] at this
    rw [this, outR_no _ _ (.inr rfl)]; rfl
  · have hlen : (bts s).length = p.length + (r.length + 1) := by rw [h1]; simp
    rw [btl] at hlen
    have e : Lib.cut (bts s) [47] = (p, r, true) := by
      unfold Lib.cut; rw [h3, if_pos (by omega), Int.toNat_natCast]
      have : (bts s).take p.length = p := by rw [h1]; exact List.take_left' rfl
      have h5 : (bts s).drop (p.length + [(47 : UInt8)].length) = r := by
        rw [h1, show p.length + [(47 : UInt8)].length = (p ++ [47]).length by simp, show p ++ 47 :: r = (p ++ [47]) ++ r by simp]; exact List.drop_left' rfl
      rw [this, h5]
    rw [e]
    have t1 : (bts s).take p.length = p := by rw [h1]; exact List.take_left' rfl
    have t2 : (bts s).drop (p.length + 1) = r := by
      rw [h1, show p.length + 1 = (p ++ [(47 : UInt8)]).length by simp, show p ++ 47 :: r = (p ++ [47]) ++ r by simp]; exact List.drop_left' rfl
    have := scan1 r p (K - p.length - 1) 0 s hs (by rw [List.drop_zero]; exact h1) h2
    rw [show K - p.length - 1 + p.length + 1 = K by omega, show ((0 : Nat) : Int) = 0 from rfl, Nat.zero_add] at this
    rw [this]
    by_cases hm : (47 : UInt8) ∈ r
    · have := scan2 r.length (K - p.length - 1 - r.length - 1) (p.length + 1) p.length s (by omega) hs (by rw [t2]; exact hm)
      rw [show K - p.length - 1 - r.length - 1 + r.length + 1 = K - p.length - 1 by omega] at this
      rw [this, outR_no _ _ (.inr ?_)]
      · rfl
      · cases hd : decP r with
        | none => rfl
        | some k =>
          obtain ⟨hk, rfl⟩ := decP_some hd
          have : ∀ k, k < 1000 → (47 : UInt8) ∉ Lib.decDigits k := by decide +kernel
          exact absurd hm (this k hk)
    · have := scan3 r.length (K - p.length - 1 - r.length) (p.length + 1) p.length s (by omega) hs (by rw [t2]; exact hm)
      rw [show K - p.length - 1 - r.length + r.length = K - p.length - 1 by omega] at this
      have t3 := tail_f (K - p.length - 1 - r.length - 1) (by omega) s p.length (by omega) hs
      rw [show K - p.length - 1 - r.length - 1 + 1 = K - p.length - 1 - r.length by omega] at t3
      rw [this, t3, t1, t2]
def printP (v : Bool) (n : Nat) (b : Int) : List UInt8 := if rightP v n b = true then printA v n ++ 47 :: Lib.itoa b else []
theorem dec_f : ∀ k, k < 129 → platbookref02_Dec.f ((k : Nat) : Int) = some (⟨(Lib.decDigits k).toArray⟩ : ByteArray) := by decide +kernel
theorem dec_len : ∀ k, k < 129 → (Lib.decDigits k).length ≤ 3 := by decide +kernel
theorem cat3 (a b : List UInt8) : ((⟨a.toArray⟩ : ByteArray) ++ (⟨#[47]⟩ : ByteArray)) ++ (⟨b.toArray⟩ : ByteArray) = ⟨(a ++ 47 :: b).toArray⟩ := by
  apply ByteArray.ext
  simp [ByteArray.data_append]
theorem pprint_f (v : Bool) (n : Nat) (b : Int) (hn : n < 340282366920938463463374607431768211456) : prefix_Print.f v (hi n) (lo n) b = some (⟨(printP v n b).toArray⟩ : ByteArray) := by
  unfold prefix_Print.f printP
  rw [pright_hl v b hn]
  simp only [bsome]
  cases h : rightP v n b
  · rfl
  · have hb := right_le h
    obtain ⟨k, rfl⟩ := Int.eq_ofNat_of_zero_le hb.1
    have e1 : addr_Print.f v (hi n) (lo n) = some (⟨(printA v n).toArray⟩ : ByteArray) := by unfold addr_Print.f; rw [if_pos (okW_hl n), num_hi_lo hn]
    have e2 : strconv_Itoa.f (k : Int) = some (⟨(Lib.itoa k).toArray⟩ : ByteArray) := by unfold strconv_Itoa.f; rw [if_pos]; simp; omega
    have hl := printA_len v n
    have hk := dec_len k (by omega)
    have s1 : (⟨(printA v n).toArray⟩ : ByteArray).size ≤ 1000 := by show (printA v n).toArray.size ≤ _; rw [List.size_toArray]; exact hl
    have s2 : (⟨(Lib.itoa (k : Int)).toArray⟩ : ByteArray).size ≤ 3 := by show (Lib.itoa (k : Int)).toArray.size ≤ _; rw [List.size_toArray, Lib.itoa_nonneg]; exact hk
    rw [if_pos rfl, if_pos rfl, e1, e2]
    simp only [bsome]
    rw [if_pos (by omega), if_pos (by rw [ByteArray.size_append]; have : (⟨#[47]⟩ : ByteArray).size = 1 := rfl; omega), cat3]
theorem rpprint_f (K : Nat) (hK : 600 ≤ K) (v : Bool) (n : Nat) (b : Int) (hn : n < 340282366920938463463374607431768211456) : platbookref03_Print.f K v (hi n) (lo n) b = some (⟨(printP v n b).toArray⟩ : ByteArray) := by
  unfold platbookref03_Print.f printP
  rw [rrightP_f K hK v n b hn]
  simp only [bsome]
  cases h : rightP v n b
  · rfl
  · have hb := right_le h
    obtain ⟨k, rfl⟩ := Int.eq_ofNat_of_zero_le hb.1
    have e1 : platbookref02_Print.f v (hi n) (lo n) = some (⟨(printA v n).toArray⟩ : ByteArray) := by unfold platbookref02_Print.f; rw [if_pos (okW_hl n), num_hi_lo hn]
    have hl := printA_len v n
    have hk := dec_len k (by omega)
    have s1 : (⟨(printA v n).toArray⟩ : ByteArray).size ≤ 1000 := by show (printA v n).toArray.size ≤ _; rw [List.size_toArray]; exact hl
    have s2 : (⟨(Lib.decDigits k).toArray⟩ : ByteArray).size ≤ 3 := by show (Lib.decDigits k).toArray.size ≤ _; rw [List.size_toArray]; exact hk
    rw [if_pos rfl, if_pos rfl, e1, dec_f k (by omega)]
    simp only [bsome]
    rw [if_pos (by omega), if_pos (by rw [ByteArray.size_append]; have : (⟨#[47]⟩ : ByteArray).size = 1 := rfl; omega), cat3, Lib.itoa_nonneg]
/-- what is written is read as it was -/
theorem parse_printP {v : Bool} {n : Nat} {b : Int} (hn : n < 340282366920938463463374607431768211456) (h : rightP v n b = true) : parsePfx (printP v n b) = some (v, n, b) := by
  have hb := right_le h
  obtain ⟨k, rfl⟩ := Int.eq_ofNat_of_zero_le hb.1
  have hr : rightB v n = true := by unfold rightP at h; simp only [Bool.and_eq_true] at h; exact h.1
  have e : Lib.cut (printP v n (k : Int)) [47] = (printA v n, Lib.decDigits k, true) := by
    unfold printP; rw [if_pos h, Lib.itoa_nonneg]
    unfold Lib.cut
    have hi1 : Lib.index (printA v n ++ 47 :: Lib.decDigits k) [47] = ((printA v n).length : Int) := by
      have hno := printA_no47 v n
      rcases index_one 47 (printA v n ++ 47 :: Lib.decDigits k) with ⟨h1, _⟩ | ⟨p, r, h1, h2, h3⟩
      · exact absurd (by simp) h1
      · have hd : (47 : UInt8) ∉ Lib.decDigits k := dec_no47 k (by omega)
        rw [h3]
        have : (printA v n).length = p.length := by
          have c1 : ((printA v n ++ 47 :: Lib.decDigits k).takeWhile (· != 47)) = printA v n := by
            rw [List.takeWhile_append_of_pos (by intro a ha; simp; rintro rfl; exact hno ha)]; simp
          have c2 : ((p ++ 47 :: r).takeWhile (· != 47)) = p := by
            rw [List.takeWhile_append_of_pos (by intro a ha; simp; rintro rfl; exact h2 ha)]; simp
          rw [← c1, h1, c2]
        rw [this]
    rw [hi1, if_pos (by omega), Int.toNat_natCast, List.take_left' rfl]
    have h5 : (printA v n ++ 47 :: Lib.decDigits k).drop ((printA v n).length + [(47 : UInt8)].length) = Lib.decDigits k := by
      rw [show (printA v n).length + [(47 : UInt8)].length = (printA v n ++ [47]).length by simp, show printA v n ++ 47 :: Lib.decDigits k = (printA v n ++ [47]) ++ Lib.decDigits k by simp]; exact List.drop_left' rfl
    rw [h5]
  rw [parse_alike, e]
  unfold parseR
  rw [parse_printA hn hr, dec_back k (by omega)]
  simp only
  rw [if_pos h]
end Go.Proofs.YtgdgklibilddgaaGreatDoor

namespace Go.Proofs.YtgdgklibilddgaaGreatDoor
open Go.RowKit Go.Proofs.YtgdgklibilddgaaGreatDoorW.PrintWords Go.Proofs.YtgdgklibilddgaaGreatDoor.PPt

theorem awake03_t : platbooklaw03_awake.f = some true := by decide +kernel
theorem pparse_f (s : ByteArray) (hs : s.size ≤ 1000000) : prefix_Parse.f s = some (tup5 (pfxP (parsePfx (bts s)))) := by
  unfold prefix_Parse.f; rw [if_pos (decide_eq_true hs)]; rfl
theorem printP_len (v : Bool) (n : Nat) (b : Int) : (printP v n b).length ≤ 2000 := by
  unfold printP
  split
  · rename_i h
    have hb := right_le h
    obtain ⟨k, rfl⟩ := Int.eq_ofNat_of_zero_le hb.1
    have := printA_len v n
    have := dec_len k (by omega)
    rw [List.length_append, List.length_cons, Lib.itoa_nonneg]; omega
  · simp
theorem prefixTexts_f (v : Bool) (n : Nat) (b : Int) (s : ByteArray) (hn : n < 340282366920938463463374607431768211456) :
    platbooklaw03_PrefixTexts.f 3000 v (hi n) (lo n) b s = some true := by
  have key : platbooklaw03_PrefixTexts.j0 3000 (⟨(printP v n b).toArray⟩ : ByteArray) false v (hi n) (lo n) b = some true := by
    rw [show 3000 = 2999 + 1 from rfl, platbooklaw03_PrefixTexts.j0, if_neg (by decide), rrightP_f 2999 (by omega) v n b hn, pparse_f _ (by show (printP v n b).toArray.size ≤ _; rw [List.size_toArray]; have := printP_len v n b; omega), bts_mk]
    simp only [bsome]
    cases h : rightP v n b
    · rw [if_neg (by decide)]
      have : printP v n b = [] := by unfold printP; rw [if_neg (by rw [h]; decide)]
      rw [this]
      decide +kernel
    · rw [if_pos rfl, parse_printP hn h]
      simp only [pfxP, tup5]
      simp
  unfold platbooklaw03_PrefixTexts.f
  rw [awake03_t]
  simp only [bsome, if_true]
  by_cases hs : (s.size : Int) > 1000
  · rw [if_pos hs]
  · rw [if_neg hs, pparse_f s (by omega), rpparse_f 3000 (by omega) s (by omega), pprint_f v n b hn, rpprint_f 3000 (by omega) v n b hn]
    simp only [bsome]
    rw [if_neg (by simp), if_pos trivial, show ((⟨(printP v n b).toArray⟩ : ByteArray).toList != (⟨(printP v n b).toArray⟩ : ByteArray).toList) = false by simp]
    exact key
theorem prefixTexts_walk (v : Bool) (n : Nat) (b : Int) (s : ByteArray) (w : World) (hn : n < 340282366920938463463374607431768211456) (_ : (Lit.int .i64 b).wf = true) (hG : Glob w) :
    Calls Tryz.prog 4 #[PfxV v n b, .string s] w fun e w' => e = .returned (.bool true) ∧ Below w.heap.size w w' :=
  platbooklaw03_PrefixTexts.calls 3000 v (hi n) (lo n) b s true w hG rfl (prefixTexts_f v n b s hn)
end Go.Proofs.YtgdgklibilddgaaGreatDoor

namespace Go.Proofs.YtgdgklibilddgaaGreatDoor
open Go.ChangeShapes Go.WideShapes Go.ChangeAt Go.RowKit

section
variable {H : Type} {enc : TypeId × Value → H} {P : Program}
theorem post_below {f : Func} {s : ChangeSpec} {apart fresh handsOn again : Bool} {W W' : World} {args : Array Value} {v : Value} {ds gs : List (DataW H)} {before pa pv : List MemPlace}
    (hW : DataW.Whole enc P f.params.toList s.vars apart W args.toList ds gs before)
    (hres : ∀ (b : Nat) (sp : Nat → Bool) (hd : Bool), DataW.TrodAll enc P W' b sp hd f.resultTypes.toList (v.resultList f.resultTypes.size) (s.fn H (ds ++ gs)).results [])
    (hargs : ∀ sp : Nat → Bool, (∀ p ∈ before, sp p.block = true) → DataW.TrodAll enc P W' 0 sp true f.params.toList args.toList (s.fn H (ds ++ gs)).args pa)
    (hvars : ∀ sp : Nat → Bool, (∀ p ∈ before, sp p.block = true) → DataW.TrodVars enc P W' sp s.vars (s.fn H (ds ++ gs)).vars pv)
    (hps : before = pa ++ pv) (hb : Below W.heap.size W W')
    (hok : ∀ (j : Nat) (t : TypeId) (r : Value), f.resultTypes[j]? = some t → (v.resultList f.resultTypes.size)[j]? = some r → Value.okWide P W' .any 0 t r) :
    s.post enc P f apart fresh handsOn again W args v W' := by
  have hlt : ∀ p ∈ before, p.block < W.heap.size := fun p hp => hW.lt p hp
  have hold : ∀ p ∈ before, (fun b => decide (b < W.heap.size)) p.block = true := fun p hp => by simpa using hlt p hp
  refine ⟨ds, gs, before, [], pa, pv, hW, hres _ _ _, hargs _ hold, hvars _ hold, World.keptBut_mono (fun p hp => ⟨hp, ?_⟩) (hb.frame (· ∈ before)), fun _ => ?_⟩
  · rw [hps, List.mem_append] at hp
    exact Or.inr hp
  · obtain ⟨_, _, _, _, _, hz, hn⟩ := hW
    refine ⟨hok, _, _, ([] ++ pa) ++ pv, ⟨[] ++ pa, pv, trodAll_append (hargs _ (fun _ _ => rfl)) (hres _ _ _), hvars _ (fun _ _ => rfl), rfl, ?_, ?_⟩, ?_⟩
    · intro b off hp
      have hin : MemPlace.cell b off ∈ before := by rw [hps]; simpa using hp
      rw [hb.frozen (hlt _ hin)]
      exact hz b off hin
    · intro ha
      have := hn ha
      rw [hps] at this
      simpa using this
    · intro p hp _
      rw [hps]
      simpa using hp
end

theorem Tryz.own : ownKnob Tryz.prog.godebug = none := by kernel_rfl
theorem u64_bd {n : Int} (h : (Lit.int .u64 n).wf = true) : 0 ≤ n ∧ n < 18446744073709551616 := by
  simp [Lit.wf, IntKind.min, IntKind.max, IntKind.bits, IntKind.signed] at h
  omega
end Go.Proofs.YtgdgklibilddgaaGreatDoor

namespace Go.Proofs.YtgdgklibilddgaaGreatDoor
open Go.RowKit

def listA : List (String × DataW Unit) := [("math/bits.deBruijn32tab", Rows.laid_math_bits_deBruijn32tab), ("math/bits.deBruijn64tab", Rows.laid_math_bits_deBruijn64tab), ("internal/strconv.uint64pow10", Rows.laid_internal_strconv_uint64pow10), ("unicode/utf8.acceptRanges", Rows.laid_unicode_utf8_acceptRanges), ("strconv.ErrRange", Rows.laid_strconv_ErrRange), ("strconv.ErrSyntax", Rows.laid_strconv_ErrSyntax), ("unicode/utf8.first", Rows.laid_unicode_utf8_first)]
theorem doorA_met (os : Os) (args : Array Value) : laidMetH Tryz.prog listA ((World.laidAll Tryz.prog os listA).forCall (fun _ _ => 0) ⟨#[], args, []⟩).memory := by
  rw [MakeChecks.laidMetH_plain _ _ _ (by kernel_rfl)]; exact laidMet_laidAll _ (by kernel_rfl) (by kernel_rfl)
def tabZ : List Int := Lib.deBruijn64tab.map Int.ofNat
theorem listA_tab : (Rows.laid_math_bits_deBruijn64tab : DataW Unit) = Lib.tabData .u8 tabZ := by kernel_rfl
theorem listA_pow : (Rows.laid_internal_strconv_uint64pow10 : DataW Unit) = Lib.tabData .u64 Lib.pow10Tab := by kernel_rfl
theorem err_star : "*" ++ "errors.errorString" = "*errors.errorString" := by decide
theorem err_name (u : TypeId) (h : Tryz.prog.typeName? 3 u = some "*errors.errorString") : u = 170 :=
  typeName_ptr_named (nm := "errors.errorString") (by rw [err_star]; kernel_rfl) (by kernel_rfl) (by decide) u (by rw [err_star]; exact h)
theorem glob_of {W : World} (h : laidMetH Tryz.prog listA W) (hs : W.ShapedOpen Tryz.prog) : Glob W := by
  rw [MakeChecks.laidMetH_plain _ _ _ (by kernel_rfl)] at h
  unfold listA at h
  have h2 := h.tail
  have h3 := h2.tail
  have h5 := h3.tail.tail
  have h6 := h5.tail
  rw [listA_tab] at h2
  rw [listA_pow] at h3
  refine ⟨?_, ?_, ?_, ?_, ?_⟩
  · exact cell_of_shapedOpen_int (g := 0) (t := 3) (zero := #[.int .i64 0]) hs (of_decide_eq_true (by kernel_rfl)) (by kernel_rfl) rfl (by kernel_rfl) (by kernel_rfl) Tryz.underlying3
  · obtain ⟨a, s, hv, _⟩ := laid_sentinel h6 (g := 1) (by kernel_rfl) (by kernel_rfl) Tryz.underlying83 err_name Tryz.underlying170 Tryz.underlying172 rfl rfl Tryz.underlying9 (by kernel_rfl) (by kernel_rfl)
    exact ⟨_, _, hv⟩
  · obtain ⟨a, s, hv, _⟩ := laid_sentinel h5 (g := 2) (by kernel_rfl) (by kernel_rfl) Tryz.underlying83 err_name Tryz.underlying170 Tryz.underlying172 rfl rfl Tryz.underlying9 (by kernel_rfl) (by kernel_rfl)
    exact ⟨_, _, hv⟩
  · exact Lib.tabIs_of_head (P := Tryz.prog) (g := 3) (t := 174) (e := 22) (n := 20) (by kernel_rfl) (by kernel_rfl) Tryz.underlying174 Tryz.underlying22 (by kernel_rfl) (by kernel_rfl) h3
  · have hT := Lib.tabIs_of_head (P := Tryz.prog) (g := 5) (t := 185) (e := 5) (n := 64) (by kernel_rfl) (by kernel_rfl) Tryz.underlying185 Tryz.underlying5 (by kernel_rfl) (by kernel_rfl) h2
    intro j hj
    have hc := hT.cell (g := 5) (by kernel_rfl) j (by unfold tabZ; rw [List.length_map, show Lib.deBruijn64tab.length = 64 by decide]; exact hj)
    rw [hc]
    have e : tabZ.getD j 0 = ((Lib.deBruijn64tab.getD j 0 : Nat) : Int) := by
      unfold tabZ
      simp only [List.getD_eq_getElem?_getD, List.getElem?_map]
      cases Lib.deBruijn64tab[j]? <;> rfl
    rw [e]
/-- the plain wrap with the row's condition and the start's shape -/
theorem lift_shaped {H : Type} {enc : TypeId × Value → H} {C : Checked} {os : Os} {f : FuncId} {fn : Func} {s : ChangeSpec} {X : World → Array Value → Prop}
    (hX : ∀ (w w' : World) (args : Array Value), w.heap = w'.heap → X w args → X w' args)
    (own : ownKnob C.prog.godebug = none) (started : os.Started) (noInit : C.prog.inits.idxOf? f = none) (hfn : C.prog.funcs[f]? = some fn)
    (witness : ∃ (w : World) (tape : Tape) (i : Input), w.os = os ∧ (w.forCall tape i).Shaped C.prog ∧ i.vars = [] ∧ Input.okWide C.prog (w.forCall tape i) .any w.heap.size f i ∧
      ((s.pre enc C.prog fn [] false (w.forCall tape i).memory i.args ∧ X (w.forCall tape i).memory i.args) ∧ sizedMet enc C.prog fn (OpenSpec.ofChange s) false (w.forCall tape i).memory i.args) ∧ ({} : Assume).holds C.prog (lone (Frame.enter C.prog f i.args .normal) [] (w.forCall tape i)))
    (contract : ∀ (W : World) (base : Nat) (args : Array Value) (ds gs : List (DataW H)) (before : List MemPlace),
      (∀ (j : Nat) t v, fn.params[j]? = some t → args[j]? = some v → Value.okWide C.prog W .any base t v) →
      DataW.Whole enc C.prog fn.params.toList s.vars false W args.toList ds gs before → X W args → W.ShapedOpen C.prog →
      Calls C.prog f args W fun e W' => ∃ v, e = .returned v ∧ s.post enc C.prog fn false true false false W args v W') :
    ReturnsInHanded {} C os f .any (fun w args => (s.pre enc C.prog fn [] false w args ∧ X w args) ∧ sizedMet enc C.prog fn (OpenSpec.ofChange s) false w args) (s.post enc C.prog fn false true false false) := by
  refine returnsInHanded_of_calls own started noInit witness ?_
  intro w tape i _ hshape _ hok hpre _
  obtain ⟨_, _, _, fn2, hfn2, _, _, _, _, hval⟩ := hok
  obtain rfl : fn2 = fn := Option.some.inj (hfn2.symm.trans hfn)
  obtain ⟨⟨⟨ds, gs, before, hw, _⟩, hx⟩, _⟩ := hpre
  refine (contract (w.forCall tape i) w.heap.size i.args ds gs before hval (DataW.Whole.of_heap (w' := w.forCall tape i) (by rfl) hw) (hX _ _ _ (by rfl) hx) hshape).mono fun e W' ⟨v, he, hp⟩ => ?_
  subst he
  exact ChangeSpec.post_blind hp
end Go.Proofs.YtgdgklibilddgaaGreatDoor

namespace Go.Proofs.YtgdgklibilddgaaGreatDoor
open Go.ChangeShapes Go.WideShapes Go.ChangeAt Go.RowKit Go.Joins

theorem Tryz.cellsNum : Tryz.prog.cellsOf 24 = 2 := by kernel_rfl

end Go.Proofs.YtgdgklibilddgaaGreatDoor

namespace Go.Proofs.YtgdgklibilddgaaGreatDoor
open Go.ChangeShapes Go.WideShapes Go.ChangeAt Go.RowKit Go.Joins

set_option maxRecDepth 100000 in
theorem Tryz.cellsAddr : Tryz.prog.cellsOf 26 = 3 := by kernel_rfl
def numD {H : Type} (n : Nat) : DataW H := .agg [.lit (.int .u64 (hi n)), .lit (.int .u64 (lo n))]
def addrD {H : Type} (v : Bool) (n : Nat) : DataW H := .agg [.lit (.bool v), numD n]
/-- the number's words are in their bounds -/
def numOk (n : Nat) : Prop := (Lit.int .u64 (hi n)).wf = true ∧ (Lit.int .u64 (lo n)).wf = true

set_option maxRecDepth 100000 in
theorem trod_bool_form {H : Type} {enc : TypeId × Value → H} {P : Program} {w : World} {base : Nat} {sp : Nat → Bool} {held : Bool} {fuel : Nat} {t : TypeId} {c : Value} {x : DataW H × List MemPlace} (ht : P.underlying t = some .bool)
    (h : DataW.trod enc P w base sp held fuel t [c] = some x) : ∃ b, c = .bool b ∧ x = (.lit (.bool b), []) := by
  cases fuel with
  | zero => simp [DataW.trod] at h
  | succ fuel =>
    simp only [DataW.trod, ht] at h
    split at h
    · rename_i e1 e2
      simp at e2
      subst e2
      exact ⟨_, rfl, (Option.some.inj h).symm⟩
    all_goals first | (rename_i e1 _; cases e1; done) | (cases h; done) | skip
    all_goals simp_all
set_option maxRecDepth 100000 in
theorem trod_num_form {H : Type} {enc : TypeId × Value → H} {W : World} {base : Nat} {sp : Nat → Bool} {held : Bool} {fuel : Nat} {c0 c1 : Value} {x : DataW H × List MemPlace}
    (h : DataW.trod enc Tryz.prog W base sp held fuel 24 [c0, c1] = some x) : ∃ n : Nat, n < 340282366920938463463374607431768211456 ∧ c0 = .int .u64 (hi n) ∧ c1 = .int .u64 (lo n) ∧ x = (numD n, []) ∧ numOk n := by
  obtain ⟨y0, y1, m, rfl, _, h0, h1⟩ := trod_struct2 Tryz.underlying24 h
  have h0' : DataW.trod enc Tryz.prog W base sp held m 22 [c0] = some y0 := h0
  have h1' : DataW.trod enc Tryz.prog W base sp held m 22 [c1] = some y1 := h1
  obtain ⟨a, e0, rfl, wa⟩ := DataW.trod_int Tryz.underlying22 h0'
  obtain ⟨b, e1, rfl, wb⟩ := DataW.trod_int Tryz.underlying22 h1'
  simp at e0 e1
  subst e0 e1
  obtain ⟨a0, a1⟩ := u64_bd wa
  obtain ⟨b0', b1⟩ := u64_bd wb
  refine ⟨num a b, num_lt a1 b1, ?_, ?_, ?_, ?_, ?_⟩
  · rw [hi_num a0 a1 b0' b1]
  · rw [lo_num b0' b1]
  · unfold numD; rw [hi_num a0 a1 b0' b1, lo_num b0' b1]; rfl
  · rw [hi_num a0 a1 b0' b1]; exact wa
  · rw [lo_num b0' b1]; exact wb
set_option maxRecDepth 100000 in
theorem trod_num_mk {H : Type} {enc : TypeId × Value → H} {W : World} {base : Nat} {sp : Nat → Bool} {held : Bool} {n : Nat} (h : numOk n) : DataW.trod enc Tryz.prog W base sp held 2 24 [.int .u64 (hi n), .int .u64 (lo n)] = some (numD n, []) := by
  obtain ⟨wa, wb⟩ := h
  have := trod_struct2_mk (enc := enc) (w := W) (base := base) (spare := sp) (held := held) (n := 1) (cs := [.int .u64 (hi n), .int .u64 (lo n)]) (y0 := (.lit (.int .u64 (hi n)), [])) (y1 := (.lit (.int .u64 (lo n)), [])) Tryz.underlying24 Tryz.cellsNum.symm
    (by show DataW.trod enc Tryz.prog W base sp held 1 22 [.int .u64 (hi n)] = _; simp [DataW.trod, Tryz.underlying22, wa])
    (by show DataW.trod enc Tryz.prog W base sp held 1 22 [.int .u64 (lo n)] = _; simp [DataW.trod, Tryz.underlying22, wb])
  exact this
set_option maxRecDepth 100000 in
theorem trod_addr_form {H : Type} {enc : TypeId × Value → H} {W : World} {base : Nat} {sp : Nat → Bool} {held : Bool} {fuel : Nat} {c0 c1 c2 : Value} {x : DataW H × List MemPlace}
    (h : DataW.trod enc Tryz.prog W base sp held fuel 26 [c0, c1, c2] = some x) : ∃ (v : Bool) (n : Nat), n < 340282366920938463463374607431768211456 ∧ c0 = .bool v ∧ c1 = .int .u64 (hi n) ∧ c2 = .int .u64 (lo n) ∧ x = (addrD v n, []) ∧ numOk n := by
  obtain ⟨y0, y1, m, rfl, _, h0, h1⟩ := trod_struct2 Tryz.underlying26 h
  have h0' : DataW.trod enc Tryz.prog W base sp held m 4 [c0] = some y0 := h0
  have h1' : DataW.trod enc Tryz.prog W base sp held m 24 [c1, c2] = some y1 := h1
  obtain ⟨v, rfl, rfl⟩ := trod_bool_form Tryz.underlying4 h0'
  obtain ⟨n, hn, rfl, rfl, rfl, ho⟩ := trod_num_form h1'
  exact ⟨v, n, hn, rfl, rfl, rfl, rfl, ho⟩
set_option maxRecDepth 100000 in
theorem trod_addr_mk {H : Type} {enc : TypeId × Value → H} {W : World} {base : Nat} {sp : Nat → Bool} {held : Bool} {v : Bool} {n : Nat} (h : numOk n) : DataW.trod enc Tryz.prog W base sp held 3 26 [.bool v, .int .u64 (hi n), .int .u64 (lo n)] = some (addrD v n, []) := by
  have := trod_struct2_mk (enc := enc) (w := W) (base := base) (spare := sp) (held := held) (n := 2) (cs := [.bool v, .int .u64 (hi n), .int .u64 (lo n)]) (y0 := (.lit (.bool v), [])) (y1 := (numD n, [])) Tryz.underlying26 Tryz.cellsAddr.symm
    (by show DataW.trod enc Tryz.prog W base sp held 2 4 [.bool v] = _; simp [DataW.trod, Tryz.underlying4])
    (trod_num_mk h)
  exact this
end Go.Proofs.YtgdgklibilddgaaGreatDoor

namespace Go.Proofs.YtgdgklibilddgaaGreatDoor
open Go.ChangeShapes Go.WideShapes Go.ChangeAt Go.RowKit Go.Joins

set_option maxRecDepth 100000 in
theorem Tryz.cellsPfx : Tryz.prog.cellsOf 38 = 4 := by kernel_rfl
def pfxD {H : Type} (v : Bool) (n : Nat) (b : Int) : DataW H := .agg [addrD v n, .lit (.int .i64 b)]
def pfxOk (n : Nat) (b : Int) : Prop := numOk n ∧ (Lit.int .i64 b).wf = true
set_option maxRecDepth 100000 in
theorem trod_pfx_form {H : Type} {enc : TypeId × Value → H} {W : World} {base : Nat} {sp : Nat → Bool} {held : Bool} {fuel : Nat} {c0 c1 c2 c3 : Value} {x : DataW H × List MemPlace}
    (h : DataW.trod enc Tryz.prog W base sp held fuel 38 [c0, c1, c2, c3] = some x) : ∃ (v : Bool) (n : Nat) (b : Int), n < 340282366920938463463374607431768211456 ∧ c0 = .bool v ∧ c1 = .int .u64 (hi n) ∧ c2 = .int .u64 (lo n) ∧ c3 = .int .i64 b ∧ x = (pfxD v n b, []) ∧ pfxOk n b := by
  obtain ⟨y0, y1, m, rfl, _, h0, h1⟩ := trod_struct2 Tryz.underlying38 h
  have h0' : DataW.trod enc Tryz.prog W base sp held m 26 [c0, c1, c2] = some y0 := h0
  have h1' : DataW.trod enc Tryz.prog W base sp held m 3 [c3] = some y1 := h1
  obtain ⟨v, n, hn, rfl, rfl, rfl, rfl, ho⟩ := trod_addr_form h0'
  obtain ⟨b, e1, rfl, wb⟩ := DataW.trod_int Tryz.underlying3 h1'
  simp at e1
  subst e1
  exact ⟨v, n, b, hn, rfl, rfl, rfl, rfl, rfl, ho, wb⟩
set_option maxRecDepth 100000 in
theorem trod_pfx_mk {H : Type} {enc : TypeId × Value → H} {W : World} {base : Nat} {sp : Nat → Bool} {held : Bool} {v : Bool} {n : Nat} {b : Int} (h : pfxOk n b) : DataW.trod enc Tryz.prog W base sp held 4 38 [.bool v, .int .u64 (hi n), .int .u64 (lo n), .int .i64 b] = some (pfxD v n b, []) := by
  have wb := h.2
  have := trod_struct2_mk (enc := enc) (w := W) (base := base) (spare := sp) (held := held) (n := 3) (cs := [.bool v, .int .u64 (hi n), .int .u64 (lo n), .int .i64 b]) (y0 := (addrD v n, [])) (y1 := (.lit (.int .i64 b), [])) Tryz.underlying38 Tryz.cellsPfx.symm
    (trod_addr_mk h.1)
    (by show DataW.trod enc Tryz.prog W base sp held 3 3 [.int .i64 b] = _; simp [DataW.trod, Tryz.underlying3, wb])
  exact this
theorem arr4 {α : Type} {cs : Array α} (h : cs.size = 4) : ∃ c0 c1 c2 c3, cs = #[c0, c1, c2, c3] := by
  rcases cs with ⟨l⟩
  match l, h with
  | [a, b, c, d], _ => exact ⟨a, b, c, d, rfl⟩
set_option maxRecDepth 100000 in
/-- a prefix as an argument -/
theorem open_pfx {H : Type} {enc : TypeId × Value → H} {W : World} {base b0 : Nat} {sp : Nat → Bool} {v : Value} {d : DataW H} {p : List MemPlace} {r : Reach}
    (hv : Value.okWide Tryz.prog W r b0 38 v) (h : DataW.Trod enc Tryz.prog W base sp true 38 v d p) :
    ∃ (u : Bool) (n : Nat) (b : Int), n < 340282366920938463463374607431768211456 ∧ (Lit.int .i64 b).wf = true ∧ v = PfxV u n b ∧ d = pfxD u n b ∧ p = [] ∧ pfxOk n b := by
  obtain ⟨cs, rfl, hsz⟩ := okWide_struct Tryz.underlying38 hv
  obtain ⟨c0, c1, c2, c3, rfl⟩ := arr4 (hsz.trans Tryz.cellsPfx)
  obtain ⟨fuel, hf⟩ := h
  obtain ⟨u, n, b, hn, rfl, rfl, rfl, rfl, e, ho⟩ := trod_pfx_form hf
  simp only [Prod.mk.injEq] at e
  exact ⟨u, n, b, hn, ho.2, rfl, e.1, e.2, ho⟩
set_option maxRecDepth 100000 in
theorem shut_pfx {H : Type} {enc : TypeId × Value → H} {W : World} {base : Nat} {sp : Nat → Bool} {u : Bool} {n : Nat} {b : Int} (h : pfxOk n b) :
    DataW.Trod enc Tryz.prog W base sp true 38 (PfxV u n b) (pfxD u n b) [] := ⟨4, trod_pfx_mk h⟩
end Go.Proofs.YtgdgklibilddgaaGreatDoor

namespace Go.Proofs.YtgdgklibilddgaaGreatDoor
open Go.ChangeShapes Go.WideShapes Go.ChangeAt Go.RowKit
open Go.ChangeMaps (open_string shut_string)

set_option maxRecDepth 100000 in
theorem prefixTexts_lifted (os : Os) (started : os.Started) (H : Type) (enc : TypeId × Value → H) :
    ReturnsInHanded {} Tryz.checked os 4 .any (fun w args => (Rows.prefixTextsSpec.pre enc Tryz.prog Tryz.f4 [] false w args ∧ laidMetH Tryz.prog listA w) ∧ sizedMet enc Tryz.prog Tryz.f4 (OpenSpec.ofChange Rows.prefixTextsSpec) false w args)
      (Rows.prefixTextsSpec.post enc Tryz.prog Tryz.f4 false true false false) := by
  refine lift_shaped (C := Tryz.checked) (X := fun w _ => laidMetH Tryz.prog listA w) (fun _ _ _ hh h => h.of_heap hh) Tryz.own started (by kernel_rfl) Tryz.func4
    (ChangeSpec.witness_shaped (enc := enc) (C := Tryz.checked) (os := os) (X := fun w _ => laidMetH Tryz.prog listA w) false (World.laidAll Tryz.prog os listA) #[.agg #[.bool false, .int .u64 0, .int .u64 0, .int .i64 0], .string ⟨#[]⟩] 8 (World.laidAll_os _ _ _) (World.shaped_of_ZipB (by kernel_rfl) (by kernel_rfl)) (by kernel_rfl) (by kernel_rfl) (by kernel_rfl) (doorA_met os _)) ?_
  intro W base args ds gs before hval0 hW hL hSh
  have hval : ∀ (j : Nat) t v, Tryz.f4.params[j]? = some t → args[j]? = some v → Value.okWide Tryz.prog W .any base t v := hval0
  have hW' := hW
  obtain ⟨p, q, hA0, hV, rfl, _, _⟩ := hW
  have hA : DataW.TrodAll enc Tryz.prog W 0 (fun _ => true) true Tryz.f4.params.toList args.toList ds p := hA0
  rw [Tryz.params4] at hA hval
  obtain ⟨v0, v1, d0, d1, p0, p1, rfl, rfl, rfl, h0, h1⟩ := trodAll_two hA
  obtain ⟨rfl, rfl⟩ := trodVars_none hV
  obtain ⟨u0, x0, b0, hx0, hb0, rfl, rfl, rfl, ho0⟩ := open_pfx (hval 0 38 v0 rfl rfl) h0
  obtain ⟨x1, rfl, rfl, rfl, wx1⟩ := open_string Tryz.underlying9 (hval 1 9 v1 rfl rfl) h1
  clear hA0 hval0
  simp only [List.append_nil] at hW'
  refine (prefixTexts_walk u0 x0 b0 x1 W hx0 hb0 (glob_of hL hSh)).mono fun e W' ⟨he, hw⟩ => ?_
  subst he
  exact ⟨_, rfl, post_below (pa := []) (pv := []) hW' (fun _ _ _ => trodAll_mk1 (shut_bool Tryz.underlying4 _)) (fun sp _ => trodAll_mk2 (shut_pfx ho0) (shut_string Tryz.underlying9 wx1)) (fun _ _ => rfl) rfl
    hw (ok_one (by kernel_rfl) rfl (okWide_bool_mk Tryz.underlying4 _))⟩

theorem prefixTexts_row : Rows.PrefixTextsSaid :=
  OpenClaim.holds_of_wide 4 Tryz.f4 rfl rfl rfl rfl rfl rfl rfl ⟨rfl, rfl, rfl, rfl, rfl⟩ rfl rfl rfl rfl rfl (by kernel_rfl) Tryz.func4 (by kernel_rfl)
    (of_decide_eq_true (by kernel_rfl)) (by unfold Func.isWrapper; first | (rw [if_pos (by decide +kernel)]; kernel_rfl) | (rw [if_neg (by decide +kernel)]; exact ⟨rfl, rfl⟩))
    (fun os started H enc _ => prefixTexts_lifted os started H enc)

theorem prefixTexts_card : Rows.PrefixTextsCardSaid :=
  Claim7.holds_tied_plain_at .later [] [.data, .data, .data, .data, .sentinel, .sentinel, .pinned] true Rows.prefixTextsCard.stood.harness true
    prefixTexts_row (fun _ h => by cases h) (by kernel_rfl) (fun _ h => by cases h) prefixTexts_row_tie rfl ⟨rfl, rfl⟩ (by kernel_rfl) rfl
    (fun f fn hf hfn => by
      obtain rfl : f = 4 := Option.some.inj ((show Tryz.prog.funcNamed "platbook/platbooklaw03.PrefixTexts" = some 4 by kernel_rfl).symm.trans hf) |>.symm
      obtain rfl : fn = Tryz.f4 := (Option.some.inj (Tryz.func4.symm.trans hfn)).symm
      exact ⟨by kernel_rfl, fun j t ht => by
        rw [Tryz.params4] at ht
        have hm : t ∈ [38, 9] := by simpa using Array.mem_of_getElem? ht
        have hall : ([38, 9].all fun u => !Tryz.prog.wantsStandIn u) = true := by kernel_rfl
        exact (show Tryz.prog.wantsStandIn t = false by simpa using List.all_eq_true.1 hall t hm)⟩)
    (by kernel_rfl)
end Go.Proofs.YtgdgklibilddgaaGreatDoor

#print axioms Go.Proofs.YtgdgklibilddgaaGreatDoor.prefixTexts_card
