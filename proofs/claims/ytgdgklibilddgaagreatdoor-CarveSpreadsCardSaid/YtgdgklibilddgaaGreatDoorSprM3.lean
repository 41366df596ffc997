/-
A part of the proof of carveSpreads_card: its lemmas and walks, part 3. No condition.
-/
import Derived.Test.YtgdgklibilddgaaGreatDoorSprM2
set_option linter.unusedVariables false
set_option linter.unusedSimpArgs false
namespace Go.Proofs.YtgdgklibilddgaaGreatDoor.PSp
open Go.RowKit Go.Proofs.YtgdgklibilddgaaGreatDoorW.PrintWords Go.Proofs.YtgdgklibilddgaaGreatDoorW.PrintLast Go.Proofs.YtgdgklibilddgaaGreatDoorW.PrintMore
attribute [local go_sem] max2_int min2_int max_two min_two max_three min_three max_four min_four   -- for this text's walks alone

attribute [local go_sem high] eqA26
def platbookref03_Filled.l0 : Nat → Int → List Int → Int → Bool → Int → Int → Option (Bool × Int × Int)
 | 0, _, _, _, _, _, _ => none
 | k + 1, x2, x7, x8, x138000, x138001, x138002 => if x8 < (x7.length : Int) then (if 0 ≤ x8 then (platbookref03_Filled.l0 k x2 (x7.set (x8 : Int).toNat x2) (wrap64 (x8 + 1)) x138000 x138001 x138002) else (none)) else ((platbookref03_Addr.f k x138000 x7).bind fun bt143 => (some (bt143.1, bt143.2.1, bt143.2.2)))
def platbookref03_Filled.f (k : Nat) (a0_0 : Bool) (a0_1 : Int) (a0_2 : Int) (a1 : Int) (a2 : Int) : Option (Bool × Int × Int) := (platbookref03_Row.f k a0_0 a0_1 a0_2).bind fun t139 => (platbookref03_Filled.l0 k a2 t139 a1 a0_0 a0_1 a0_2)
set_option maxHeartbeats 8000000 in
set_option maxRecDepth 100000 in
theorem platbookref03_Filled.calls (k : Nat) (a0_0 : Bool) (a0_1 : Int) (a0_2 : Int) (a1 : Int) (a2 : Int) (r1 : Bool) (r2 : Int) (r3 : Int) (w : World) (h : platbookref03_Filled.f k a0_0 a0_1 a0_2 a1 a2 = some (r1, r2, r3)) :
  Calls Tryz.prog 78 #[.agg #[.bool a0_0, .int .u64 a0_1, .int .u64 a0_2], .int .i64 a1, .int .i64 a2] w fun e w' => e = .returned (.agg #[.bool r1, .int .u64 r2, .int .u64 r3]) ∧ Below w.heap.size w w' := by
 have hu26 := Tryz.underlying26
 have HB := Aside0.mk (Below.refl w.heap.size w)
 have H : ((platbookref03_Row.f k a0_0 a0_1 a0_2).bind fun t139 => (platbookref03_Filled.l0 k a2 t139 a1 a0_0 a0_1 a0_2)) = some (r1, r2, r3) := h
 clear h
 replace H := Option.bind_eq_some_iff.mp H
 obtain ⟨t139, A40, H⟩ := H
 replace H : (platbookref03_Filled.l0 k a2 t139 a1 a0_0 a0_1 a0_2) = some (r1, r2, r3) := H
 have A4 := Aside0.mk A40
 clear A40
 have H' := Aside0.mk H
 clear H
 go_enter Tryz.func78, Tryz.ntmps78
 go_wp2_with (first | ((with_reducible refine gate_dst (N := 3) rfl ?_); refine bx_ 3 #[.bool a0_0, .int .u64 a0_1, .int .u64 a0_2] 26 ?_; intro gb137 hg w5 hbox hb; have BK137 := Aside0.mk (hbox); have GW137 := gw_ HB hg; have GE137 := gw_ HB hg; replace HB := bs_ HB hb; clear hb hbox hg) | ((with_reducible refine gate_dst (N := 6) rfl ?_); refine bx_ 6 #[.bool false, .int .u64 0, .int .u64 0] 26 ?_; intro gb138 hg w6 hbox hb; have BK138 := Aside0.mk (hbox); have GW138 := gw_ HB hg; have GE138 := gw_ HB hg; have NB137_138 := nl_ BK137 hg; have NB138_137 := ng_ BK137 hg; replace BK137 := bb_ BK137 hb; replace HB := bs_ HB hb; clear hb hbox hg; have hnb7 := NB137_138.out; have hnc7 := NB138_137.out; obtain ⟨hcz8_0, hcz8_1, hcz8_2, hfz8_0, hfz8_1, hfz8_2⟩ := c3_ BK137) | ((with_reducible refine gate_callee (f := 83) rfl ?_); refine gl_ (some 10) Tryz.func83 #[.agg #[.bool a0_0, .int .u64 a0_1, .int .u64 a0_2]] ?_; (with_reducible refine (platbookref03_Row.calls k a0_0 a0_1 a0_2 t139 _ A4.out).mono ?_); rintro e w9 ⟨v140, rfl, ho0, hb⟩; refine ⟨_, rfl, ?_⟩; have HO141 := Aside0.mk (Kd.R_lower ho0 (below_size (pb_ HB))); replace BK137 := bb_ BK137 hb; replace BK138 := bb_ BK138 hb; replace HB := bs_ HB hb; (try clear hb); (try clear hb2); (try clear hk); (try clear hi); (try clear ho0)))
 go_loopg [8] k (fun kq v8 w' => ∃ (x7_1 : List Int) (x8_1 : Int), v8 = .int .i64 x8_1 ∧ Aside0 (platbookref03_Filled.l0 kq a2 x7_1 x8_1 a0_0 a0_1 a0_2 = some (r1, r2, r3)) ∧ Aside0 (kq ≤ k) ∧ Aside0 (Kd.R (Kd.int .i64) 3 w' w.heap.size (fun _ => True) v140 x7_1) ∧ Aside0 (w'.heap[gb137]? = some (.cells #[.bool a0_0, .int .u64 a0_1, .int .u64 a0_2] 26 (0, 0))) ∧ Aside0 (w'.heap[gb138]? = some (.cells #[.bool false, .int .u64 0, .int .u64 0] 26 (0, 0))) ∧ Aside0 (Below w.heap.size w w'))
 case atStart => exact ⟨(t139), (a1), (by first | rfl | (simp; done) | (simp [*]; done)), H', ⟨Nat.le_refl _⟩, ⟨by (with_reducible repeat (first | apply Kd.R_alloc | apply Kd.R_drewN | apply Kd.R_drew)); exact HO141.out⟩, ⟨by refine pw_ ?_; exact BK137.out⟩, ⟨by refine pw_ ?_; exact BK138.out⟩, ⟨pb_ HB⟩⟩
 case round =>
  clear H'
  try clear p2
  try clear c7
  try clear c8
  try clear hcz8_0
  try clear hcz8_1
  try clear hcz8_2
  try clear hfz8_0
  try clear hfz8_1
  try clear hfz8_2
  obtain ⟨x7_1, x8_1, rfl, HA, HK1, HO_7, BK137, BK138, HB⟩ := hrel
  cases gk with
  | zero => exact absurd HA.out (by simp [platbookref03_Filled.l0])
  | succ k1 =>
   have H := HA.out
   clear HA
   simp only [platbookref03_Filled.l0] at H
   by_cases c10 : x8_1 < (x7_1.length : Int)
   ·
    rw [if_pos c10] at H
    have c10b0 : decide (x8_1 < (x7_1.length : Int)) = true := decide_eq_true c10
    clear c10
    by_cases c11 : 0 ≤ x8_1
    ·
     rw [if_pos c11] at H
     have c11b0 : decide (0 ≤ x8_1) = true := decide_eq_true c11
     clear c11
     obtain ⟨y142, hy142⟩ : ∃ y_ : List Int, y_ = (x7_1.set (x8_1 : Int).toNat a2) := ⟨_, rfl⟩
     replace H : (platbookref03_Filled.l0 k1 a2 y142 (wrap64 (x8_1 + 1)) a0_0 a0_1 a0_2) = some (r1, r2, r3) := by first | (rw [hy142]; with_reducible exact H) | (have H2_ := (Option.bind_some _ _).symm.trans H; rw [hy142]; with_reducible exact H2_) | (have H2_ := (Option.bind_some _ _).symm.trans H; with_reducible exact H2_) | with_reducible exact H | (rw [hy142]; exact H) | exact H
     have Ny142 := Aside0.mk hy142
     clear hy142
     have H' := Aside0.mk H
     clear H
     obtain ⟨Ao13, co13, eo13⟩ := Kd.R_slice HO_7.out
     subst eo13
     have p12 : 0 ≤ (x8_1 : Int) := of_decide_eq_true (by first | (with_reducible assumption) | assumption)
     have q12 : (x8_1 : Int) < ((x7_1.length : Int) : Int) := of_decide_eq_true (by first | (with_reducible assumption) | assumption)
     obtain ⟨go12, co12, eo12, gb12, gl12, cl12, HG12⟩ := Kd.R_form HO_7.out (by omega)
     (first | cases eo12 | (injection eo12 with ea_ en_ ec_; (first | subst ea_ | (injection ea_ with ea_; subst ea_)); subst ec_; clear en_))
     have GB12 := Aside0.mk gb12
     have GG12 := Aside0.mk HG12
     clear gb12 gl12 HG12
     obtain ⟨hx12_0, hf12_0⟩ := Kd.R_celln 0 HO_7.out (x8_1 : Int) p12 q12
     replace p12 := eq_true p12
     replace q12 := eq_true q12
     have HP14 := Kd.R_putg HO_7.out (x8_1 : Int) a2
     go_wp2_with (first | ((with_reducible refine gate_store (t := 3) (p := 21) rfl ?_); refine store_event (t := 3) (p := 21) (v := ?vo_w15) (w1 := (wr.setCell ⟨go12, (x8_1 : Int).toNat, none⟩ (.int .i64 a2))) ?hg ?ho ?hn ?hr ?_; (case ho => rfl); (case hg => rfl); (case hn => rfl); (case hr => first | (go_simp; done) | (go_simp; rfl)); intro w15 hw; have hg : wr.grownBy w15 (some go12) := (by rw [hw]; exact HP14.2); have hp_ : Kd.R (Kd.int .i64) 3 w15 w.heap.size (fun _ => True) (.slice (some ⟨go12, 0, none⟩) x7_1.length co13) y142 := (by rw [hw, Ny142.out]; exact HP14.1); clear HP14; have n0_ := Aside0.mk (hp_); have n1_ := Aside0.mk (blk_grown (g := gb137) (o := .cells #[.bool a0_0, .int .u64 a0_1, .int .u64 a0_2] 26 (0, 0)) (pk_ BK137) hg (Kd.R_ne HO_7.out BK137.out (by decide))); have n2_ := Aside0.mk (blk_grown (g := gb138) (o := .cells #[.bool false, .int .u64 0, .int .u64 0] 26 (0, 0)) (pk_ BK138) hg (Kd.R_ne HO_7.out BK138.out (by decide))); have n3_ := Aside0.mk ((by rw [hw]; exact below_set (HB.out) GB12.out : Below w.heap.size w w15)); clear HO_7; clear BK137; clear BK138; clear HB; have HO_7 := n0_; have BK137 := n1_; have BK138 := n2_; have HB := n3_; clear n0_ n1_ n2_ n3_; clear hg hw hp_))
     go_roundg k1
     case measure => have := HK1.out; omega
     case rel => exact ⟨(y142), (wrap64 (x8_1 + 1)), (by first | rfl | (simp; done) | (simp [*]; done)), H', ⟨by have := HK1.out; omega⟩, ⟨by (with_reducible repeat (first | apply Kd.R_alloc | apply Kd.R_drewN | apply Kd.R_drew)); exact HO_7.out⟩, ⟨by refine pw_ ?_; exact BK137.out⟩, ⟨by refine pw_ ?_; exact BK138.out⟩, ⟨pb_ HB⟩⟩
    ·
     rw [if_neg c11] at H
     exact absurd H (by simp)
   ·
    rw [if_neg c10] at H
    have c10b0 : decide (x8_1 < (x7_1.length : Int)) = false := decide_eq_false c10
    clear c10
    replace H := Option.bind_eq_some_iff.mp H
    obtain ⟨⟨t143, t144, t145⟩, A160, H⟩ := H
    replace H : (some (t143, t144, t145)) = some (r1, r2, r3) := H
    have A16 := Aside0.mk A160
    clear A160
    simp only [Option.some.injEq, Prod.mk.injEq] at H
    obtain ⟨rfl, rfl, rfl⟩ := H
    obtain ⟨Ao17, co17, eo17⟩ := Kd.R_slice HO_7.out
    subst eo17
    have hnb18 := NB137_138.out
    have hnc18 := NB138_137.out
    obtain ⟨hcz19_0, hcz19_1, hcz19_2, hfz19_0, hfz19_1, hfz19_2⟩ := c3_ BK137
    go_wp2_with (first | ((with_reducible refine gate_callee (f := 93) rfl ?_); refine gl_ (some 25) Tryz.func93 #[.bool a0_0, .slice Ao17 x7_1.length co17] ?_; (with_reducible refine (platbookref03_Addr.calls k1 a0_0 _ _ x7_1 t143 t144 t145 _ ?side1 ?side2 A16.out).mono ?_); (case side1 => repeat (first | exact (Kd.R_reads' HO_7.out).2.2 | (with_reducible refine Kd.C_alloc ?_ _) | (with_reducible refine Kd.C_drewN ?_ _) | (with_reducible refine Kd.C_drew ?_))); (case side2 => exact (Kd.R_reads' HO_7.out).2.1); rintro e w20 ⟨rfl, hb⟩; refine ⟨_, rfl, ?_⟩; replace HO_7 := Aside0.mk (Kd.R_below (by (with_reducible repeat (first | apply Kd.R_alloc | apply Kd.R_drewN | apply Kd.R_drew)); exact HO_7.out) hb); replace BK137 := bb_ BK137 hb; replace BK138 := bb_ BK138 hb; replace HB := bs_ HB hb; (try clear hb); (try clear hb2); (try clear hk); (try clear hi); obtain ⟨hcz21_0, hcz21_1, hcz21_2, hfz21_0, hfz21_1, hfz21_2⟩ := c3_ BK138))
    refine bodyPost_ret (results_cell_row rfl _ _ gb138 26 #[.bool t143, .int .u64 t144, .int .u64 t145] (0, 0) _ rfl (by refine pw_ ?_; refine blk_put (cs := #[.bool t143, .int .u64 t144, .int .u64 0]) ?_ 2 _ rfl; refine pw_ ?_; refine blk_put (cs := #[.bool t143, .int .u64 0, .int .u64 0]) ?_ 1 _ rfl; refine pw_ ?_; refine blk_put (cs := #[.bool false, .int .u64 0, .int .u64 0]) ?_ 0 _ rfl; refine pw_ ?_; exact BK138.out) Tryz.underlying26 rfl (by kernel_rfl)) rfl ?_
    exact ⟨by first | rfl | (simp [errW_none, errW_some] <;> rfl) | (simp [*, errW_none, errW_some] <;> rfl), pb_ HB⟩

def platbookref03_Right.f (k : Nat) (a0_0 : Bool) (a0_1 : Int) (a0_2 : Int) (a0_3 : Int) : Option (Bool) := (platbookref02_Right.f a0_0 a0_1 a0_2).bind fun t147 => (if t147 = true then (if a0_3 < 0 then (some false) else ((platbookref02_Width.f a0_0 a0_1 a0_2).bind fun t148 => (if a0_3 > t148 then (some false) else ((platbookref03_Filled.f k a0_0 a0_1 a0_2 a0_3 0).bind fun bt149 => (some (bt149.1 == a0_0 && ((bt149.2.1 == a0_1 && (bt149.2.2 == a0_2))))))))) else (some false))
def platbookref03_Right.T1 : Bool × List (List Nat × List Nat) := (true, [([], []), ([0], [0]), ([1], [1]), ([2], [2]), ([3, 2], [3]), ([4], [4]), ([5, 4], [4, 5]), ([6, 4], [4, 6]), ([4, 7], [4, 7]), ([8, 4], [8]), ([9], [9]), ([10, 9], [9, 10]), ([9], [9]), ([12, 9], [9, 12]), ([13, 9, 9], [9, 13]), ([11, 14, 9], [9, 11, 14]), ([9, 15], [9, 15])])
def platbookref03_Right.B1 : List Nat := [0, 1, 3, 7, 15, 31, 63, 127, 255, 511, 1023, 2047, 1023, 5119, 13311, 32767, 65535]
theorem platbookref03_Right.tab1 : rtab .any (opsOf Tryz.f29 1) = platbookref03_Right.T1 := by kernel_rfl
theorem platbookref03_Right.bits1 : waitsOk platbookref03_Right.T1.2 platbookref03_Right.B1 = true := by kernel_rfl
def platbookref03_Right.T3 : Bool × List (List Nat × List Nat) := (true, [([], []), ([0], [0]), ([], []), ([2], [2]), ([1, 3], [1, 3]), ([], []), ([5], [5]), ([4, 6], [4, 6]), ([7, 4, 0, 1, 2, 3, 4, 5, 6, 7], [7])])
def platbookref03_Right.B3 : List Nat := [0, 1, 0, 4, 15, 0, 32, 127, 255]
theorem platbookref03_Right.tab3 : rtab .any (opsOf Tryz.f29 3) = platbookref03_Right.T3 := by kernel_rfl
theorem platbookref03_Right.bits3 : waitsOk platbookref03_Right.T3.2 platbookref03_Right.B3 = true := by kernel_rfl
set_option maxHeartbeats 8000000 in
set_option maxRecDepth 100000 in
theorem platbookref03_Right.calls (k : Nat) (a0_0 : Bool) (a0_1 : Int) (a0_2 : Int) (a0_3 : Int) (r : Bool) (w : World) (h : platbookref03_Right.f k a0_0 a0_1 a0_2 a0_3 = some r) :
  Calls Tryz.prog 29 #[.agg #[.bool a0_0, .int .u64 a0_1, .int .u64 a0_2, .int .i64 a0_3]] w fun e w' => e = .returned (.bool r) ∧ Below w.heap.size w w' := by
 have hu38 := Tryz.underlying38
 have hu26 := Tryz.underlying26
 have HB := Aside0.mk (Below.refl w.heap.size w)
 have H : ((platbookref02_Right.f a0_0 a0_1 a0_2).bind fun t147 => (if t147 = true then (if a0_3 < 0 then (some false) else ((platbookref02_Width.f a0_0 a0_1 a0_2).bind fun t148 => (if a0_3 > t148 then (some false) else ((platbookref03_Filled.f k a0_0 a0_1 a0_2 a0_3 0).bind fun bt149 => (some (bt149.1 == a0_0 && ((bt149.2.1 == a0_1 && (bt149.2.2 == a0_2))))))))) else (some false))) = some r := h
 clear h
 replace H := Option.bind_eq_some_iff.mp H
 obtain ⟨t147, A20, H⟩ := H
 replace H : (if t147 = true then (if a0_3 < 0 then (some false) else ((platbookref02_Width.f a0_0 a0_1 a0_2).bind fun t148 => (if a0_3 > t148 then (some false) else ((platbookref03_Filled.f k a0_0 a0_1 a0_2 a0_3 0).bind fun bt149 => (some (bt149.1 == a0_0 && ((bt149.2.1 == a0_1 && (bt149.2.2 == a0_2))))))))) else (some false)) = some r := H
 have A2 := Aside0.mk A20
 clear A20
 by_cases c3 : t147 = true
 ·
  subst c3
  rw [if_pos rfl] at H
  by_cases c4 : a0_3 < 0
  ·
   rw [if_pos c4] at H
   have c4b0 : decide (a0_3 < 0) = true := decide_eq_true c4
   clear c4
   obtain rfl := Option.some.inj H
   go_enter Tryz.func29, Tryz.ntmps29
   try go_wp2_with (first | ((with_reducible refine gate_dst (N := 1) rfl ?_); refine bx_ 1 #[.bool a0_0, .int .u64 a0_1, .int .u64 a0_2, .int .i64 a0_3] 38 ?_; intro gb146 hg w5 hbox hb; have BK146 := Aside0.mk (hbox); have GW146 := gw_ HB hg; have GE146 := gw_ HB hg; replace HB := bs_ HB hb; clear hb hbox hg))
   replace BK146 := Aside0.mk (blk_drew BK146.out)
   replace HB := Aside0.mk (below_drew1 HB.out)
   refine start_ (n := 17) (S := fun w' => w'.cell? ⟨gb146, 0, none⟩ = some (.bool a0_0) ∧ w'.cell? ⟨gb146, 1, none⟩ = some (.int .u64 a0_1) ∧ w'.cell? ⟨gb146, 2, none⟩ = some (.int .u64 a0_2) ∧ w'.cell? ⟨gb146, 3, none⟩ = some (.int .i64 a0_3)) (ds := []) (bm_ 17 0) (by kernel_rfl) rfl rfl ⟨kc_ BK146 0, kc_ BK146 1, kc_ BK146 2, kc_ BK146 3⟩ (fun hHeld => ?_); refine with_tabW platbookref03_Right.tab1 platbookref03_Right.bits1 (fun HT_ HW_ => ?_)
   generalize w5.drew = w6 at BK146 HB hHeld ⊢
   refine pu_ 0 (some 3) (bm_ 17 1) rfl HT_ ⟨by rfl, by intro w'; go_simp; with_reducible rfl⟩ ?_
   refine ta_ 1 (some 4) (bm_ 17 3) rfl HT_ HW_ ⟨by rfl, by rintro w' ⟨s0, s1, s2, s3⟩; go_simp; with_reducible rfl⟩ hHeld ?_
   refine one_ (i := 2) (N := some 5) (bm_ 17 7) rfl rfl (one_of HT_.out (by kernel_rfl)) (by decide) (fun K hK => ?_)
   refine gr_ Tryz.func19 #[.agg #[.bool a0_0, .int .u64 a0_1, .int .u64 a0_2]] ?_
   with_reducible refine (platbookref02_Right.calls a0_0 a0_1 a0_2 true _ A2.out).mono ?_
   rintro e w7 ⟨rfl, hb⟩
   refine ⟨_, rfl, ?_⟩
   replace BK146 := bb_ BK146 hb
   replace HB := bs_ HB hb
   (try clear hb)
   (try clear hb2)
   (try clear hk)
   (try clear hi)
   refine hK.out _ _ ⟨kc_ BK146 0, kc_ BK146 1, kc_ BK146 2, kc_ BK146 3⟩ (fun hHeld => ?_)
   clear hK K
   refine norm_ (a' := ?_) ?_ ?_
   rotate_left
   ·
    show Act.put _ (some 5) _ = _
    simp only [Act.put, List.setIfInBounds_toArray, List.set_cons_zero, List.set_cons_succ, i64_w, i32_w]
    rfl
   refine pu_ 3 (some 6) (bm_ 17 15) rfl HT_ ⟨by rfl, by intro w'; go_simp; with_reducible rfl⟩ ?_
   refine pu_ 4 (some 7) (bm_ 17 31) rfl HT_ ⟨by rfl, by intro w'; go_simp; with_reducible rfl⟩ ?_
   refine pu_ 5 (some 8) (bm_ 17 63) rfl HT_ ⟨by rfl, by intro w'; go_simp; with_reducible rfl⟩ ?_
   refine ta_ 6 (some 9) (bm_ 17 127) rfl HT_ HW_ ⟨by rfl, by rintro w' ⟨s0, s1, s2, s3⟩; go_simp; with_reducible rfl⟩ hHeld ?_
   refine pu_ 7 (some 10) (bm_ 17 255) rfl HT_ ⟨by rfl, by intro w'; go_simp; with_reducible rfl⟩ ?_
   refine pu_ 8 (some 11) (bm_ 17 511) rfl HT_ ⟨by rfl, by intro w'; go_simp; with_reducible rfl⟩ ?_
   refine pu_ 9 (some 12) (bm_ 17 1023) rfl HT_ ⟨by rfl, by intro w'; go_simp; with_reducible rfl⟩ ?_
   refine pure_ (i := 10) (N := some 13) (v := undef) (a' := ?_) (bm_ 17 2047) rfl rfl (any_of HT_.out (by kernel_rfl)) (fun _ _ _ h => h) (Or.inr ⟨by rfl, rfl⟩) ?_ ?_
   rotate_left
   ·
    simp only [Act.put, List.setIfInBounds_toArray, List.set_cons_zero, List.set_cons_succ, i64_w, i32_w]
    rfl
   refine pure_ (i := 11) (N := some 14) (v := undef) (a' := ?_) (bm_ 17 4095) rfl rfl (any_of HT_.out (by kernel_rfl)) (fun _ _ _ h => h) (Or.inr ⟨by rfl, rfl⟩) ?_ ?_
   rotate_left
   ·
    simp only [Act.put, List.setIfInBounds_toArray, List.set_cons_zero, List.set_cons_succ, i64_w, i32_w]
    rfl
   refine pure_ (i := 12) (N := some 15) (v := undef) (a' := ?_) (bm_ 17 8191) rfl rfl (any_of HT_.out (by kernel_rfl)) (fun _ _ _ h => h) (Or.inr ⟨by rfl, rfl⟩) ?_ ?_
   rotate_left
   ·
    simp only [Act.put, List.setIfInBounds_toArray, List.set_cons_zero, List.set_cons_succ, i64_w, i32_w]
    rfl
   refine pure_ (i := 13) (N := some 16) (v := undef) (a' := ?_) (bm_ 17 16383) rfl rfl (any_of HT_.out (by kernel_rfl)) (fun _ _ _ h => h) (Or.inr ⟨by rfl, rfl⟩) ?_ ?_
   rotate_left
   ·
    simp only [Act.put, List.setIfInBounds_toArray, List.set_cons_zero, List.set_cons_succ, i64_w, i32_w]
    rfl
   refine pure_ (i := 14) (N := some 17) (v := undef) (a' := ?_) (bm_ 17 32767) rfl rfl (any_of HT_.out (by kernel_rfl)) (fun _ _ _ h => h) (Or.inr ⟨by rfl, rfl⟩) ?_ ?_
   rotate_left
   ·
    simp only [Act.put, List.setIfInBounds_toArray, List.set_cons_zero, List.set_cons_succ, i64_w, i32_w]
    rfl
   refine pure_ (i := 15) (N := some 18) (v := undef) (a' := ?_) (bm_ 17 65535) rfl rfl (any_of HT_.out (by kernel_rfl)) (fun _ _ _ h => h) (Or.inr ⟨by rfl, rfl⟩) ?_ ?_
   rotate_left
   ·
    simp only [Act.put, List.setIfInBounds_toArray, List.set_cons_zero, List.set_cons_succ, i64_w, i32_w]
    rfl
   refine pu_ 16 (some 19) (bm_ 17 131071) rfl HT_ ⟨by rfl, by intro w'; go_simp; with_reducible rfl⟩ ?_
   refine done_ (done_of HT_.out (by kernel_rfl)) ?_
   try go_wp2
   go_ret
   exact ⟨by first | rfl | (simp [errW_none, errW_some] <;> rfl) | (simp [*, errW_none, errW_some] <;> rfl), pb_ HB⟩
  ·
   rw [if_neg c4] at H
   have c4b0 : decide (a0_3 < 0) = false := decide_eq_false c4
   clear c4
   replace H := Option.bind_eq_some_iff.mp H
   obtain ⟨t148, A80, H⟩ := H
   replace H : (if a0_3 > t148 then (some false) else ((platbookref03_Filled.f k a0_0 a0_1 a0_2 a0_3 0).bind fun bt149 => (some (bt149.1 == a0_0 && ((bt149.2.1 == a0_1 && (bt149.2.2 == a0_2))))))) = some r := H
   have A8 := Aside0.mk A80
   clear A80
   by_cases c9 : a0_3 > t148
   ·
    rw [if_pos c9] at H
    have c9b0 : decide (t148 < a0_3) = true := decide_eq_true c9
    clear c9
    obtain rfl := Option.some.inj H
    go_enter Tryz.func29, Tryz.ntmps29
    try go_wp2_with (first | ((with_reducible refine gate_dst (N := 1) rfl ?_); refine bx_ 1 #[.bool a0_0, .int .u64 a0_1, .int .u64 a0_2, .int .i64 a0_3] 38 ?_; intro gb146 hg w10 hbox hb; have BK146 := Aside0.mk (hbox); have GW146 := gw_ HB hg; have GE146 := gw_ HB hg; replace HB := bs_ HB hb; clear hb hbox hg))
    replace BK146 := Aside0.mk (blk_drew BK146.out)
    replace HB := Aside0.mk (below_drew1 HB.out)
    refine start_ (n := 17) (S := fun w' => w'.cell? ⟨gb146, 0, none⟩ = some (.bool a0_0) ∧ w'.cell? ⟨gb146, 1, none⟩ = some (.int .u64 a0_1) ∧ w'.cell? ⟨gb146, 2, none⟩ = some (.int .u64 a0_2) ∧ w'.cell? ⟨gb146, 3, none⟩ = some (.int .i64 a0_3)) (ds := []) (bm_ 17 0) (by kernel_rfl) rfl rfl ⟨kc_ BK146 0, kc_ BK146 1, kc_ BK146 2, kc_ BK146 3⟩ (fun hHeld => ?_); refine with_tabW platbookref03_Right.tab1 platbookref03_Right.bits1 (fun HT_ HW_ => ?_)
    generalize w10.drew = w11 at BK146 HB hHeld ⊢
    refine pu_ 0 (some 3) (bm_ 17 1) rfl HT_ ⟨by rfl, by intro w'; go_simp; with_reducible rfl⟩ ?_
    refine ta_ 1 (some 4) (bm_ 17 3) rfl HT_ HW_ ⟨by rfl, by rintro w' ⟨s0, s1, s2, s3⟩; go_simp; with_reducible rfl⟩ hHeld ?_
    refine one_ (i := 2) (N := some 5) (bm_ 17 7) rfl rfl (one_of HT_.out (by kernel_rfl)) (by decide) (fun K hK => ?_)
    refine gr_ Tryz.func19 #[.agg #[.bool a0_0, .int .u64 a0_1, .int .u64 a0_2]] ?_
    with_reducible refine (platbookref02_Right.calls a0_0 a0_1 a0_2 true _ A2.out).mono ?_
    rintro e w12 ⟨rfl, hb⟩
    refine ⟨_, rfl, ?_⟩
    replace BK146 := bb_ BK146 hb
    replace HB := bs_ HB hb
    (try clear hb)
    (try clear hb2)
    (try clear hk)
    (try clear hi)
    refine hK.out _ _ ⟨kc_ BK146 0, kc_ BK146 1, kc_ BK146 2, kc_ BK146 3⟩ (fun hHeld => ?_)
    clear hK K
    refine norm_ (a' := ?_) ?_ ?_
    rotate_left
    ·
     show Act.put _ (some 5) _ = _
     simp only [Act.put, List.setIfInBounds_toArray, List.set_cons_zero, List.set_cons_succ, i64_w, i32_w]
     rfl
    refine pu_ 3 (some 6) (bm_ 17 15) rfl HT_ ⟨by rfl, by intro w'; go_simp; with_reducible rfl⟩ ?_
    refine pu_ 4 (some 7) (bm_ 17 31) rfl HT_ ⟨by rfl, by intro w'; go_simp; with_reducible rfl⟩ ?_
    refine pu_ 5 (some 8) (bm_ 17 63) rfl HT_ ⟨by rfl, by intro w'; go_simp; with_reducible rfl⟩ ?_
    refine ta_ 6 (some 9) (bm_ 17 127) rfl HT_ HW_ ⟨by rfl, by rintro w' ⟨s0, s1, s2, s3⟩; go_simp; with_reducible rfl⟩ hHeld ?_
    refine pu_ 7 (some 10) (bm_ 17 255) rfl HT_ ⟨by rfl, by intro w'; go_simp; with_reducible rfl⟩ ?_
    refine pu_ 8 (some 11) (bm_ 17 511) rfl HT_ ⟨by rfl, by intro w'; go_simp; with_reducible rfl⟩ ?_
    refine pu_ 9 (some 12) (bm_ 17 1023) rfl HT_ ⟨by rfl, by intro w'; go_simp; with_reducible rfl⟩ ?_
    refine pu_ 10 (some 13) (bm_ 17 2047) rfl HT_ ⟨by rfl, by intro w'; go_simp; with_reducible rfl⟩ ?_
    refine pu_ 12 (some 15) (bm_ 17 6143) rfl HT_ ⟨by rfl, by intro w'; go_simp; with_reducible rfl⟩ ?_
    refine ta_ 11 (some 14) (bm_ 17 8191) rfl HT_ HW_ ⟨by rfl, by rintro w' ⟨s0, s1, s2, s3⟩; go_simp; with_reducible rfl⟩ hHeld ?_
    refine ta_ 13 (some 16) (bm_ 17 16383) rfl HT_ HW_ ⟨by rfl, by rintro w' ⟨s0, s1, s2, s3⟩; go_simp; with_reducible rfl⟩ hHeld ?_
    refine one_ (i := 14) (N := some 17) (bm_ 17 32767) rfl rfl (one_of HT_.out (by kernel_rfl)) (by decide) (fun K hK => ?_)
    refine gr_ Tryz.func23 #[.agg #[.bool a0_0, .int .u64 a0_1, .int .u64 a0_2]] ?_
    with_reducible refine (platbookref02_Width.calls a0_0 a0_1 a0_2 t148 _ A8.out).mono ?_
    rintro e w13 ⟨rfl, hb⟩
    refine ⟨_, rfl, ?_⟩
    replace BK146 := bb_ BK146 hb
    replace HB := bs_ HB hb
    (try clear hb)
    (try clear hb2)
    (try clear hk)
    (try clear hi)
    refine hK.out _ _ ⟨kc_ BK146 0, kc_ BK146 1, kc_ BK146 2, kc_ BK146 3⟩ (fun hHeld => ?_)
    clear hK K
    refine norm_ (a' := ?_) ?_ ?_
    rotate_left
    ·
     show Act.put _ (some 17) _ = _
     simp only [Act.put, List.setIfInBounds_toArray, List.set_cons_zero, List.set_cons_succ, i64_w, i32_w]
     rfl
    refine pu_ 15 (some 18) (bm_ 17 65535) rfl HT_ ⟨by rfl, by intro w'; go_simp; with_reducible rfl⟩ ?_
    refine pu_ 16 (some 19) (bm_ 17 131071) rfl HT_ ⟨by rfl, by intro w'; go_simp; with_reducible rfl⟩ ?_
    refine done_ (done_of HT_.out (by kernel_rfl)) ?_
    try go_wp2
    go_ret
    exact ⟨by first | rfl | (simp [errW_none, errW_some] <;> rfl) | (simp [*, errW_none, errW_some] <;> rfl), pb_ HB⟩
   ·
    rw [if_neg c9] at H
    have c9b0 : decide (t148 < a0_3) = false := decide_eq_false c9
    clear c9
    replace H := Option.bind_eq_some_iff.mp H
    obtain ⟨⟨t149, t150, t151⟩, A140, H⟩ := H
    replace H : (some (t149 == a0_0 && ((t150 == a0_1 && (t151 == a0_2))))) = some r := H
    have A14 := Aside0.mk A140
    clear A140
    obtain rfl := Option.some.inj H
    go_enter Tryz.func29, Tryz.ntmps29
    try go_wp2_with (first | ((with_reducible refine gate_dst (N := 1) rfl ?_); refine bx_ 1 #[.bool a0_0, .int .u64 a0_1, .int .u64 a0_2, .int .i64 a0_3] 38 ?_; intro gb146 hg w15 hbox hb; have BK146 := Aside0.mk (hbox); have GW146 := gw_ HB hg; have GE146 := gw_ HB hg; replace HB := bs_ HB hb; clear hb hbox hg))
    replace BK146 := Aside0.mk (blk_drew BK146.out)
    replace HB := Aside0.mk (below_drew1 HB.out)
    refine start_ (n := 17) (S := fun w' => w'.cell? ⟨gb146, 0, none⟩ = some (.bool a0_0) ∧ w'.cell? ⟨gb146, 1, none⟩ = some (.int .u64 a0_1) ∧ w'.cell? ⟨gb146, 2, none⟩ = some (.int .u64 a0_2) ∧ w'.cell? ⟨gb146, 3, none⟩ = some (.int .i64 a0_3)) (ds := []) (bm_ 17 0) (by kernel_rfl) rfl rfl ⟨kc_ BK146 0, kc_ BK146 1, kc_ BK146 2, kc_ BK146 3⟩ (fun hHeld => ?_); refine with_tabW platbookref03_Right.tab1 platbookref03_Right.bits1 (fun HT_ HW_ => ?_)
    generalize w15.drew = w16 at BK146 HB hHeld ⊢
    refine pu_ 0 (some 3) (bm_ 17 1) rfl HT_ ⟨by rfl, by intro w'; go_simp; with_reducible rfl⟩ ?_
    refine ta_ 1 (some 4) (bm_ 17 3) rfl HT_ HW_ ⟨by rfl, by rintro w' ⟨s0, s1, s2, s3⟩; go_simp; with_reducible rfl⟩ hHeld ?_
    refine one_ (i := 2) (N := some 5) (bm_ 17 7) rfl rfl (one_of HT_.out (by kernel_rfl)) (by decide) (fun K hK => ?_)
    refine gr_ Tryz.func19 #[.agg #[.bool a0_0, .int .u64 a0_1, .int .u64 a0_2]] ?_
    with_reducible refine (platbookref02_Right.calls a0_0 a0_1 a0_2 true _ A2.out).mono ?_
    rintro e w17 ⟨rfl, hb⟩
    refine ⟨_, rfl, ?_⟩
    replace BK146 := bb_ BK146 hb
    replace HB := bs_ HB hb
    (try clear hb)
    (try clear hb2)
    (try clear hk)
    (try clear hi)
    refine hK.out _ _ ⟨kc_ BK146 0, kc_ BK146 1, kc_ BK146 2, kc_ BK146 3⟩ (fun hHeld => ?_)
    clear hK K
    refine norm_ (a' := ?_) ?_ ?_
    rotate_left
    ·
     show Act.put _ (some 5) _ = _
     simp only [Act.put, List.setIfInBounds_toArray, List.set_cons_zero, List.set_cons_succ, i64_w, i32_w]
     rfl
    refine pu_ 3 (some 6) (bm_ 17 15) rfl HT_ ⟨by rfl, by intro w'; go_simp; with_reducible rfl⟩ ?_
    refine pu_ 4 (some 7) (bm_ 17 31) rfl HT_ ⟨by rfl, by intro w'; go_simp; with_reducible rfl⟩ ?_
    refine pu_ 5 (some 8) (bm_ 17 63) rfl HT_ ⟨by rfl, by intro w'; go_simp; with_reducible rfl⟩ ?_
    refine ta_ 6 (some 9) (bm_ 17 127) rfl HT_ HW_ ⟨by rfl, by rintro w' ⟨s0, s1, s2, s3⟩; go_simp; with_reducible rfl⟩ hHeld ?_
    refine pu_ 7 (some 10) (bm_ 17 255) rfl HT_ ⟨by rfl, by intro w'; go_simp; with_reducible rfl⟩ ?_
    refine pu_ 8 (some 11) (bm_ 17 511) rfl HT_ ⟨by rfl, by intro w'; go_simp; with_reducible rfl⟩ ?_
    refine pu_ 9 (some 12) (bm_ 17 1023) rfl HT_ ⟨by rfl, by intro w'; go_simp; with_reducible rfl⟩ ?_
    refine pu_ 10 (some 13) (bm_ 17 2047) rfl HT_ ⟨by rfl, by intro w'; go_simp; with_reducible rfl⟩ ?_
    refine pu_ 12 (some 15) (bm_ 17 6143) rfl HT_ ⟨by rfl, by intro w'; go_simp; with_reducible rfl⟩ ?_
    refine ta_ 11 (some 14) (bm_ 17 8191) rfl HT_ HW_ ⟨by rfl, by rintro w' ⟨s0, s1, s2, s3⟩; go_simp; with_reducible rfl⟩ hHeld ?_
    refine ta_ 13 (some 16) (bm_ 17 16383) rfl HT_ HW_ ⟨by rfl, by rintro w' ⟨s0, s1, s2, s3⟩; go_simp; with_reducible rfl⟩ hHeld ?_
    refine one_ (i := 14) (N := some 17) (bm_ 17 32767) rfl rfl (one_of HT_.out (by kernel_rfl)) (by decide) (fun K hK => ?_)
    refine gr_ Tryz.func23 #[.agg #[.bool a0_0, .int .u64 a0_1, .int .u64 a0_2]] ?_
    with_reducible refine (platbookref02_Width.calls a0_0 a0_1 a0_2 t148 _ A8.out).mono ?_
    rintro e w18 ⟨rfl, hb⟩
    refine ⟨_, rfl, ?_⟩
    replace BK146 := bb_ BK146 hb
    replace HB := bs_ HB hb
    (try clear hb)
    (try clear hb2)
    (try clear hk)
    (try clear hi)
    refine hK.out _ _ ⟨kc_ BK146 0, kc_ BK146 1, kc_ BK146 2, kc_ BK146 3⟩ (fun hHeld => ?_)
    clear hK K
    refine norm_ (a' := ?_) ?_ ?_
    rotate_left
    ·
     show Act.put _ (some 17) _ = _
     simp only [Act.put, List.setIfInBounds_toArray, List.set_cons_zero, List.set_cons_succ, i64_w, i32_w]
     rfl
    refine pu_ 15 (some 18) (bm_ 17 65535) rfl HT_ ⟨by rfl, by intro w'; go_simp; with_reducible rfl⟩ ?_
    refine pu_ 16 (some 19) (bm_ 17 131071) rfl HT_ ⟨by rfl, by intro w'; go_simp; with_reducible rfl⟩ ?_
    refine done_ (done_of HT_.out (by kernel_rfl)) ?_
    try go_wp2
    replace BK146 := Aside0.mk (blk_drew BK146.out)
    replace HB := Aside0.mk (below_drew1 HB.out)
    refine start_ (n := 9) (S := fun w' => w'.cell? ⟨gb146, 0, none⟩ = some (.bool a0_0) ∧ w'.cell? ⟨gb146, 1, none⟩ = some (.int .u64 a0_1) ∧ w'.cell? ⟨gb146, 2, none⟩ = some (.int .u64 a0_2) ∧ w'.cell? ⟨gb146, 3, none⟩ = some (.int .i64 a0_3)) (ds := []) (bm_ 9 0) (by kernel_rfl) rfl rfl ⟨kc_ BK146 0, kc_ BK146 1, kc_ BK146 2, kc_ BK146 3⟩ (fun hHeld => ?_); refine with_tabW platbookref03_Right.tab3 platbookref03_Right.bits3 (fun HT_ HW_ => ?_)
    generalize w18.drew = w19 at BK146 HB hHeld ⊢
    refine pu_ 0 (some 20) (bm_ 9 1) rfl HT_ ⟨by rfl, by intro w'; go_simp; with_reducible rfl⟩ ?_
    refine pu_ 2 (some 22) (bm_ 9 5) rfl HT_ ⟨by rfl, by intro w'; go_simp; with_reducible rfl⟩ ?_
    refine pu_ 5 (some 25) (bm_ 9 37) rfl HT_ ⟨by rfl, by intro w'; go_simp; with_reducible rfl⟩ ?_
    refine ta_ 1 (some 21) (bm_ 9 39) rfl HT_ HW_ ⟨by rfl, by rintro w' ⟨s0, s1, s2, s3⟩; go_simp; with_reducible rfl⟩ hHeld ?_
    refine ta_ 3 (some 23) (bm_ 9 47) rfl HT_ HW_ ⟨by rfl, by rintro w' ⟨s0, s1, s2, s3⟩; go_simp; with_reducible rfl⟩ hHeld ?_
    refine ta_ 6 (some 26) (bm_ 9 111) rfl HT_ HW_ ⟨by rfl, by rintro w' ⟨s0, s1, s2, s3⟩; go_simp; with_reducible rfl⟩ hHeld ?_
    refine one_ (i := 4) (N := some 24) (bm_ 9 127) rfl rfl (one_of HT_.out (by kernel_rfl)) (by decide) (fun K hK => ?_)
    refine gr_ Tryz.func78 #[.agg #[.bool a0_0, .int .u64 a0_1, .int .u64 a0_2], .int .i64 a0_3, .int .i64 0] ?_
    with_reducible refine (platbookref03_Filled.calls k a0_0 a0_1 a0_2 a0_3 0 t149 t150 t151 _ A14.out).mono ?_
    rintro e w20 ⟨rfl, hb⟩
    refine ⟨_, rfl, ?_⟩
    replace BK146 := bb_ BK146 hb
    replace HB := bs_ HB hb
    (try clear hb)
    (try clear hb2)
    (try clear hk)
    (try clear hi)
    refine hK.out _ _ ⟨kc_ BK146 0, kc_ BK146 1, kc_ BK146 2, kc_ BK146 3⟩ (fun hHeld => ?_)
    clear hK K
    refine norm_ (a' := ?_) ?_ ?_
    rotate_left
    ·
     show Act.put _ (some 24) _ = _
     simp only [Act.put, List.setIfInBounds_toArray, List.set_cons_zero, List.set_cons_succ, i64_w, i32_w]
     rfl
    refine pu_ 7 (some 27) (bm_ 9 255) rfl HT_ ⟨by rfl, by intro w'; go_simp; with_reducible rfl⟩ ?_
    refine pu_ 8 (some 2) (bm_ 9 511) rfl HT_ ⟨by rfl, by intro w'; go_simp; with_reducible rfl⟩ ?_
    refine done_ (done_of HT_.out (by kernel_rfl)) ?_
    try go_wp2
    go_ret
    exact ⟨by first | rfl | (simp [errW_none, errW_some] <;> rfl) | (simp [*, errW_none, errW_some] <;> rfl), pb_ HB⟩
 ·
  replace c3 := Bool.eq_false_iff.mpr c3
  subst c3
  have H1 : (some false) = some r := by rw [if_neg (show ¬ (false = true) by decide)] at H; exact H
  clear H
  have H := H1
  clear H1
  obtain rfl := Option.some.inj H
  go_enter Tryz.func29, Tryz.ntmps29
  try go_wp2_with (first | ((with_reducible refine gate_dst (N := 1) rfl ?_); refine bx_ 1 #[.bool a0_0, .int .u64 a0_1, .int .u64 a0_2, .int .i64 a0_3] 38 ?_; intro gb146 hg w21 hbox hb; have BK146 := Aside0.mk (hbox); have GW146 := gw_ HB hg; have GE146 := gw_ HB hg; replace HB := bs_ HB hb; clear hb hbox hg))
  replace BK146 := Aside0.mk (blk_drew BK146.out)
  replace HB := Aside0.mk (below_drew1 HB.out)
  refine start_ (n := 17) (S := fun w' => w'.cell? ⟨gb146, 0, none⟩ = some (.bool a0_0) ∧ w'.cell? ⟨gb146, 1, none⟩ = some (.int .u64 a0_1) ∧ w'.cell? ⟨gb146, 2, none⟩ = some (.int .u64 a0_2) ∧ w'.cell? ⟨gb146, 3, none⟩ = some (.int .i64 a0_3)) (ds := []) (bm_ 17 0) (by kernel_rfl) rfl rfl ⟨kc_ BK146 0, kc_ BK146 1, kc_ BK146 2, kc_ BK146 3⟩ (fun hHeld => ?_); refine with_tabW platbookref03_Right.tab1 platbookref03_Right.bits1 (fun HT_ HW_ => ?_)
  generalize w21.drew = w22 at BK146 HB hHeld ⊢
  refine pu_ 0 (some 3) (bm_ 17 1) rfl HT_ ⟨by rfl, by intro w'; go_simp; with_reducible rfl⟩ ?_
  refine ta_ 1 (some 4) (bm_ 17 3) rfl HT_ HW_ ⟨by rfl, by rintro w' ⟨s0, s1, s2, s3⟩; go_simp; with_reducible rfl⟩ hHeld ?_
  refine one_ (i := 2) (N := some 5) (bm_ 17 7) rfl rfl (one_of HT_.out (by kernel_rfl)) (by decide) (fun K hK => ?_)
  refine gr_ Tryz.func19 #[.agg #[.bool a0_0, .int .u64 a0_1, .int .u64 a0_2]] ?_
  with_reducible refine (platbookref02_Right.calls a0_0 a0_1 a0_2 false _ A2.out).mono ?_
  rintro e w23 ⟨rfl, hb⟩
  refine ⟨_, rfl, ?_⟩
  replace BK146 := bb_ BK146 hb
  replace HB := bs_ HB hb
  (try clear hb)
  (try clear hb2)
  (try clear hk)
  (try clear hi)
  refine hK.out _ _ ⟨kc_ BK146 0, kc_ BK146 1, kc_ BK146 2, kc_ BK146 3⟩ (fun hHeld => ?_)
  clear hK K
  refine norm_ (a' := ?_) ?_ ?_
  rotate_left
  ·
   show Act.put _ (some 5) _ = _
   simp only [Act.put, List.setIfInBounds_toArray, List.set_cons_zero, List.set_cons_succ, i64_w, i32_w]
   rfl
  refine pu_ 3 (some 6) (bm_ 17 15) rfl HT_ ⟨by rfl, by intro w'; go_simp; with_reducible rfl⟩ ?_
  refine pu_ 4 (some 7) (bm_ 17 31) rfl HT_ ⟨by rfl, by intro w'; go_simp; with_reducible rfl⟩ ?_
  refine pure_ (i := 5) (N := some 8) (v := undef) (a' := ?_) (bm_ 17 63) rfl rfl (any_of HT_.out (by kernel_rfl)) (fun _ _ _ h => h) (Or.inr ⟨by rfl, rfl⟩) ?_ ?_
  rotate_left
  ·
   simp only [Act.put, List.setIfInBounds_toArray, List.set_cons_zero, List.set_cons_succ, i64_w, i32_w]
   rfl
  refine pure_ (i := 6) (N := some 9) (v := undef) (a' := ?_) (bm_ 17 127) rfl rfl (any_of HT_.out (by kernel_rfl)) (fun _ _ _ h => h) (Or.inr ⟨by rfl, rfl⟩) ?_ ?_
  rotate_left
  ·
   simp only [Act.put, List.setIfInBounds_toArray, List.set_cons_zero, List.set_cons_succ, i64_w, i32_w]
   rfl
  refine pure_ (i := 7) (N := some 10) (v := undef) (a' := ?_) (bm_ 17 255) rfl rfl (any_of HT_.out (by kernel_rfl)) (fun _ _ _ h => h) (Or.inr ⟨by rfl, rfl⟩) ?_ ?_
  rotate_left
  ·
   simp only [Act.put, List.setIfInBounds_toArray, List.set_cons_zero, List.set_cons_succ, i64_w, i32_w]
   rfl
  refine pu_ 8 (some 11) (bm_ 17 511) rfl HT_ ⟨by rfl, by intro w'; go_simp; with_reducible rfl⟩ ?_
  refine pu_ 9 (some 12) (bm_ 17 1023) rfl HT_ ⟨by rfl, by intro w'; go_simp; with_reducible rfl⟩ ?_
  refine pure_ (i := 10) (N := some 13) (v := undef) (a' := ?_) (bm_ 17 2047) rfl rfl (any_of HT_.out (by kernel_rfl)) (fun _ _ _ h => h) (Or.inr ⟨by rfl, rfl⟩) ?_ ?_
  rotate_left
  ·
   simp only [Act.put, List.setIfInBounds_toArray, List.set_cons_zero, List.set_cons_succ, i64_w, i32_w]
   rfl
  refine pure_ (i := 11) (N := some 14) (v := undef) (a' := ?_) (bm_ 17 4095) rfl rfl (any_of HT_.out (by kernel_rfl)) (fun _ _ _ h => h) (Or.inr ⟨by rfl, rfl⟩) ?_ ?_
  rotate_left
  ·
   simp only [Act.put, List.setIfInBounds_toArray, List.set_cons_zero, List.set_cons_succ, i64_w, i32_w]
   rfl
  refine pure_ (i := 12) (N := some 15) (v := undef) (a' := ?_) (bm_ 17 8191) rfl rfl (any_of HT_.out (by kernel_rfl)) (fun _ _ _ h => h) (Or.inr ⟨by rfl, rfl⟩) ?_ ?_
  rotate_left
  ·
   simp only [Act.put, List.setIfInBounds_toArray, List.set_cons_zero, List.set_cons_succ, i64_w, i32_w]
   rfl
  refine pure_ (i := 13) (N := some 16) (v := undef) (a' := ?_) (bm_ 17 16383) rfl rfl (any_of HT_.out (by kernel_rfl)) (fun _ _ _ h => h) (Or.inr ⟨by rfl, rfl⟩) ?_ ?_
  rotate_left
  ·
   simp only [Act.put, List.setIfInBounds_toArray, List.set_cons_zero, List.set_cons_succ, i64_w, i32_w]
   rfl
  refine pure_ (i := 14) (N := some 17) (v := undef) (a' := ?_) (bm_ 17 32767) rfl rfl (any_of HT_.out (by kernel_rfl)) (fun _ _ _ h => h) (Or.inr ⟨by rfl, rfl⟩) ?_ ?_
  rotate_left
  ·
   simp only [Act.put, List.setIfInBounds_toArray, List.set_cons_zero, List.set_cons_succ, i64_w, i32_w]
   rfl
  refine pure_ (i := 15) (N := some 18) (v := undef) (a' := ?_) (bm_ 17 65535) rfl rfl (any_of HT_.out (by kernel_rfl)) (fun _ _ _ h => h) (Or.inr ⟨by rfl, rfl⟩) ?_ ?_
  rotate_left
  ·
   simp only [Act.put, List.setIfInBounds_toArray, List.set_cons_zero, List.set_cons_succ, i64_w, i32_w]
   rfl
  refine pu_ 16 (some 19) (bm_ 17 131071) rfl HT_ ⟨by rfl, by intro w'; go_simp; with_reducible rfl⟩ ?_
  refine done_ (done_of HT_.out (by kernel_rfl)) ?_
  try go_wp2
  go_ret
  exact ⟨by first | rfl | (simp [errW_none, errW_some] <;> rfl) | (simp [*, errW_none, errW_some] <;> rfl), pb_ HB⟩

def num_Of.f (a0 : Int) : Option (Int × Int) := some (0, a0)
set_option maxHeartbeats 8000000 in
set_option maxRecDepth 100000 in
theorem num_Of.calls (a0 : Int) (r1 : Int) (r2 : Int) (w : World) (h : num_Of.f a0 = some (r1, r2)) :
  Calls Tryz.prog 59 #[.int .u64 a0] w fun e w' => e = .returned (.agg #[.int .u64 r1, .int .u64 r2]) ∧ Below w.heap.size w w' := by
 have hu24 := Tryz.underlying24
 have HB := Aside0.mk (Below.refl w.heap.size w)
 have H : (some (0, a0)) = some (r1, r2) := h
 clear h
 simp only [Option.some.injEq, Prod.mk.injEq] at H
 obtain ⟨rfl, rfl⟩ := H
 go_enter Tryz.func59, Tryz.ntmps59
 go_wp2_with (first | ((with_reducible refine gate_dst (N := 2) rfl ?_); refine bx_ 2 #[.int .u64 0, .int .u64 0] 24 ?_; intro gb152 hg w2 hbox hb; have BK152 := Aside0.mk (hbox); have GW152 := gw_ HB hg; have GE152 := gw_ HB hg; replace HB := bs_ HB hb; clear hb hbox hg; obtain ⟨hcz3_0, hcz3_1, hfz3_0, hfz3_1⟩ := c2_ BK152))
 refine bodyPost_ret (results_cell_row rfl _ _ gb152 24 #[.int .u64 0, .int .u64 a0] (0, 0) _ rfl (by refine pw_ ?_; refine blk_put (cs := #[.int .u64 0, .int .u64 0]) ?_ 1 _ rfl; refine pw_ ?_; refine blk_put (cs := #[.int .u64 0, .int .u64 0]) ?_ 0 _ rfl; refine pw_ ?_; exact BK152.out) Tryz.underlying24 rfl (by kernel_rfl)) rfl ?_
 exact ⟨by first | rfl | (simp [errW_none, errW_some] <;> rfl) | (simp [*, errW_none, errW_some] <;> rfl), pb_ HB⟩

end Go.Proofs.YtgdgklibilddgaaGreatDoor.PSp

namespace Go.Proofs.YtgdgklibilddgaaGreatDoor.PSp
open Go.RowKit Go.Proofs.YtgdgklibilddgaaGreatDoorW.PrintWords Go.Proofs.YtgdgklibilddgaaGreatDoorW.PrintLast Go.Proofs.YtgdgklibilddgaaGreatDoorW.PrintMore
attribute [local go_sem] max2_int min2_int max_two min_two max_three min_three max_four min_four   -- for this text's walks alone

theorem eqA38 (d : Nat) (w : World) (x0 y0 : Bool) (x1 y1 : Int) (x2 y2 : Int) (x3 y3 : Int) :
    (Op.equalIn (d + 4) 38 (.agg #[.bool x0, .int .u64 x1, .int .u64 x2, .int .i64 x3]) (.agg #[.bool y0, .int .u64 y1, .int .u64 y2, .int .i64 y3])).run Tryz.prog w = .ok ((x0 == y0 && ((x1 == y1 && (x2 == y2)))) && (x3 == y3)) w := by
  refine eqA_of Tryz.underlying38 (by kernel_rfl) ?_
  refine eqf_cons (by rfl) (by go_simp) (by go_simp) (eqA26 (d + 0) w _ _ _ _ _ _) ?_
  exact eqf_last (by rfl) (by go_simp; rfl) (by go_simp; rfl) (by go_simp)
end Go.Proofs.YtgdgklibilddgaaGreatDoor.PSp

namespace Go.Proofs.YtgdgklibilddgaaGreatDoor.PSp
open Go.RowKit Go.Proofs.YtgdgklibilddgaaGreatDoorW.PrintWords Go.Proofs.YtgdgklibilddgaaGreatDoorW.PrintLast Go.Proofs.YtgdgklibilddgaaGreatDoorW.PrintMore
attribute [local go_sem] max2_int min2_int max_two min_two max_three min_three max_four min_four   -- for this text's walks alone

attribute [local go_sem high] eqA38
def prefix_Of.j0 : Nat → Int → Bool → Bool → Int → Int → Option (Bool × Int × Int × Int × Int)
 | 0, _, _, _, _, _ => none
 | k + 1, x1, x19, x167000, x167001, x167002 => if x19 = true then (some (false, 0, 0, 0, 1)) else ((prefix_free.f x167000 x167001 x167002 x1).bind fun bt171 => ((num_Not.f bt171.1 bt171.2).bind fun bt173 => ((num_And.f x167001 x167002 bt173.1 bt173.2).bind fun bt175 => (some (x167000, bt175.1, bt175.2, x1, 0)))))
def prefix_Of.f (k : Nat) (a0_0 : Bool) (a0_1 : Int) (a0_2 : Int) (a1 : Int) : Option (Bool × Int × Int × Int × Int) := (addr_Right.f a0_0 a0_1 a0_2).bind fun t168 => (if t168 = true then (if a1 < 0 then (prefix_Of.j0 k a1 true a0_0 a0_1 a0_2) else ((addr_Width.f a0_0 a0_1 a0_2).bind fun t169 => (prefix_Of.j0 k a1 (decide (a1 > t169)) a0_0 a0_1 a0_2))) else (prefix_Of.j0 k a1 true a0_0 a0_1 a0_2))
def prefix_Of.T4 : Bool × List (List Nat × List Nat) := (true, [([], []), ([0], [0]), ([], []), ([2], [2]), ([3, 3], [3]), ([1, 4, 4], [1, 4]), ([0, 1, 2, 3, 4, 5], []), ([6, 0, 1, 2, 3, 4, 5], [6]), ([7, 5, 5, 0, 1, 2, 3, 4, 5], [5, 7])])
def prefix_Of.B4 : List Nat := [0, 1, 0, 4, 12, 31, 63, 127, 255]
theorem prefix_Of.tab4 : rtab .any (opsOf Tryz.f34 4) = prefix_Of.T4 := by kernel_rfl
theorem prefix_Of.bits4 : waitsOk prefix_Of.T4.2 prefix_Of.B4 = true := by kernel_rfl
set_option maxHeartbeats 8000000 in
set_option maxRecDepth 100000 in
theorem prefix_Of.calls (k : Nat) (a0_0 : Bool) (a0_1 : Int) (a0_2 : Int) (a1 : Int) (r1 : Bool) (r2 : Int) (r3 : Int) (r4 : Int) (r5 : Int) (w : World) (h : prefix_Of.f k a0_0 a0_1 a0_2 a1 = some (r1, r2, r3, r4, r5)) :
  Calls Tryz.prog 34 #[.agg #[.bool a0_0, .int .u64 a0_1, .int .u64 a0_2], .int .i64 a1] w fun e w' => e = .returned (.tuple #[.agg #[.bool r1, .int .u64 r2, .int .u64 r3, .int .i64 r4], .int .i64 r5]) ∧ Below w.heap.size w w' := by
 have hu26 := Tryz.underlying26
 have hu38 := Tryz.underlying38
 have hu24 := Tryz.underlying24
 have HB := Aside0.mk (Below.refl w.heap.size w)
 have H : ((addr_Right.f a0_0 a0_1 a0_2).bind fun t168 => (if t168 = true then (if a1 < 0 then (prefix_Of.j0 k a1 true a0_0 a0_1 a0_2) else ((addr_Width.f a0_0 a0_1 a0_2).bind fun t169 => (prefix_Of.j0 k a1 (decide (a1 > t169)) a0_0 a0_1 a0_2))) else (prefix_Of.j0 k a1 true a0_0 a0_1 a0_2))) = some (r1, r2, r3, r4, r5) := h
 clear h
 have HC3 := Aside0.mk H
 clear H
 go_enter Tryz.func34, Tryz.ntmps34
 go_upto_region 1 with (first | ((with_reducible refine gate_dst (N := 2) rfl ?_); refine bx_ 2 #[.bool a0_0, .int .u64 a0_1, .int .u64 a0_2] 26 ?_; intro gb166 hg w4 hbox hb; have BK166 := Aside0.mk (hbox); have GW166 := gw_ HB hg; have GE166 := gw_ HB hg; replace HB := bs_ HB hb; clear hb hbox hg) | ((with_reducible refine gate_dst (N := 4) rfl ?_); refine bx_ 4 #[.bool false, .int .u64 0, .int .u64 0, .int .i64 0] 38 ?_; intro gb167 hg w5 hbox hb; have BK167 := Aside0.mk (hbox); have GW167 := gw_ HB hg; have GE167 := gw_ HB hg; have NB166_167 := nl_ BK166 hg; have NB167_166 := ng_ BK166 hg; replace BK166 := bb_ BK166 hb; replace HB := bs_ HB hb; clear hb hbox hg))
 (try simp only [Act.put, List.setIfInBounds_toArray, List.set_cons_zero, List.set_cons_succ])
 go_cut [19] (fun v19 wc => ∃ (kq : Nat) (x19_2 : Bool), v19 = .bool x19_2 ∧ Aside0 (prefix_Of.j0 kq a1 x19_2 a0_0 a0_1 a0_2 = some (r1, r2, r3, r4, r5)) ∧ Aside0 (kq ≤ k) ∧ Aside0 (wc.heap[gb166]? = some (.cells #[.bool a0_0, .int .u64 a0_1, .int .u64 a0_2] 26 (0, 0))) ∧ Aside0 (wc.heap[gb167]? = some (.cells #[.bool false, .int .u64 0, .int .u64 0, .int .i64 0] 38 (0, 0))) ∧ Aside0 (Below w.heap.size w wc))
 case first =>
  have H := HC3.out
  clear HC3
  replace H := Option.bind_eq_some_iff.mp H
  obtain ⟨t168, A60, H⟩ := H
  replace H : (if t168 = true then (if a1 < 0 then (prefix_Of.j0 k a1 true a0_0 a0_1 a0_2) else ((addr_Width.f a0_0 a0_1 a0_2).bind fun t169 => (prefix_Of.j0 k a1 (decide (a1 > t169)) a0_0 a0_1 a0_2))) else (prefix_Of.j0 k a1 true a0_0 a0_1 a0_2)) = some (r1, r2, r3, r4, r5) := H
  have A6 := Aside0.mk A60
  clear A60
  by_cases c7 : t168 = true
  ·
   subst c7
   rw [if_pos rfl] at H
   by_cases c8 : a1 < 0
   ·
    rw [if_pos c8] at H
    have c8b0 : decide (a1 < 0) = true := decide_eq_true c8
    clear c8
    (first | rw [c8b0] | (simp only [i64_w, i32_w]; rw [c8b0]) | skip)
    have H' := Aside0.mk H
    clear H
    have hnb9 := NB166_167.out
    have hnc9 := NB167_166.out
    obtain ⟨hcz10_0, hcz10_1, hcz10_2, hfz10_0, hfz10_1, hfz10_2⟩ := c3_ BK166
    go_wp2_with (first | ((with_reducible refine gate_callee (f := 18) rfl ?_); refine gl_ (some 8) Tryz.func18 #[.agg #[.bool a0_0, .int .u64 a0_1, .int .u64 a0_2]] ?_; (with_reducible refine (addr_Right.calls a0_0 a0_1 a0_2 true _ A6.out).mono ?_); rintro e w11 ⟨rfl, hb⟩; refine ⟨_, rfl, ?_⟩; replace BK166 := bb_ BK166 hb; replace BK167 := bb_ BK167 hb; replace HB := bs_ HB hb; (try clear hb); (try clear hb2); (try clear hk); (try clear hi)))
    go_meet
    case rel => exact ⟨_, (true), (by first | rfl | (simp; done) | (simp [*]; done)), H', ⟨by first | omega | exact Nat.le_refl _⟩, ⟨by refine pw_ ?_; exact BK166.out⟩, ⟨by refine pw_ ?_; exact BK167.out⟩, ⟨pb_ HB⟩⟩
   ·
    rw [if_neg c8] at H
    have c8b0 : decide (a1 < 0) = false := decide_eq_false c8
    clear c8
    (first | rw [c8b0] | (simp only [i64_w, i32_w]; rw [c8b0]) | skip)
    replace H := Option.bind_eq_some_iff.mp H
    obtain ⟨t169, A120, H⟩ := H
    replace H : (prefix_Of.j0 k a1 (decide (a1 > t169)) a0_0 a0_1 a0_2) = some (r1, r2, r3, r4, r5) := H
    have A12 := Aside0.mk A120
    clear A120
    have H' := Aside0.mk H
    clear H
    have hnb13 := NB166_167.out
    have hnc13 := NB167_166.out
    obtain ⟨hcz14_0, hcz14_1, hcz14_2, hfz14_0, hfz14_1, hfz14_2⟩ := c3_ BK166
    go_wp2_with (first | ((with_reducible refine gate_callee (f := 18) rfl ?_); refine gl_ (some 8) Tryz.func18 #[.agg #[.bool a0_0, .int .u64 a0_1, .int .u64 a0_2]] ?_; (with_reducible refine (addr_Right.calls a0_0 a0_1 a0_2 true _ A6.out).mono ?_); rintro e w15 ⟨rfl, hb⟩; refine ⟨_, rfl, ?_⟩; replace BK166 := bb_ BK166 hb; replace BK167 := bb_ BK167 hb; replace HB := bs_ HB hb; (try clear hb); (try clear hb2); (try clear hk); (try clear hi); obtain ⟨hcz16_0, hcz16_1, hcz16_2, hfz16_0, hfz16_1, hfz16_2⟩ := c3_ BK166) | (go_at_call 22; (with_reducible refine (addr_Width.calls a0_0 a0_1 a0_2 t169 _ A12.out).mono ?_); rintro e w17 ⟨rfl, hb⟩; replace BK166 := bb_ BK166 hb; replace BK167 := bb_ BK167 hb; replace HB := bs_ HB hb; (try clear hb); (try clear hb2); (try clear hk); (try clear hi)))
    go_meet
    case rel => exact ⟨_, (decide (a1 > t169)), (by first | rfl | (simp; done) | (simp [*]; done)), H', ⟨by first | omega | exact Nat.le_refl _⟩, ⟨by refine pw_ ?_; exact BK166.out⟩, ⟨by refine pw_ ?_; exact BK167.out⟩, ⟨pb_ HB⟩⟩
  ·
   replace c7 := Bool.eq_false_iff.mpr c7
   subst c7
   have H1 : (prefix_Of.j0 k a1 true a0_0 a0_1 a0_2) = some (r1, r2, r3, r4, r5) := by rw [if_neg (show ¬ (false = true) by decide)] at H; exact H
   clear H
   have H := H1
   clear H1
   have H' := Aside0.mk H
   clear H
   have hnb18 := NB166_167.out
   have hnc18 := NB167_166.out
   obtain ⟨hcz19_0, hcz19_1, hcz19_2, hfz19_0, hfz19_1, hfz19_2⟩ := c3_ BK166
   go_wp2_with (first | ((with_reducible refine gate_callee (f := 18) rfl ?_); refine gl_ (some 8) Tryz.func18 #[.agg #[.bool a0_0, .int .u64 a0_1, .int .u64 a0_2]] ?_; (with_reducible refine (addr_Right.calls a0_0 a0_1 a0_2 false _ A6.out).mono ?_); rintro e w20 ⟨rfl, hb⟩; refine ⟨_, rfl, ?_⟩; replace BK166 := bb_ BK166 hb; replace BK167 := bb_ BK167 hb; replace HB := bs_ HB hb; (try clear hb); (try clear hb2); (try clear hk); (try clear hi)))
   go_meet
   case rel => exact ⟨_, (true), (by first | rfl | (simp; done) | (simp [*]; done)), H', ⟨by first | omega | exact Nat.le_refl _⟩, ⟨by refine pw_ ?_; exact BK166.out⟩, ⟨by refine pw_ ?_; exact BK167.out⟩, ⟨pb_ HB⟩⟩
 case rest =>
  clear HC3
  try clear c1
  try clear p2
  try clear c3
  try clear c7
  try clear c8
  try clear c8b0
  try clear c9
  try clear c13
  try clear c18
  try clear hcz10_0
  try clear hcz10_1
  try clear hcz10_2
  try clear hcz14_0
  try clear hcz14_1
  try clear hcz14_2
  try clear hcz16_0
  try clear hcz16_1
  try clear hcz16_2
  try clear hcz19_0
  try clear hcz19_1
  try clear hcz19_2
  try clear hfz10_0
  try clear hfz10_1
  try clear hfz10_2
  try clear hfz14_0
  try clear hfz14_1
  try clear hfz14_2
  try clear hfz16_0
  try clear hfz16_1
  try clear hfz16_2
  try clear hfz19_0
  try clear hfz19_1
  try clear hfz19_2
  obtain ⟨kq, x19_2, rfl, HA, HJ2, BK166, BK167, HB⟩ := hcut
  cases kq with
  | zero => exact absurd HA.out (by simp [prefix_Of.j0])
  | succ kj2 =>
   have H := HA.out
   clear HA
   simp only [prefix_Of.j0] at H
   by_cases c21 : x19_2 = true
   ·
    subst c21
    rw [if_pos rfl] at H
    simp only [Option.some.injEq, Prod.mk.injEq] at H
    obtain ⟨rfl, rfl, rfl, rfl, rfl⟩ := H
    have hnb22 := NB167_166.out
    have hnc22 := NB166_167.out
    obtain ⟨hcz23_0, hcz23_1, hcz23_2, hcz23_3, hfz23_0, hfz23_1, hfz23_2, hfz23_3⟩ := c4_ BK167
    go_wp2
    refine bodyPost_ret (results_ct rfl _ _ gb167 38 #[.bool false, .int .u64 0, .int .u64 0, .int .i64 0] (0, 0) _ rfl (by refine pw_ ?_; refine blk_put (cs := #[.bool false, .int .u64 0, .int .u64 0, .int .i64 0]) ?_ 3 _ rfl; refine pw_ ?_; refine blk_put (cs := #[.bool false, .int .u64 0, .int .u64 0, .int .i64 0]) ?_ 2 _ rfl; refine pw_ ?_; refine blk_put (cs := #[.bool false, .int .u64 0, .int .u64 0, .int .i64 0]) ?_ 1 _ rfl; refine pw_ ?_; refine blk_put (cs := #[.bool false, .int .u64 0, .int .u64 0, .int .i64 0]) ?_ 0 _ rfl; refine pw_ ?_; exact BK167.out) Tryz.underlying38 rfl (by kernel_rfl)) rfl ?_
    exact ⟨by first | rfl | (simp [errW_none, errW_some] <;> rfl) | (simp [*, errW_none, errW_some] <;> rfl), pb_ HB⟩
   ·
    replace c21 := Bool.eq_false_iff.mpr c21
    subst c21
    have H1 : ((prefix_free.f a0_0 a0_1 a0_2 a1).bind fun bt171 => ((num_Not.f bt171.1 bt171.2).bind fun bt173 => ((num_And.f a0_1 a0_2 bt173.1 bt173.2).bind fun bt175 => (some (a0_0, bt175.1, bt175.2, a1, 0))))) = some (r1, r2, r3, r4, r5) := by rw [if_neg (show ¬ (false = true) by decide)] at H; exact H
    clear H
    have H := H1
    clear H1
    replace H := Option.bind_eq_some_iff.mp H
    obtain ⟨⟨t171, t172⟩, A240, H⟩ := H
    replace H : ((num_Not.f t171 t172).bind fun bt173 => ((num_And.f a0_1 a0_2 bt173.1 bt173.2).bind fun bt175 => (some (a0_0, bt175.1, bt175.2, a1, 0)))) = some (r1, r2, r3, r4, r5) := H
    have A24 := Aside0.mk A240
    clear A240
    replace H := Option.bind_eq_some_iff.mp H
    obtain ⟨⟨t173, t174⟩, A250, H⟩ := H
    replace H : ((num_And.f a0_1 a0_2 t173 t174).bind fun bt175 => (some (a0_0, bt175.1, bt175.2, a1, 0))) = some (r1, r2, r3, r4, r5) := H
    have A25 := Aside0.mk A250
    clear A250
    replace H := Option.bind_eq_some_iff.mp H
    obtain ⟨⟨t175, t176⟩, A260, H⟩ := H
    replace H : (some (a0_0, t175, t176, a1, 0)) = some (r1, r2, r3, r4, r5) := H
    have A26 := Aside0.mk A260
    clear A260
    simp only [Option.some.injEq, Prod.mk.injEq] at H
    obtain ⟨rfl, rfl, rfl, rfl, rfl⟩ := H
    have hnb27 := NB166_167.out
    have hnc27 := NB167_166.out
    obtain ⟨hcz28_0, hcz28_1, hcz28_2, hfz28_0, hfz28_1, hfz28_2⟩ := c3_ BK166
    try go_wp2_with (first | ((with_reducible refine gate_dst (N := 6) rfl ?_); refine bx_ 6 #[.bool false, .int .u64 0, .int .u64 0, .int .i64 0] 38 ?_; intro gb170 hg w29 hbox hb; have BK170 := Aside0.mk (hbox); have GW170 := gw_ HB hg; have GE170 := gw_ HB hg; have NB166_170 := nl_ BK166 hg; have NB170_166 := ng_ BK166 hg; have NB167_170 := nl_ BK167 hg; have NB170_167 := ng_ BK167 hg; replace BK166 := bb_ BK166 hb; replace BK167 := bb_ BK167 hb; replace HB := bs_ HB hb; clear hb hbox hg; have hnb30 := NB170_166.out; have hnc30 := NB166_170.out; have hnb31 := NB170_167.out; have hnc31 := NB167_170.out; obtain ⟨hcz32_0, hcz32_1, hcz32_2, hcz32_3, hfz32_0, hfz32_1, hfz32_2, hfz32_3⟩ := c4_ BK170))
    have n0_ : Aside0 (((((w29.setCell ⟨gb170, 0, none⟩ (.bool a0_0)).setCell ⟨gb170, 1, none⟩ (.int .u64 a0_1)).setCell ⟨gb170, 2, none⟩ (.int .u64 a0_2)).setCell ⟨gb170, 3, none⟩ (.int .i64 a1)).heap[gb166]? = some (.cells #[.bool a0_0, .int .u64 a0_1, .int .u64 a0_2] 26 (0, 0))) := ⟨by refine pw_ ?_; refine blk_far ?_ NB166_170.out _; refine pw_ ?_; refine blk_far ?_ NB166_170.out _; refine pw_ ?_; refine blk_far ?_ NB166_170.out _; refine pw_ ?_; refine blk_far ?_ NB166_170.out _; refine pw_ ?_; exact BK166.out⟩
    have n1_ : Aside0 (((((w29.setCell ⟨gb170, 0, none⟩ (.bool a0_0)).setCell ⟨gb170, 1, none⟩ (.int .u64 a0_1)).setCell ⟨gb170, 2, none⟩ (.int .u64 a0_2)).setCell ⟨gb170, 3, none⟩ (.int .i64 a1)).heap[gb167]? = some (.cells #[.bool false, .int .u64 0, .int .u64 0, .int .i64 0] 38 (0, 0))) := ⟨by refine pw_ ?_; refine blk_far ?_ NB167_170.out _; refine pw_ ?_; refine blk_far ?_ NB167_170.out _; refine pw_ ?_; refine blk_far ?_ NB167_170.out _; refine pw_ ?_; refine blk_far ?_ NB167_170.out _; refine pw_ ?_; exact BK167.out⟩
    have n2_ : Aside0 (((((w29.setCell ⟨gb170, 0, none⟩ (.bool a0_0)).setCell ⟨gb170, 1, none⟩ (.int .u64 a0_1)).setCell ⟨gb170, 2, none⟩ (.int .u64 a0_2)).setCell ⟨gb170, 3, none⟩ (.int .i64 a1)).heap[gb170]? = some (.cells #[.bool a0_0, .int .u64 a0_1, .int .u64 a0_2, .int .i64 a1] 38 (0, 0))) := ⟨by refine pw_ ?_; refine blk_put (cs := #[.bool a0_0, .int .u64 a0_1, .int .u64 a0_2, .int .i64 0]) ?_ 3 _ rfl; refine pw_ ?_; refine blk_put (cs := #[.bool a0_0, .int .u64 a0_1, .int .u64 0, .int .i64 0]) ?_ 2 _ rfl; refine pw_ ?_; refine blk_put (cs := #[.bool a0_0, .int .u64 0, .int .u64 0, .int .i64 0]) ?_ 1 _ rfl; refine pw_ ?_; refine blk_put (cs := #[.bool false, .int .u64 0, .int .u64 0, .int .i64 0]) ?_ 0 _ rfl; refine pw_ ?_; exact BK170.out⟩
    have n3_ : Aside0 (Below w.heap.size w ((((w29.setCell ⟨gb170, 0, none⟩ (.bool a0_0)).setCell ⟨gb170, 1, none⟩ (.int .u64 a0_1)).setCell ⟨gb170, 2, none⟩ (.int .u64 a0_2)).setCell ⟨gb170, 3, none⟩ (.int .i64 a1))) := ⟨pb_ HB⟩
    (try clear BK166)
    (try clear BK167)
    (try clear BK170)
    (try clear HB)
    generalize ((((w29.setCell ⟨gb170, 0, none⟩ (.bool a0_0)).setCell ⟨gb170, 1, none⟩ (.int .u64 a0_1)).setCell ⟨gb170, 2, none⟩ (.int .u64 a0_2)).setCell ⟨gb170, 3, none⟩ (.int .i64 a1)) = w33 at n0_ n1_ n2_ n3_ ⊢
    have BK166 := n0_
    have BK167 := n1_
    have BK170 := n2_
    have HB := n3_
    clear n0_ n1_ n2_ n3_
    replace BK166 := Aside0.mk (blk_drew BK166.out)
    replace BK167 := Aside0.mk (blk_drew BK167.out)
    replace BK170 := Aside0.mk (blk_drew BK170.out)
    replace HB := Aside0.mk (below_drew1 HB.out)
    refine start_ (n := 9) (S := fun w' => w'.cell? ⟨gb166, 0, none⟩ = some (.bool a0_0) ∧ w'.cell? ⟨gb166, 1, none⟩ = some (.int .u64 a0_1) ∧ w'.cell? ⟨gb166, 2, none⟩ = some (.int .u64 a0_2) ∧ w'.cell? ⟨gb170, 0, none⟩ = some (.bool a0_0) ∧ w'.cell? ⟨gb170, 1, none⟩ = some (.int .u64 a0_1) ∧ w'.cell? ⟨gb170, 2, none⟩ = some (.int .u64 a0_2) ∧ w'.cell? ⟨gb170, 3, none⟩ = some (.int .i64 a1)) (ds := [8]) (bm_ 9 0) (by kernel_rfl) rfl rfl ⟨kc_ BK166 0, kc_ BK166 1, kc_ BK166 2, kc_ BK170 0, kc_ BK170 1, kc_ BK170 2, kc_ BK170 3⟩ (fun hHeld => ?_); refine with_tabW prefix_Of.tab4 prefix_Of.bits4 (fun HT_ HW_ => ?_)
    generalize w33.drew = w34 at BK166 BK167 BK170 HB hHeld ⊢
    refine pu_ 0 (some 24) (bm_ 9 1) rfl HT_ ⟨by rfl, by intro w'; go_simp; with_reducible rfl⟩ ?_
    refine ta_ 1 (some 25) (bm_ 9 3) rfl HT_ HW_ ⟨by rfl, by rintro w' ⟨s0, s1, s2, s3, s4, s5, s6⟩; go_simp; with_reducible rfl⟩ hHeld ?_
    refine ta_ 2 (some 26) (bm_ 9 7) rfl HT_ HW_ ⟨by rfl, by rintro w' ⟨s0, s1, s2, s3, s4, s5, s6⟩; go_simp; with_reducible rfl⟩ hHeld ?_
    refine one_ (i := 3) (N := some 27) (bm_ 9 15) rfl rfl (one_of HT_.out (by kernel_rfl)) (by decide) (fun K hK => ?_)
    refine gr_ Tryz.func85 #[.agg #[.bool a0_0, .int .u64 a0_1, .int .u64 a0_2, .int .i64 a1]] ?_
    with_reducible refine (prefix_free.calls a0_0 a0_1 a0_2 a1 t171 t172 _ A24.out).mono ?_
    rintro e w35 ⟨rfl, hb⟩
    refine ⟨_, rfl, ?_⟩
    replace BK166 := bb_ BK166 hb
    replace BK167 := bb_ BK167 hb
    replace BK170 := bb_ BK170 hb
    replace HB := bs_ HB hb
    (try clear hb)
    (try clear hb2)
    (try clear hk)
    (try clear hi)
    refine hK.out _ _ ⟨kc_ BK166 0, kc_ BK166 1, kc_ BK166 2, kc_ BK170 0, kc_ BK170 1, kc_ BK170 2, kc_ BK170 3⟩ (fun hHeld => ?_)
    clear hK K
    refine norm_ (a' := ?_) ?_ ?_
    rotate_left
    ·
     show Act.put _ (some 27) _ = _
     simp only [Act.put, List.setIfInBounds_toArray, List.set_cons_zero, List.set_cons_succ, i64_w, i32_w]
     rfl
    refine one_ (i := 4) (N := some 28) (bm_ 9 31) rfl rfl (one_of HT_.out (by kernel_rfl)) (by decide) (fun K hK => ?_)
    refine gr_ Tryz.func81 #[.agg #[.int .u64 t171, .int .u64 t172]] ?_
    with_reducible refine (num_Not.calls t171 t172 t173 t174 _ A25.out).mono ?_
    rintro e w36 ⟨rfl, hb⟩
    refine ⟨_, rfl, ?_⟩
    replace BK166 := bb_ BK166 hb
    replace BK167 := bb_ BK167 hb
    replace BK170 := bb_ BK170 hb
    replace HB := bs_ HB hb
    (try clear hb)
    (try clear hb2)
    (try clear hk)
    (try clear hi)
    refine hK.out _ _ ⟨kc_ BK166 0, kc_ BK166 1, kc_ BK166 2, kc_ BK170 0, kc_ BK170 1, kc_ BK170 2, kc_ BK170 3⟩ (fun hHeld => ?_)
    clear hK K
    refine norm_ (a' := ?_) ?_ ?_
    rotate_left
    ·
     show Act.put _ (some 28) _ = _
     simp only [Act.put, List.setIfInBounds_toArray, List.set_cons_zero, List.set_cons_succ, i64_w, i32_w]
     rfl
    refine one_ (i := 5) (N := some 29) (bm_ 9 63) rfl rfl (one_of HT_.out (by kernel_rfl)) (by decide) (fun K hK => ?_)
    refine gr_ Tryz.func79 #[.agg #[.int .u64 a0_1, .int .u64 a0_2], .agg #[.int .u64 t173, .int .u64 t174]] ?_
    with_reducible refine (num_And.calls a0_1 a0_2 t173 t174 t175 t176 _ A26.out).mono ?_
    rintro e w37 ⟨rfl, hb⟩
    refine ⟨_, rfl, ?_⟩
    replace BK166 := bb_ BK166 hb
    replace BK167 := bb_ BK167 hb
    replace BK170 := bb_ BK170 hb
    replace HB := bs_ HB hb
    (try clear hb)
    (try clear hb2)
    (try clear hk)
    (try clear hi)
    refine hK.out _ _ ⟨kc_ BK166 0, kc_ BK166 1, kc_ BK166 2, kc_ BK170 0, kc_ BK170 1, kc_ BK170 2, kc_ BK170 3⟩ (fun hHeld => ?_)
    clear hK K
    refine norm_ (a' := ?_) ?_ ?_
    rotate_left
    ·
     show Act.put _ (some 29) _ = _
     simp only [Act.put, List.setIfInBounds_toArray, List.set_cons_zero, List.set_cons_succ, i64_w, i32_w]
     rfl
    refine pu_ 6 (some 30) (bm_ 9 127) rfl HT_ ⟨by rfl, by intro w'; go_simp; with_reducible rfl⟩ ?_
    refine pu_ 7 (some 31) (bm_ 9 255) rfl HT_ ⟨by rfl, by intro w'; go_simp; with_reducible rfl⟩ ?_
    refine last_ (i := 8) (N := none) (bm_ 9 511) rfl rfl (one_of HT_.out (by kernel_rfl)) (by decide) (fun K hK => ?_)
    have hs38 : w37.cell? ⟨gb170, 1, none⟩ = some (.int .u64 a0_1) := kc_ BK170 1
    have hfs38 := blk_frozen BK170.out 1
    have hns38_0 := NB166_170.out
    have hns38_1 := NB167_170.out
    have hms38_0 := NB170_166.out
    have hms38_1 := NB170_167.out
    have hs39 : w37.cell? ⟨gb170, 2, none⟩ = some (.int .u64 a0_2) := kc_ BK170 2
    have hfs39 := blk_frozen BK170.out 2
    have hns39_0 := NB166_170.out
    have hns39_1 := NB167_170.out
    have hms39_0 := NB170_166.out
    have hms39_1 := NB170_167.out
    refine skip_ (w1 := ?_) (by rfl) rfl ?_ ?_
    rotate_left
    ·
     go_simp
     rfl
    refine hK.out _ _ ?_
    clear hK K
    refine done_ (done_of HT_.out (by kernel_rfl)) ?_
    obtain ⟨hcz40_0, hcz40_1, hcz40_2, hcz40_3, hfz40_0, hfz40_1, hfz40_2, hfz40_3⟩ := c4_ BK170
    obtain ⟨hcz41_0, hcz41_1, hcz41_2, hcz41_3, hfz41_0, hfz41_1, hfz41_2, hfz41_3⟩ := c4_ BK167
    try go_wp2
    refine bodyPost_ret (results_ct rfl _ _ gb167 38 #[.bool a0_0, .int .u64 t175, .int .u64 t176, .int .i64 a1] (0, 0) _ rfl (by refine pw_ ?_; refine blk_put (cs := #[.bool a0_0, .int .u64 t175, .int .u64 t176, .int .i64 0]) ?_ 3 _ rfl; refine pw_ ?_; refine blk_put (cs := #[.bool a0_0, .int .u64 t175, .int .u64 0, .int .i64 0]) ?_ 2 _ rfl; refine pw_ ?_; refine blk_put (cs := #[.bool a0_0, .int .u64 0, .int .u64 0, .int .i64 0]) ?_ 1 _ rfl; refine pw_ ?_; refine blk_put (cs := #[.bool false, .int .u64 0, .int .u64 0, .int .i64 0]) ?_ 0 _ rfl; refine pw_ ?_; refine blk_far ?_ NB167_170.out _; refine pw_ ?_; refine blk_far ?_ NB167_170.out _; refine pw_ ?_; exact BK167.out) Tryz.underlying38 rfl (by kernel_rfl)) rfl ?_
    exact ⟨by first | rfl | (simp [errW_none, errW_some] <;> rfl) | (simp [*, errW_none, errW_some] <;> rfl), pb_ HB⟩

def prefix_First.f (a0_0 : Bool) (a0_1 : Int) (a0_2 : Int) (a0_3 : Int) : Option (Bool × Int × Int) := (prefix_Right.f a0_0 a0_1 a0_2 a0_3).bind fun t179 => (if t179 = true then (some (a0_0, a0_1, a0_2)) else (some (false, 0, 0)))
set_option maxHeartbeats 8000000 in
set_option maxRecDepth 100000 in
theorem prefix_First.calls (a0_0 : Bool) (a0_1 : Int) (a0_2 : Int) (a0_3 : Int) (r1 : Bool) (r2 : Int) (r3 : Int) (w : World) (h : prefix_First.f a0_0 a0_1 a0_2 a0_3 = some (r1, r2, r3)) :
  Calls Tryz.prog 37 #[.agg #[.bool a0_0, .int .u64 a0_1, .int .u64 a0_2, .int .i64 a0_3]] w fun e w' => e = .returned (.agg #[.bool r1, .int .u64 r2, .int .u64 r3]) ∧ Below w.heap.size w w' := by
 have hu38 := Tryz.underlying38
 have hu26 := Tryz.underlying26
 have HB := Aside0.mk (Below.refl w.heap.size w)
 have H : ((prefix_Right.f a0_0 a0_1 a0_2 a0_3).bind fun t179 => (if t179 = true then (some (a0_0, a0_1, a0_2)) else (some (false, 0, 0)))) = some (r1, r2, r3) := h
 clear h
 replace H := Option.bind_eq_some_iff.mp H
 obtain ⟨t179, A20, H⟩ := H
 replace H : (if t179 = true then (some (a0_0, a0_1, a0_2)) else (some (false, 0, 0))) = some (r1, r2, r3) := H
 have A2 := Aside0.mk A20
 clear A20
 by_cases c3 : t179 = true
 ·
  subst c3
  rw [if_pos rfl] at H
  simp only [Option.some.injEq, Prod.mk.injEq] at H
  obtain ⟨rfl, rfl, rfl⟩ := H
  go_enter Tryz.func37, Tryz.ntmps37
  go_wp2_with (first | ((with_reducible refine gate_dst (N := 1) rfl ?_); refine bx_ 1 #[.bool a0_0, .int .u64 a0_1, .int .u64 a0_2, .int .i64 a0_3] 38 ?_; intro gb177 hg w4 hbox hb; have BK177 := Aside0.mk (hbox); have GW177 := gw_ HB hg; have GE177 := gw_ HB hg; replace HB := bs_ HB hb; clear hb hbox hg) | ((with_reducible refine gate_dst (N := 2) rfl ?_); refine bx_ 2 #[.bool false, .int .u64 0, .int .u64 0] 26 ?_; intro gb178 hg w5 hbox hb; have BK178 := Aside0.mk (hbox); have GW178 := gw_ HB hg; have GE178 := gw_ HB hg; have NB177_178 := nl_ BK177 hg; have NB178_177 := ng_ BK177 hg; replace BK177 := bb_ BK177 hb; replace HB := bs_ HB hb; clear hb hbox hg; have hnb6 := NB177_178.out; have hnc6 := NB178_177.out; obtain ⟨hcz7_0, hcz7_1, hcz7_2, hcz7_3, hfz7_0, hfz7_1, hfz7_2, hfz7_3⟩ := c4_ BK177) | ((with_reducible refine gate_callee (f := 36) rfl ?_); refine gl_ (some 4) Tryz.func36 #[.agg #[.bool a0_0, .int .u64 a0_1, .int .u64 a0_2, .int .i64 a0_3]] ?_; (with_reducible refine (prefix_Right.calls a0_0 a0_1 a0_2 a0_3 true _ A2.out).mono ?_); rintro e w8 ⟨rfl, hb⟩; refine ⟨_, rfl, ?_⟩; replace BK177 := bb_ BK177 hb; replace BK178 := bb_ BK178 hb; replace HB := bs_ HB hb; (try clear hb); (try clear hb2); (try clear hk); (try clear hi); obtain ⟨hcz9_0, hcz9_1, hcz9_2, hcz9_3, hfz9_0, hfz9_1, hfz9_2, hfz9_3⟩ := c4_ BK177; obtain ⟨hcz10_0, hcz10_1, hcz10_2, hfz10_0, hfz10_1, hfz10_2⟩ := c3_ BK178))
  refine bodyPost_ret (results_cell_row rfl _ _ gb178 26 #[.bool a0_0, .int .u64 a0_1, .int .u64 a0_2] (0, 0) _ rfl (by refine pw_ ?_; refine blk_put (cs := #[.bool a0_0, .int .u64 a0_1, .int .u64 0]) ?_ 2 _ rfl; refine pw_ ?_; refine blk_put (cs := #[.bool a0_0, .int .u64 0, .int .u64 0]) ?_ 1 _ rfl; refine pw_ ?_; refine blk_put (cs := #[.bool false, .int .u64 0, .int .u64 0]) ?_ 0 _ rfl; refine pw_ ?_; exact BK178.out) Tryz.underlying26 rfl (by kernel_rfl)) rfl ?_
  exact ⟨by first | rfl | (simp [errW_none, errW_some] <;> rfl) | (simp [*, errW_none, errW_some] <;> rfl), pb_ HB⟩
 ·
  replace c3 := Bool.eq_false_iff.mpr c3
  subst c3
  have H1 : (some (false, 0, 0)) = some (r1, r2, r3) := by rw [if_neg (show ¬ (false = true) by decide)] at H; exact H
  clear H
  have H := H1
  clear H1
  simp only [Option.some.injEq, Prod.mk.injEq] at H
  obtain ⟨rfl, rfl, rfl⟩ := H
  go_enter Tryz.func37, Tryz.ntmps37
  go_wp2_with (first | ((with_reducible refine gate_dst (N := 1) rfl ?_); refine bx_ 1 #[.bool a0_0, .int .u64 a0_1, .int .u64 a0_2, .int .i64 a0_3] 38 ?_; intro gb177 hg w11 hbox hb; have BK177 := Aside0.mk (hbox); have GW177 := gw_ HB hg; have GE177 := gw_ HB hg; replace HB := bs_ HB hb; clear hb hbox hg) | ((with_reducible refine gate_dst (N := 2) rfl ?_); refine bx_ 2 #[.bool false, .int .u64 0, .int .u64 0] 26 ?_; intro gb178 hg w12 hbox hb; have BK178 := Aside0.mk (hbox); have GW178 := gw_ HB hg; have GE178 := gw_ HB hg; have NB177_178 := nl_ BK177 hg; have NB178_177 := ng_ BK177 hg; replace BK177 := bb_ BK177 hb; replace HB := bs_ HB hb; clear hb hbox hg; have hnb13 := NB177_178.out; have hnc13 := NB178_177.out; obtain ⟨hcz14_0, hcz14_1, hcz14_2, hcz14_3, hfz14_0, hfz14_1, hfz14_2, hfz14_3⟩ := c4_ BK177) | ((with_reducible refine gate_callee (f := 36) rfl ?_); refine gl_ (some 4) Tryz.func36 #[.agg #[.bool a0_0, .int .u64 a0_1, .int .u64 a0_2, .int .i64 a0_3]] ?_; (with_reducible refine (prefix_Right.calls a0_0 a0_1 a0_2 a0_3 false _ A2.out).mono ?_); rintro e w15 ⟨rfl, hb⟩; refine ⟨_, rfl, ?_⟩; replace BK177 := bb_ BK177 hb; replace BK178 := bb_ BK178 hb; replace HB := bs_ HB hb; (try clear hb); (try clear hb2); (try clear hk); (try clear hi); obtain ⟨hcz16_0, hcz16_1, hcz16_2, hfz16_0, hfz16_1, hfz16_2⟩ := c3_ BK178))
  refine bodyPost_ret (results_cell_row rfl _ _ gb178 26 #[.bool false, .int .u64 0, .int .u64 0] (0, 0) _ rfl (by refine pw_ ?_; refine blk_put (cs := #[.bool false, .int .u64 0, .int .u64 0]) ?_ 2 _ rfl; refine pw_ ?_; refine blk_put (cs := #[.bool false, .int .u64 0, .int .u64 0]) ?_ 1 _ rfl; refine pw_ ?_; refine blk_put (cs := #[.bool false, .int .u64 0, .int .u64 0]) ?_ 0 _ rfl; refine pw_ ?_; exact BK178.out) Tryz.underlying26 rfl (by kernel_rfl)) rfl ?_
  exact ⟨by first | rfl | (simp [errW_none, errW_some] <;> rfl) | (simp [*, errW_none, errW_some] <;> rfl), pb_ HB⟩

def prefix_Last.f (a0_0 : Bool) (a0_1 : Int) (a0_2 : Int) (a0_3 : Int) : Option (Bool × Int × Int) := (prefix_Right.f a0_0 a0_1 a0_2 a0_3).bind fun t182 => (if t182 = true then ((prefix_free.f a0_0 a0_1 a0_2 a0_3).bind fun bt183 => ((num_Or.f a0_1 a0_2 bt183.1 bt183.2).bind fun bt185 => (some (a0_0, bt185.1, bt185.2)))) else (some (false, 0, 0)))
def prefix_Last.T3 : Bool × List (List Nat × List Nat) := (true, [([], []), ([0], [0]), ([1], [1]), ([], []), ([3], [3]), ([4], [4]), ([], []), ([6], [6]), ([5, 7, 7], [5, 7]), ([2, 8], [2, 8]), ([9, 8, 0, 1, 2, 3, 4, 5, 6, 7, 8, 9], [9])])
def prefix_Last.B3 : List Nat := [0, 1, 3, 0, 8, 24, 0, 64, 248, 511, 1023]
theorem prefix_Last.tab3 : rtab .any (opsOf Tryz.f38 3) = prefix_Last.T3 := by kernel_rfl
theorem prefix_Last.bits3 : waitsOk prefix_Last.T3.2 prefix_Last.B3 = true := by kernel_rfl
set_option maxHeartbeats 8000000 in
set_option maxRecDepth 100000 in
theorem prefix_Last.calls (a0_0 : Bool) (a0_1 : Int) (a0_2 : Int) (a0_3 : Int) (r1 : Bool) (r2 : Int) (r3 : Int) (w : World) (h : prefix_Last.f a0_0 a0_1 a0_2 a0_3 = some (r1, r2, r3)) :
  Calls Tryz.prog 38 #[.agg #[.bool a0_0, .int .u64 a0_1, .int .u64 a0_2, .int .i64 a0_3]] w fun e w' => e = .returned (.agg #[.bool r1, .int .u64 r2, .int .u64 r3]) ∧ Below w.heap.size w w' := by
 have hu38 := Tryz.underlying38
 have hu26 := Tryz.underlying26
 have hu24 := Tryz.underlying24
 have HB := Aside0.mk (Below.refl w.heap.size w)
 have H : ((prefix_Right.f a0_0 a0_1 a0_2 a0_3).bind fun t182 => (if t182 = true then ((prefix_free.f a0_0 a0_1 a0_2 a0_3).bind fun bt183 => ((num_Or.f a0_1 a0_2 bt183.1 bt183.2).bind fun bt185 => (some (a0_0, bt185.1, bt185.2)))) else (some (false, 0, 0)))) = some (r1, r2, r3) := h
 clear h
 replace H := Option.bind_eq_some_iff.mp H
 obtain ⟨t182, A20, H⟩ := H
 replace H : (if t182 = true then ((prefix_free.f a0_0 a0_1 a0_2 a0_3).bind fun bt183 => ((num_Or.f a0_1 a0_2 bt183.1 bt183.2).bind fun bt185 => (some (a0_0, bt185.1, bt185.2)))) else (some (false, 0, 0))) = some (r1, r2, r3) := H
 have A2 := Aside0.mk A20
 clear A20
 by_cases c3 : t182 = true
 ·
  subst c3
  rw [if_pos rfl] at H
  replace H := Option.bind_eq_some_iff.mp H
  obtain ⟨⟨t183, t184⟩, A40, H⟩ := H
  replace H : ((num_Or.f a0_1 a0_2 t183 t184).bind fun bt185 => (some (a0_0, bt185.1, bt185.2))) = some (r1, r2, r3) := H
  have A4 := Aside0.mk A40
  clear A40
  replace H := Option.bind_eq_some_iff.mp H
  obtain ⟨⟨t185, t186⟩, A50, H⟩ := H
  replace H : (some (a0_0, t185, t186)) = some (r1, r2, r3) := H
  have A5 := Aside0.mk A50
  clear A50
  simp only [Option.some.injEq, Prod.mk.injEq] at H
  obtain ⟨rfl, rfl, rfl⟩ := H
  go_enter Tryz.func38, Tryz.ntmps38
  try go_wp2_with (first | ((with_reducible refine gate_dst (N := 1) rfl ?_); refine bx_ 1 #[.bool a0_0, .int .u64 a0_1, .int .u64 a0_2, .int .i64 a0_3] 38 ?_; intro gb180 hg w6 hbox hb; have BK180 := Aside0.mk (hbox); have GW180 := gw_ HB hg; have GE180 := gw_ HB hg; replace HB := bs_ HB hb; clear hb hbox hg) | ((with_reducible refine gate_dst (N := 2) rfl ?_); refine bx_ 2 #[.bool false, .int .u64 0, .int .u64 0] 26 ?_; intro gb181 hg w7 hbox hb; have BK181 := Aside0.mk (hbox); have GW181 := gw_ HB hg; have GE181 := gw_ HB hg; have NB180_181 := nl_ BK180 hg; have NB181_180 := ng_ BK180 hg; replace BK180 := bb_ BK180 hb; replace HB := bs_ HB hb; clear hb hbox hg; have hnb8 := NB180_181.out; have hnc8 := NB181_180.out; obtain ⟨hcz9_0, hcz9_1, hcz9_2, hcz9_3, hfz9_0, hfz9_1, hfz9_2, hfz9_3⟩ := c4_ BK180) | ((with_reducible refine gate_callee (f := 36) rfl ?_); refine gl_ (some 4) Tryz.func36 #[.agg #[.bool a0_0, .int .u64 a0_1, .int .u64 a0_2, .int .i64 a0_3]] ?_; (with_reducible refine (prefix_Right.calls a0_0 a0_1 a0_2 a0_3 true _ A2.out).mono ?_); rintro e w10 ⟨rfl, hb⟩; refine ⟨_, rfl, ?_⟩; replace BK180 := bb_ BK180 hb; replace BK181 := bb_ BK181 hb; replace HB := bs_ HB hb; (try clear hb); (try clear hb2); (try clear hk); (try clear hi)))
  replace BK180 := Aside0.mk (blk_drew BK180.out)
  replace BK181 := Aside0.mk (blk_drew BK181.out)
  replace HB := Aside0.mk (below_drew1 HB.out)
  refine start_ (n := 11) (S := fun w' => w'.cell? ⟨gb180, 0, none⟩ = some (.bool a0_0) ∧ w'.cell? ⟨gb180, 1, none⟩ = some (.int .u64 a0_1) ∧ w'.cell? ⟨gb180, 2, none⟩ = some (.int .u64 a0_2) ∧ w'.cell? ⟨gb180, 3, none⟩ = some (.int .i64 a0_3)) (ds := []) (bm_ 11 0) (by kernel_rfl) rfl rfl ⟨kc_ BK180 0, kc_ BK180 1, kc_ BK180 2, kc_ BK180 3⟩ (fun hHeld => ?_); refine with_tabW prefix_Last.tab3 prefix_Last.bits3 (fun HT_ HW_ => ?_)
  generalize w10.drew = w11 at BK180 BK181 HB hHeld ⊢
  refine pu_ 0 (some 7) (bm_ 11 1) rfl HT_ ⟨by rfl, by intro w'; go_simp; with_reducible rfl⟩ ?_
  refine pu_ 1 (some 8) (bm_ 11 3) rfl HT_ ⟨by rfl, by intro w'; go_simp; with_reducible rfl⟩ ?_
  refine pu_ 3 (some 10) (bm_ 11 11) rfl HT_ ⟨by rfl, by intro w'; go_simp; with_reducible rfl⟩ ?_
  refine pu_ 4 (some 11) (bm_ 11 27) rfl HT_ ⟨by rfl, by intro w'; go_simp; with_reducible rfl⟩ ?_
  refine ta_ 2 (some 9) (bm_ 11 31) rfl HT_ HW_ ⟨by rfl, by rintro w' ⟨s0, s1, s2, s3⟩; go_simp; with_reducible rfl⟩ hHeld ?_
  refine ta_ 5 (some 12) (bm_ 11 63) rfl HT_ HW_ ⟨by rfl, by rintro w' ⟨s0, s1, s2, s3⟩; go_simp; with_reducible rfl⟩ hHeld ?_
  refine ta_ 6 (some 13) (bm_ 11 127) rfl HT_ HW_ ⟨by rfl, by rintro w' ⟨s0, s1, s2, s3⟩; go_simp; with_reducible rfl⟩ hHeld ?_
  refine one_ (i := 7) (N := some 14) (bm_ 11 255) rfl rfl (one_of HT_.out (by kernel_rfl)) (by decide) (fun K hK => ?_)
  refine gr_ Tryz.func85 #[.agg #[.bool a0_0, .int .u64 a0_1, .int .u64 a0_2, .int .i64 a0_3]] ?_
  with_reducible refine (prefix_free.calls a0_0 a0_1 a0_2 a0_3 t183 t184 _ A4.out).mono ?_
  rintro e w12 ⟨rfl, hb⟩
  refine ⟨_, rfl, ?_⟩
  replace BK180 := bb_ BK180 hb
  replace BK181 := bb_ BK181 hb
  replace HB := bs_ HB hb
  (try clear hb)
  (try clear hb2)
  (try clear hk)
  (try clear hi)
  refine hK.out _ _ ⟨kc_ BK180 0, kc_ BK180 1, kc_ BK180 2, kc_ BK180 3⟩ (fun hHeld => ?_)
  clear hK K
  refine norm_ (a' := ?_) ?_ ?_
  rotate_left
  ·
   show Act.put _ (some 14) _ = _
   simp only [Act.put, List.setIfInBounds_toArray, List.set_cons_zero, List.set_cons_succ, i64_w, i32_w]
   rfl
  refine one_ (i := 8) (N := some 15) (bm_ 11 511) rfl rfl (one_of HT_.out (by kernel_rfl)) (by decide) (fun K hK => ?_)
  refine gr_ Tryz.func80 #[.agg #[.int .u64 a0_1, .int .u64 a0_2], .agg #[.int .u64 t183, .int .u64 t184]] ?_
  with_reducible refine (num_Or.calls a0_1 a0_2 t183 t184 t185 t186 _ A5.out).mono ?_
  rintro e w13 ⟨rfl, hb⟩
  refine ⟨_, rfl, ?_⟩
  replace BK180 := bb_ BK180 hb
  replace BK181 := bb_ BK181 hb
  replace HB := bs_ HB hb
  (try clear hb)
  (try clear hb2)
  (try clear hk)
  (try clear hi)
  refine hK.out _ _ ⟨kc_ BK180 0, kc_ BK180 1, kc_ BK180 2, kc_ BK180 3⟩ (fun hHeld => ?_)
  clear hK K
  refine norm_ (a' := ?_) ?_ ?_
  rotate_left
  ·
   show Act.put _ (some 15) _ = _
   simp only [Act.put, List.setIfInBounds_toArray, List.set_cons_zero, List.set_cons_succ, i64_w, i32_w]
   rfl
  refine pu_ 9 (some 16) (bm_ 11 1023) rfl HT_ ⟨by rfl, by intro w'; go_simp; with_reducible rfl⟩ ?_
  refine one_ (i := 10) (N := none) (bm_ 11 2047) rfl rfl (one_of HT_.out (by kernel_rfl)) (by decide) (fun K hK => ?_)
  have hs14 : w13.cell? ⟨gb181, 0, none⟩ = some (.bool false) := kc_ BK181 0
  have hfs14 := blk_frozen BK181.out 0
  have hns14_0 := NB180_181.out
  have hms14_0 := NB181_180.out
  have hs15 : w13.cell? ⟨gb181, 1, none⟩ = some (.int .u64 0) := kc_ BK181 1
  have hfs15 := blk_frozen BK181.out 1
  have hns15_0 := NB180_181.out
  have hms15_0 := NB181_180.out
  have hs16 : w13.cell? ⟨gb181, 2, none⟩ = some (.int .u64 0) := kc_ BK181 2
  have hfs16 := blk_frozen BK181.out 2
  have hns16_0 := NB180_181.out
  have hms16_0 := NB181_180.out
  refine skip_ (w1 := ?_) (by rfl) rfl ?_ ?_
  rotate_left
  ·
   go_simp
   rfl
  refine hK.out _ _ ⟨((cell_far (p := ⟨gb181, _, none⟩) NB180_181.out _).trans (((cell_far (p := ⟨gb181, _, none⟩) NB180_181.out _).trans (((cell_far (p := ⟨gb181, _, none⟩) NB180_181.out _).trans (hHeld.1)))))), ((cell_far (p := ⟨gb181, _, none⟩) NB180_181.out _).trans (((cell_far (p := ⟨gb181, _, none⟩) NB180_181.out _).trans (((cell_far (p := ⟨gb181, _, none⟩) NB180_181.out _).trans (hHeld.2.1)))))), ((cell_far (p := ⟨gb181, _, none⟩) NB180_181.out _).trans (((cell_far (p := ⟨gb181, _, none⟩) NB180_181.out _).trans (((cell_far (p := ⟨gb181, _, none⟩) NB180_181.out _).trans (hHeld.2.2.1)))))), ((cell_far (p := ⟨gb181, _, none⟩) NB180_181.out _).trans (((cell_far (p := ⟨gb181, _, none⟩) NB180_181.out _).trans (((cell_far (p := ⟨gb181, _, none⟩) NB180_181.out _).trans (hHeld.2.2.2))))))⟩ (fun hHeld => ?_)
  clear hK K
  refine done_ (done_of HT_.out (by kernel_rfl)) ?_
  try go_wp2
  refine bodyPost_ret (results_cell_row rfl _ _ gb181 26 #[.bool a0_0, .int .u64 t185, .int .u64 t186] (0, 0) _ rfl (by refine pw_ ?_; refine blk_put (cs := #[.bool a0_0, .int .u64 t185, .int .u64 0]) ?_ 2 _ rfl; refine pw_ ?_; refine blk_put (cs := #[.bool a0_0, .int .u64 0, .int .u64 0]) ?_ 1 _ rfl; refine pw_ ?_; refine blk_put (cs := #[.bool false, .int .u64 0, .int .u64 0]) ?_ 0 _ rfl; refine pw_ ?_; exact BK181.out) Tryz.underlying26 rfl (by kernel_rfl)) rfl ?_
  exact ⟨by first | rfl | (simp [errW_none, errW_some] <;> rfl) | (simp [*, errW_none, errW_some] <;> rfl), pb_ HB⟩
 ·
  replace c3 := Bool.eq_false_iff.mpr c3
  subst c3
  have H1 : (some (false, 0, 0)) = some (r1, r2, r3) := by rw [if_neg (show ¬ (false = true) by decide)] at H; exact H
  clear H
  have H := H1
  clear H1
  simp only [Option.some.injEq, Prod.mk.injEq] at H
  obtain ⟨rfl, rfl, rfl⟩ := H
  go_enter Tryz.func38, Tryz.ntmps38
  go_wp2_with (first | ((with_reducible refine gate_dst (N := 1) rfl ?_); refine bx_ 1 #[.bool a0_0, .int .u64 a0_1, .int .u64 a0_2, .int .i64 a0_3] 38 ?_; intro gb180 hg w17 hbox hb; have BK180 := Aside0.mk (hbox); have GW180 := gw_ HB hg; have GE180 := gw_ HB hg; replace HB := bs_ HB hb; clear hb hbox hg) | ((with_reducible refine gate_dst (N := 2) rfl ?_); refine bx_ 2 #[.bool false, .int .u64 0, .int .u64 0] 26 ?_; intro gb181 hg w18 hbox hb; have BK181 := Aside0.mk (hbox); have GW181 := gw_ HB hg; have GE181 := gw_ HB hg; have NB180_181 := nl_ BK180 hg; have NB181_180 := ng_ BK180 hg; replace BK180 := bb_ BK180 hb; replace HB := bs_ HB hb; clear hb hbox hg; have hnb19 := NB180_181.out; have hnc19 := NB181_180.out; obtain ⟨hcz20_0, hcz20_1, hcz20_2, hcz20_3, hfz20_0, hfz20_1, hfz20_2, hfz20_3⟩ := c4_ BK180) | ((with_reducible refine gate_callee (f := 36) rfl ?_); refine gl_ (some 4) Tryz.func36 #[.agg #[.bool a0_0, .int .u64 a0_1, .int .u64 a0_2, .int .i64 a0_3]] ?_; (with_reducible refine (prefix_Right.calls a0_0 a0_1 a0_2 a0_3 false _ A2.out).mono ?_); rintro e w21 ⟨rfl, hb⟩; refine ⟨_, rfl, ?_⟩; replace BK180 := bb_ BK180 hb; replace BK181 := bb_ BK181 hb; replace HB := bs_ HB hb; (try clear hb); (try clear hb2); (try clear hk); (try clear hi); obtain ⟨hcz22_0, hcz22_1, hcz22_2, hfz22_0, hfz22_1, hfz22_2⟩ := c3_ BK181))
  refine bodyPost_ret (results_cell_row rfl _ _ gb181 26 #[.bool false, .int .u64 0, .int .u64 0] (0, 0) _ rfl (by refine pw_ ?_; refine blk_put (cs := #[.bool false, .int .u64 0, .int .u64 0]) ?_ 2 _ rfl; refine pw_ ?_; refine blk_put (cs := #[.bool false, .int .u64 0, .int .u64 0]) ?_ 1 _ rfl; refine pw_ ?_; refine blk_put (cs := #[.bool false, .int .u64 0, .int .u64 0]) ?_ 0 _ rfl; refine pw_ ?_; exact BK181.out) Tryz.underlying26 rfl (by kernel_rfl)) rfl ?_
  exact ⟨by first | rfl | (simp [errW_none, errW_some] <;> rfl) | (simp [*, errW_none, errW_some] <;> rfl), pb_ HB⟩

def prefix_Has.f (k : Nat) (a0_0 : Bool) (a0_1 : Int) (a0_2 : Int) (a0_3 : Int) (a1_0 : Bool) (a1_1 : Int) (a1_2 : Int) : Option (Bool) := (prefix_Right.f a0_0 a0_1 a0_2 a0_3).bind fun t189 => (if t189 = true then ((addr_Right.f a1_0 a1_1 a1_2).bind fun t190 => (if t190 = true then (if (a1_0 != a0_0) = true then (some false) else ((prefix_Of.f k a1_0 a1_1 a1_2 a0_3).bind fun bt191 => (some ((bt191.1 == a0_0 && ((bt191.2.1 == a0_1 && (bt191.2.2.1 == a0_2)))) && (bt191.2.2.2.1 == a0_3))))) else (some false))) else (some false))
set_option maxHeartbeats 8000000 in
set_option maxRecDepth 100000 in
theorem prefix_Has.calls (k : Nat) (a0_0 : Bool) (a0_1 : Int) (a0_2 : Int) (a0_3 : Int) (a1_0 : Bool) (a1_1 : Int) (a1_2 : Int) (r : Bool) (w : World) (h : prefix_Has.f k a0_0 a0_1 a0_2 a0_3 a1_0 a1_1 a1_2 = some r) :
  Calls Tryz.prog 40 #[.agg #[.bool a0_0, .int .u64 a0_1, .int .u64 a0_2, .int .i64 a0_3], .agg #[.bool a1_0, .int .u64 a1_1, .int .u64 a1_2]] w fun e w' => e = .returned (.bool r) ∧ Below w.heap.size w w' := by
 have hu38 := Tryz.underlying38
 have hu26 := Tryz.underlying26
 have HB := Aside0.mk (Below.refl w.heap.size w)
 have H : ((prefix_Right.f a0_0 a0_1 a0_2 a0_3).bind fun t189 => (if t189 = true then ((addr_Right.f a1_0 a1_1 a1_2).bind fun t190 => (if t190 = true then (if (a1_0 != a0_0) = true then (some false) else ((prefix_Of.f k a1_0 a1_1 a1_2 a0_3).bind fun bt191 => (some ((bt191.1 == a0_0 && ((bt191.2.1 == a0_1 && (bt191.2.2.1 == a0_2)))) && (bt191.2.2.2.1 == a0_3))))) else (some false))) else (some false))) = some r := h
 clear h
 replace H := Option.bind_eq_some_iff.mp H
 obtain ⟨t189, A30, H⟩ := H
 replace H : (if t189 = true then ((addr_Right.f a1_0 a1_1 a1_2).bind fun t190 => (if t190 = true then (if (a1_0 != a0_0) = true then (some false) else ((prefix_Of.f k a1_0 a1_1 a1_2 a0_3).bind fun bt191 => (some ((bt191.1 == a0_0 && ((bt191.2.1 == a0_1 && (bt191.2.2.1 == a0_2)))) && (bt191.2.2.2.1 == a0_3))))) else (some false))) else (some false)) = some r := H
 have A3 := Aside0.mk A30
 clear A30
 by_cases c4 : t189 = true
 ·
  subst c4
  rw [if_pos rfl] at H
  replace H := Option.bind_eq_some_iff.mp H
  obtain ⟨t190, A50, H⟩ := H
  replace H : (if t190 = true then (if (a1_0 != a0_0) = true then (some false) else ((prefix_Of.f k a1_0 a1_1 a1_2 a0_3).bind fun bt191 => (some ((bt191.1 == a0_0 && ((bt191.2.1 == a0_1 && (bt191.2.2.1 == a0_2)))) && (bt191.2.2.2.1 == a0_3))))) else (some false)) = some r := H
  have A5 := Aside0.mk A50
  clear A50
  by_cases c6 : t190 = true
  ·
   subst c6
   rw [if_pos rfl] at H
   by_cases c7 : (a1_0 != a0_0) = true
   ·
    rw [if_pos c7] at H
    have c7b0 : (a1_0 != a0_0) = true := c7
    (try (have c7b1 : decide (a1_0 = a0_0) = false := by simpa using c7))
    (try (have c7b2 : (a1_0 == a0_0) = false := by simpa using c7))
    (try (have c7b3 : ¬ (a1_0 = a0_0) := by simpa using c7))
    clear c7
    obtain rfl := Option.some.inj H
    go_enter Tryz.func40, Tryz.ntmps40
    go_wp2_with (first | ((with_reducible refine gate_dst (N := 2) rfl ?_); refine bx_ 2 #[.bool a0_0, .int .u64 a0_1, .int .u64 a0_2, .int .i64 a0_3] 38 ?_; intro gb187 hg w8 hbox hb; have BK187 := Aside0.mk (hbox); have GW187 := gw_ HB hg; have GE187 := gw_ HB hg; replace HB := bs_ HB hb; clear hb hbox hg) | ((with_reducible refine gate_dst (N := 3) rfl ?_); refine bx_ 3 #[.bool a1_0, .int .u64 a1_1, .int .u64 a1_2] 26 ?_; intro gb188 hg w9 hbox hb; have BK188 := Aside0.mk (hbox); have GW188 := gw_ HB hg; have GE188 := gw_ HB hg; have NB187_188 := nl_ BK187 hg; have NB188_187 := ng_ BK187 hg; replace BK187 := bb_ BK187 hb; replace HB := bs_ HB hb; clear hb hbox hg; have hnb10 := NB187_188.out; have hnc10 := NB188_187.out; obtain ⟨hcz11_0, hcz11_1, hcz11_2, hcz11_3, hfz11_0, hfz11_1, hfz11_2, hfz11_3⟩ := c4_ BK187) | ((with_reducible refine gate_callee (f := 36) rfl ?_); refine gl_ (some 8) Tryz.func36 #[.agg #[.bool a0_0, .int .u64 a0_1, .int .u64 a0_2, .int .i64 a0_3]] ?_; (with_reducible refine (prefix_Right.calls a0_0 a0_1 a0_2 a0_3 true _ A3.out).mono ?_); rintro e w12 ⟨rfl, hb⟩; refine ⟨_, rfl, ?_⟩; replace BK187 := bb_ BK187 hb; replace BK188 := bb_ BK188 hb; replace HB := bs_ HB hb; (try clear hb); (try clear hb2); (try clear hk); (try clear hi); obtain ⟨hcz13_0, hcz13_1, hcz13_2, hfz13_0, hfz13_1, hfz13_2⟩ := c3_ BK188) | (go_at_call 18; (with_reducible refine (addr_Right.calls a1_0 a1_1 a1_2 true _ A5.out).mono ?_); rintro e w14 ⟨rfl, hb⟩; replace BK187 := bb_ BK187 hb; replace BK188 := bb_ BK188 hb; replace HB := bs_ HB hb; (try clear hb); (try clear hb2); (try clear hk); (try clear hi); obtain ⟨hcz15_0, hcz15_1, hcz15_2, hfz15_0, hfz15_1, hfz15_2⟩ := c3_ BK188; obtain ⟨hcz16_0, hcz16_1, hcz16_2, hcz16_3, hfz16_0, hfz16_1, hfz16_2, hfz16_3⟩ := c4_ BK187))
    go_ret
    exact ⟨by first | rfl | (simp [errW_none, errW_some] <;> rfl) | (simp [*, errW_none, errW_some] <;> rfl), pb_ HB⟩
   ·
    rw [if_neg c7] at H
    have c7b0 : (a1_0 != a0_0) = false := by simpa using c7
    (try (have c7b1 : decide (a1_0 = a0_0) = true := by simpa using c7))
    (try (have c7b2 : (a1_0 == a0_0) = true := by simpa using c7))
    clear c7
    replace H := Option.bind_eq_some_iff.mp H
    obtain ⟨⟨t191, t192, t193, t194, t195⟩, A170, H⟩ := H
    replace H : (some ((t191 == a0_0 && ((t192 == a0_1 && (t193 == a0_2)))) && (t194 == a0_3))) = some r := H
    have A17 := Aside0.mk A170
    clear A170
    obtain rfl := Option.some.inj H
    go_enter Tryz.func40, Tryz.ntmps40
    go_wp2_with (first | ((with_reducible refine gate_dst (N := 2) rfl ?_); refine bx_ 2 #[.bool a0_0, .int .u64 a0_1, .int .u64 a0_2, .int .i64 a0_3] 38 ?_; intro gb187 hg w18 hbox hb; have BK187 := Aside0.mk (hbox); have GW187 := gw_ HB hg; have GE187 := gw_ HB hg; replace HB := bs_ HB hb; clear hb hbox hg) | ((with_reducible refine gate_dst (N := 3) rfl ?_); refine bx_ 3 #[.bool a1_0, .int .u64 a1_1, .int .u64 a1_2] 26 ?_; intro gb188 hg w19 hbox hb; have BK188 := Aside0.mk (hbox); have GW188 := gw_ HB hg; have GE188 := gw_ HB hg; have NB187_188 := nl_ BK187 hg; have NB188_187 := ng_ BK187 hg; replace BK187 := bb_ BK187 hb; replace HB := bs_ HB hb; clear hb hbox hg; have hnb20 := NB187_188.out; have hnc20 := NB188_187.out; obtain ⟨hcz21_0, hcz21_1, hcz21_2, hcz21_3, hfz21_0, hfz21_1, hfz21_2, hfz21_3⟩ := c4_ BK187) | ((with_reducible refine gate_callee (f := 36) rfl ?_); refine gl_ (some 8) Tryz.func36 #[.agg #[.bool a0_0, .int .u64 a0_1, .int .u64 a0_2, .int .i64 a0_3]] ?_; (with_reducible refine (prefix_Right.calls a0_0 a0_1 a0_2 a0_3 true _ A3.out).mono ?_); rintro e w22 ⟨rfl, hb⟩; refine ⟨_, rfl, ?_⟩; replace BK187 := bb_ BK187 hb; replace BK188 := bb_ BK188 hb; replace HB := bs_ HB hb; (try clear hb); (try clear hb2); (try clear hk); (try clear hi); obtain ⟨hcz23_0, hcz23_1, hcz23_2, hfz23_0, hfz23_1, hfz23_2⟩ := c3_ BK188) | (go_at_call 18; (with_reducible refine (addr_Right.calls a1_0 a1_1 a1_2 true _ A5.out).mono ?_); rintro e w24 ⟨rfl, hb⟩; replace BK187 := bb_ BK187 hb; replace BK188 := bb_ BK188 hb; replace HB := bs_ HB hb; (try clear hb); (try clear hb2); (try clear hk); (try clear hi); obtain ⟨hcz25_0, hcz25_1, hcz25_2, hfz25_0, hfz25_1, hfz25_2⟩ := c3_ BK188; obtain ⟨hcz26_0, hcz26_1, hcz26_2, hcz26_3, hfz26_0, hfz26_1, hfz26_2, hfz26_3⟩ := c4_ BK187) | ((with_reducible refine gate_callee (f := 34) rfl ?_); refine gl_ (some 27) Tryz.func34 #[.agg #[.bool a1_0, .int .u64 a1_1, .int .u64 a1_2], .int .i64 a0_3] ?_; (with_reducible refine (prefix_Of.calls k a1_0 a1_1 a1_2 a0_3 t191 t192 t193 t194 t195 _ A17.out).mono ?_); rintro e w27 ⟨rfl, hb⟩; refine ⟨_, rfl, ?_⟩; replace BK187 := bb_ BK187 hb; replace BK188 := bb_ BK188 hb; replace HB := bs_ HB hb; (try clear hb); (try clear hb2); (try clear hk); (try clear hi)) | ((with_reducible refine gate_dst (N := 5) rfl ?_); refine bx_ 5 #[.bool false, .int .u64 0, .int .u64 0, .int .i64 0] 38 ?_; intro gb196 hg w28 hbox hb; have BK196 := Aside0.mk (hbox); have GW196 := gw_ HB hg; have GE196 := gw_ HB hg; have NB187_196 := nl_ BK187 hg; have NB196_187 := ng_ BK187 hg; have NB188_196 := nl_ BK188 hg; have NB196_188 := ng_ BK188 hg; replace BK187 := bb_ BK187 hb; replace BK188 := bb_ BK188 hb; replace HB := bs_ HB hb; clear hb hbox hg; have hnb29 := NB196_187.out; have hnc29 := NB187_196.out; have hnb30 := NB196_188.out; have hnc30 := NB188_196.out; obtain ⟨hcz31_0, hcz31_1, hcz31_2, hcz31_3, hfz31_0, hfz31_1, hfz31_2, hfz31_3⟩ := c4_ BK196; obtain ⟨hcz32_0, hcz32_1, hcz32_2, hcz32_3, hfz32_0, hfz32_1, hfz32_2, hfz32_3⟩ := c4_ BK187))
    go_ret
    exact ⟨by first | rfl | (simp [errW_none, errW_some] <;> rfl) | (simp [*, errW_none, errW_some] <;> rfl), pb_ HB⟩
  ·
   replace c6 := Bool.eq_false_iff.mpr c6
   subst c6
   have H1 : (some false) = some r := by rw [if_neg (show ¬ (false = true) by decide)] at H; exact H
   clear H
   have H := H1
   clear H1
   obtain rfl := Option.some.inj H
   go_enter Tryz.func40, Tryz.ntmps40
   go_wp2_with (first | ((with_reducible refine gate_dst (N := 2) rfl ?_); refine bx_ 2 #[.bool a0_0, .int .u64 a0_1, .int .u64 a0_2, .int .i64 a0_3] 38 ?_; intro gb187 hg w33 hbox hb; have BK187 := Aside0.mk (hbox); have GW187 := gw_ HB hg; have GE187 := gw_ HB hg; replace HB := bs_ HB hb; clear hb hbox hg) | ((with_reducible refine gate_dst (N := 3) rfl ?_); refine bx_ 3 #[.bool a1_0, .int .u64 a1_1, .int .u64 a1_2] 26 ?_; intro gb188 hg w34 hbox hb; have BK188 := Aside0.mk (hbox); have GW188 := gw_ HB hg; have GE188 := gw_ HB hg; have NB187_188 := nl_ BK187 hg; have NB188_187 := ng_ BK187 hg; replace BK187 := bb_ BK187 hb; replace HB := bs_ HB hb; clear hb hbox hg; have hnb35 := NB187_188.out; have hnc35 := NB188_187.out; obtain ⟨hcz36_0, hcz36_1, hcz36_2, hcz36_3, hfz36_0, hfz36_1, hfz36_2, hfz36_3⟩ := c4_ BK187) | ((with_reducible refine gate_callee (f := 36) rfl ?_); refine gl_ (some 8) Tryz.func36 #[.agg #[.bool a0_0, .int .u64 a0_1, .int .u64 a0_2, .int .i64 a0_3]] ?_; (with_reducible refine (prefix_Right.calls a0_0 a0_1 a0_2 a0_3 true _ A3.out).mono ?_); rintro e w37 ⟨rfl, hb⟩; refine ⟨_, rfl, ?_⟩; replace BK187 := bb_ BK187 hb; replace BK188 := bb_ BK188 hb; replace HB := bs_ HB hb; (try clear hb); (try clear hb2); (try clear hk); (try clear hi); obtain ⟨hcz38_0, hcz38_1, hcz38_2, hfz38_0, hfz38_1, hfz38_2⟩ := c3_ BK188) | (go_at_call 18; (with_reducible refine (addr_Right.calls a1_0 a1_1 a1_2 false _ A5.out).mono ?_); rintro e w39 ⟨rfl, hb⟩; replace BK187 := bb_ BK187 hb; replace BK188 := bb_ BK188 hb; replace HB := bs_ HB hb; (try clear hb); (try clear hb2); (try clear hk); (try clear hi)))
   go_ret
   exact ⟨by first | rfl | (simp [errW_none, errW_some] <;> rfl) | (simp [*, errW_none, errW_some] <;> rfl), pb_ HB⟩
 ·
  replace c4 := Bool.eq_false_iff.mpr c4
  subst c4
  have H1 : (some false) = some r := by rw [if_neg (show ¬ (false = true) by decide)] at H; exact H
  clear H
  have H := H1
  clear H1
  obtain rfl := Option.some.inj H
  go_enter Tryz.func40, Tryz.ntmps40
  go_wp2_with (first | ((with_reducible refine gate_dst (N := 2) rfl ?_); refine bx_ 2 #[.bool a0_0, .int .u64 a0_1, .int .u64 a0_2, .int .i64 a0_3] 38 ?_; intro gb187 hg w40 hbox hb; have BK187 := Aside0.mk (hbox); have GW187 := gw_ HB hg; have GE187 := gw_ HB hg; replace HB := bs_ HB hb; clear hb hbox hg) | ((with_reducible refine gate_dst (N := 3) rfl ?_); refine bx_ 3 #[.bool a1_0, .int .u64 a1_1, .int .u64 a1_2] 26 ?_; intro gb188 hg w41 hbox hb; have BK188 := Aside0.mk (hbox); have GW188 := gw_ HB hg; have GE188 := gw_ HB hg; have NB187_188 := nl_ BK187 hg; have NB188_187 := ng_ BK187 hg; replace BK187 := bb_ BK187 hb; replace HB := bs_ HB hb; clear hb hbox hg; have hnb42 := NB187_188.out; have hnc42 := NB188_187.out; obtain ⟨hcz43_0, hcz43_1, hcz43_2, hcz43_3, hfz43_0, hfz43_1, hfz43_2, hfz43_3⟩ := c4_ BK187) | ((with_reducible refine gate_callee (f := 36) rfl ?_); refine gl_ (some 8) Tryz.func36 #[.agg #[.bool a0_0, .int .u64 a0_1, .int .u64 a0_2, .int .i64 a0_3]] ?_; (with_reducible refine (prefix_Right.calls a0_0 a0_1 a0_2 a0_3 false _ A3.out).mono ?_); rintro e w44 ⟨rfl, hb⟩; refine ⟨_, rfl, ?_⟩; replace BK187 := bb_ BK187 hb; replace BK188 := bb_ BK188 hb; replace HB := bs_ HB hb; (try clear hb); (try clear hb2); (try clear hk); (try clear hi)))
  go_ret
  exact ⟨by first | rfl | (simp [errW_none, errW_some] <;> rfl) | (simp [*, errW_none, errW_some] <;> rfl), pb_ HB⟩

def prefix_Print.f (a0_0 : Bool) (a0_1 : Int) (a0_2 : Int) (a0_3 : Int) : Option (ByteArray) := (prefix_Right.f a0_0 a0_1 a0_2 a0_3).bind fun t198 => (if t198 = true then ((addr_Print.f a0_0 a0_1 a0_2).bind fun t199 => (if t199.size + 1 ≤ 9223372036854775807 then ((strconv_Itoa.f a0_3).bind fun t200 => (if (t199 ++ (⟨#[47]⟩ : ByteArray)).size + t200.size ≤ 9223372036854775807 then (some ((t199 ++ (⟨#[47]⟩ : ByteArray)) ++ t200)) else (none))) else (none))) else (some (⟨#[]⟩ : ByteArray)))
def prefix_Print.T3 : Bool × List (List Nat × List Nat) := (true, [([], []), ([0], [0]), ([1], [1]), ([2], [2]), ([], []), ([4], [4]), ([5, 2], [5]), ([3, 6], [3, 6]), ([7, 6, 0, 1, 2, 3, 4, 5, 6, 7], [7])])
def prefix_Print.B3 : List Nat := [0, 1, 3, 7, 0, 16, 55, 127, 255]
theorem prefix_Print.tab3 : rtab .any (opsOf Tryz.f27 3) = prefix_Print.T3 := by kernel_rfl
theorem prefix_Print.bits3 : waitsOk prefix_Print.T3.2 prefix_Print.B3 = true := by kernel_rfl
set_option maxHeartbeats 8000000 in
set_option maxRecDepth 100000 in
theorem prefix_Print.calls (a0_0 : Bool) (a0_1 : Int) (a0_2 : Int) (a0_3 : Int) (r : ByteArray) (w : World) (hG : Glob w) (h : prefix_Print.f a0_0 a0_1 a0_2 a0_3 = some r) :
  Calls Tryz.prog 27 #[.agg #[.bool a0_0, .int .u64 a0_1, .int .u64 a0_2, .int .i64 a0_3]] w fun e w' => e = .returned (.string r) ∧ Below w.heap.size w w' := by
 have hu38 := Tryz.underlying38
 have hu26 := Tryz.underlying26
 have HGLB := Aside0.mk hG
 clear hG
 have HB := Aside0.mk (Below.refl w.heap.size w)
 have H : ((prefix_Right.f a0_0 a0_1 a0_2 a0_3).bind fun t198 => (if t198 = true then ((addr_Print.f a0_0 a0_1 a0_2).bind fun t199 => (if t199.size + 1 ≤ 9223372036854775807 then ((strconv_Itoa.f a0_3).bind fun t200 => (if (t199 ++ (⟨#[47]⟩ : ByteArray)).size + t200.size ≤ 9223372036854775807 then (some ((t199 ++ (⟨#[47]⟩ : ByteArray)) ++ t200)) else (none))) else (none))) else (some (⟨#[]⟩ : ByteArray)))) = some r := h
 clear h
 replace H := Option.bind_eq_some_iff.mp H
 obtain ⟨t198, A20, H⟩ := H
 replace H : (if t198 = true then ((addr_Print.f a0_0 a0_1 a0_2).bind fun t199 => (if t199.size + 1 ≤ 9223372036854775807 then ((strconv_Itoa.f a0_3).bind fun t200 => (if (t199 ++ (⟨#[47]⟩ : ByteArray)).size + t200.size ≤ 9223372036854775807 then (some ((t199 ++ (⟨#[47]⟩ : ByteArray)) ++ t200)) else (none))) else (none))) else (some (⟨#[]⟩ : ByteArray))) = some r := H
 have A2 := Aside0.mk A20
 clear A20
 by_cases c3 : t198 = true
 ·
  subst c3
  rw [if_pos rfl] at H
  replace H := Option.bind_eq_some_iff.mp H
  obtain ⟨t199, A40, H⟩ := H
  replace H : (if t199.size + 1 ≤ 9223372036854775807 then ((strconv_Itoa.f a0_3).bind fun t200 => (if (t199 ++ (⟨#[47]⟩ : ByteArray)).size + t200.size ≤ 9223372036854775807 then (some ((t199 ++ (⟨#[47]⟩ : ByteArray)) ++ t200)) else (none))) else (none)) = some r := H
  have A4 := Aside0.mk A40
  clear A40
  by_cases c5 : t199.size + 1 ≤ 9223372036854775807
  ·
   rw [if_pos c5] at H
   have c5b0 := eq_true c5
   have c5b1 : decide (t199.size + 1 ≤ 9223372036854775807) = true := decide_eq_true c5
   try have c5b2 : (9223372036854775807 < t199.size + 1) = False := eq_false (Nat.not_lt.2 c5)
   replace H := Option.bind_eq_some_iff.mp H
   obtain ⟨t200, A60, H⟩ := H
   replace H : (if (t199 ++ (⟨#[47]⟩ : ByteArray)).size + t200.size ≤ 9223372036854775807 then (some ((t199 ++ (⟨#[47]⟩ : ByteArray)) ++ t200)) else (none)) = some r := H
   have A6 := Aside0.mk A60
   clear A60
   by_cases c7 : (t199 ++ (⟨#[47]⟩ : ByteArray)).size + t200.size ≤ 9223372036854775807
   ·
    rw [if_pos c7] at H
    have c7b0 := eq_true c7
    have c7b1 : decide ((t199 ++ (⟨#[47]⟩ : ByteArray)).size + t200.size ≤ 9223372036854775807) = true := decide_eq_true c7
    try have c7b2 : (9223372036854775807 < (t199 ++ (⟨#[47]⟩ : ByteArray)).size + t200.size) = False := eq_false (Nat.not_lt.2 c7)
    (try (have c7b3 := of_eq_false c7b2; simp only [ByteArray.size_append, show (⟨#[47]⟩ : ByteArray).size = 1 from rfl] at c7b3; replace c7b3 := eq_false c7b3))
    obtain rfl := Option.some.inj H
    go_enter Tryz.func27, Tryz.ntmps27
    try go_wp2_with (first | ((with_reducible refine gate_dst (N := 1) rfl ?_); refine bx_ 1 #[.bool a0_0, .int .u64 a0_1, .int .u64 a0_2, .int .i64 a0_3] 38 ?_; intro gb197 hg w8 hbox hb; have BK197 := Aside0.mk (hbox); have GW197 := gw_ HB hg; have GE197 := gw_ HB hg; replace HB := bs_ HB hb; clear hb hbox hg; obtain ⟨hcz9_0, hcz9_1, hcz9_2, hcz9_3, hfz9_0, hfz9_1, hfz9_2, hfz9_3⟩ := c4_ BK197) | ((with_reducible refine gate_callee (f := 36) rfl ?_); refine gl_ (some 4) Tryz.func36 #[.agg #[.bool a0_0, .int .u64 a0_1, .int .u64 a0_2, .int .i64 a0_3]] ?_; (with_reducible refine (prefix_Right.calls a0_0 a0_1 a0_2 a0_3 true _ A2.out).mono ?_); rintro e w10 ⟨rfl, hb⟩; refine ⟨_, rfl, ?_⟩; replace BK197 := bb_ BK197 hb; replace HB := bs_ HB hb; (try clear hb); (try clear hb2); (try clear hk); (try clear hi)))
    replace BK197 := Aside0.mk (blk_drew BK197.out)
    replace HB := Aside0.mk (below_drew1 HB.out)
    refine start_ (n := 9) (S := fun w' => w'.cell? ⟨gb197, 0, none⟩ = some (.bool a0_0) ∧ w'.cell? ⟨gb197, 1, none⟩ = some (.int .u64 a0_1) ∧ w'.cell? ⟨gb197, 2, none⟩ = some (.int .u64 a0_2) ∧ w'.cell? ⟨gb197, 3, none⟩ = some (.int .i64 a0_3)) (ds := []) (bm_ 9 0) (by kernel_rfl) rfl rfl ⟨kc_ BK197 0, kc_ BK197 1, kc_ BK197 2, kc_ BK197 3⟩ (fun hHeld => ?_); refine with_tabW prefix_Print.tab3 prefix_Print.bits3 (fun HT_ HW_ => ?_)
    generalize w10.drew = w11 at BK197 HB hHeld ⊢
    refine pu_ 0 (some 6) (bm_ 9 1) rfl HT_ ⟨by rfl, by intro w'; go_simp; with_reducible rfl⟩ ?_
    refine pu_ 4 (some 10) (bm_ 9 17) rfl HT_ ⟨by rfl, by intro w'; go_simp; with_reducible rfl⟩ ?_
    refine ta_ 1 (some 7) (bm_ 9 19) rfl HT_ HW_ ⟨by rfl, by rintro w' ⟨s0, s1, s2, s3⟩; go_simp; with_reducible rfl⟩ hHeld ?_
    refine ta_ 5 (some 11) (bm_ 9 51) rfl HT_ HW_ ⟨by rfl, by rintro w' ⟨s0, s1, s2, s3⟩; go_simp; with_reducible rfl⟩ hHeld ?_
    refine one_ (i := 2) (N := some 8) (bm_ 9 55) rfl rfl (one_of HT_.out (by kernel_rfl)) (by decide) (fun K hK => ?_)
    refine gr_ Tryz.func64 #[.agg #[.bool a0_0, .int .u64 a0_1, .int .u64 a0_2]] ?_
    with_reducible refine (addr_Print.calls a0_0 a0_1 a0_2 t199 _ ?side1 A4.out).mono ?_
    (case side1 => exact glob_keep HGLB.out (pb_ HB))
    rintro e w12 ⟨rfl, hb⟩
    refine ⟨_, rfl, ?_⟩
    replace BK197 := bb_ BK197 hb
    replace HB := bs_ HB hb
    (try clear hb)
    (try clear hb2)
    (try clear hk)
    (try clear hi)
    refine hK.out _ _ ⟨kc_ BK197 0, kc_ BK197 1, kc_ BK197 2, kc_ BK197 3⟩ (fun hHeld => ?_)
    clear hK K
    refine norm_ (a' := ?_) ?_ ?_
    rotate_left
    ·
     show Act.put _ (some 8) _ = _
     simp only [Act.put, List.setIfInBounds_toArray, List.set_cons_zero, List.set_cons_succ, i64_w, i32_w]
     rfl
    refine pu_ 3 (some 9) (bm_ 9 63) rfl HT_ ⟨by rfl, by intro w'; go_simp; with_reducible rfl⟩ ?_
    refine one_ (i := 6) (N := some 12) (bm_ 9 127) rfl rfl (one_of HT_.out (by kernel_rfl)) (by decide) (fun K hK => ?_)
    refine gr_ Tryz.func74 #[.int .i64 a0_3] ?_
    with_reducible refine (strconv_Itoa.calls a0_3 t200 _ ?side1 A6.out).mono ?_
    (case side1 => exact glob_keep HGLB.out (pb_ HB))
    rintro e w13 ⟨rfl, hb⟩
    refine ⟨_, rfl, ?_⟩
    replace BK197 := bb_ BK197 hb
    replace HB := bs_ HB hb
    (try clear hb)
    (try clear hb2)
    (try clear hk)
    (try clear hi)
    refine hK.out _ _ ⟨kc_ BK197 0, kc_ BK197 1, kc_ BK197 2, kc_ BK197 3⟩ (fun hHeld => ?_)
    clear hK K
    refine norm_ (a' := ?_) ?_ ?_
    rotate_left
    ·
     show Act.put _ (some 12) _ = _
     simp only [Act.put, List.setIfInBounds_toArray, List.set_cons_zero, List.set_cons_succ, i64_w, i32_w]
     rfl
    refine pu_ 7 (some 13) (bm_ 9 255) rfl HT_ ⟨by rfl, by intro w'; go_simp; with_reducible rfl⟩ ?_
    refine pu_ 8 (some 2) (bm_ 9 511) rfl HT_ ⟨by rfl, by intro w'; go_simp; with_reducible rfl⟩ ?_
    refine done_ (done_of HT_.out (by kernel_rfl)) ?_
    try go_wp2
    go_ret
    exact ⟨by first | rfl | (simp [errW_none, errW_some] <;> rfl) | (simp [*, errW_none, errW_some] <;> rfl), pb_ HB⟩
   ·
    rw [if_neg c7] at H
    exact absurd H (by simp)
  ·
   rw [if_neg c5] at H
   exact absurd H (by simp)
 ·
  replace c3 := Bool.eq_false_iff.mpr c3
  subst c3
  have H1 : (some (⟨#[]⟩ : ByteArray)) = some r := by rw [if_neg (show ¬ (false = true) by decide)] at H; exact H
  clear H
  have H := H1
  clear H1
  obtain rfl := Option.some.inj H
  go_enter Tryz.func27, Tryz.ntmps27
  go_wp2_with (first | ((with_reducible refine gate_dst (N := 1) rfl ?_); refine bx_ 1 #[.bool a0_0, .int .u64 a0_1, .int .u64 a0_2, .int .i64 a0_3] 38 ?_; intro gb197 hg w14 hbox hb; have BK197 := Aside0.mk (hbox); have GW197 := gw_ HB hg; have GE197 := gw_ HB hg; replace HB := bs_ HB hb; clear hb hbox hg; obtain ⟨hcz15_0, hcz15_1, hcz15_2, hcz15_3, hfz15_0, hfz15_1, hfz15_2, hfz15_3⟩ := c4_ BK197) | ((with_reducible refine gate_callee (f := 36) rfl ?_); refine gl_ (some 4) Tryz.func36 #[.agg #[.bool a0_0, .int .u64 a0_1, .int .u64 a0_2, .int .i64 a0_3]] ?_; (with_reducible refine (prefix_Right.calls a0_0 a0_1 a0_2 a0_3 false _ A2.out).mono ?_); rintro e w16 ⟨rfl, hb⟩; refine ⟨_, rfl, ?_⟩; replace BK197 := bb_ BK197 hb; replace HB := bs_ HB hb; (try clear hb); (try clear hb2); (try clear hk); (try clear hi)))
  go_ret
  exact ⟨by first | rfl | (simp [errW_none, errW_some] <;> rfl) | (simp [*, errW_none, errW_some] <;> rfl), pb_ HB⟩

def carve_cuts.f (a0_0 : Bool) (a0_1 : Int) (a0_2 : Int) (a0_3 : Int) (a1 : Int) : Option (Bool) := (prefix_Right.f a0_0 a0_1 a0_2 a0_3).bind fun t202 => (if t202 = true then (if a1 ≥ a0_3 then ((addr_Width.f a0_0 a0_1 a0_2).bind fun t203 => (some (decide (a1 ≤ t203)))) else (some false)) else (some false))
set_option maxHeartbeats 8000000 in
set_option maxRecDepth 100000 in
theorem carve_cuts.calls (a0_0 : Bool) (a0_1 : Int) (a0_2 : Int) (a0_3 : Int) (a1 : Int) (r : Bool) (w : World) (h : carve_cuts.f a0_0 a0_1 a0_2 a0_3 a1 = some r) :
  Calls Tryz.prog 89 #[.agg #[.bool a0_0, .int .u64 a0_1, .int .u64 a0_2, .int .i64 a0_3], .int .i64 a1] w fun e w' => e = .returned (.bool r) ∧ Below w.heap.size w w' := by
 have hu38 := Tryz.underlying38
 have hu26 := Tryz.underlying26
 have HB := Aside0.mk (Below.refl w.heap.size w)
 have H : ((prefix_Right.f a0_0 a0_1 a0_2 a0_3).bind fun t202 => (if t202 = true then (if a1 ≥ a0_3 then ((addr_Width.f a0_0 a0_1 a0_2).bind fun t203 => (some (decide (a1 ≤ t203)))) else (some false)) else (some false))) = some r := h
 clear h
 replace H := Option.bind_eq_some_iff.mp H
 obtain ⟨t202, A30, H⟩ := H
 replace H : (if t202 = true then (if a1 ≥ a0_3 then ((addr_Width.f a0_0 a0_1 a0_2).bind fun t203 => (some (decide (a1 ≤ t203)))) else (some false)) else (some false)) = some r := H
 have A3 := Aside0.mk A30
 clear A30
 by_cases c4 : t202 = true
 ·
  subst c4
  rw [if_pos rfl] at H
  by_cases c5 : a1 ≥ a0_3
  ·
   rw [if_pos c5] at H
   have c5b0 : decide (a0_3 ≤ a1) = true := decide_eq_true c5
   clear c5
   replace H := Option.bind_eq_some_iff.mp H
   obtain ⟨t203, A60, H⟩ := H
   replace H : (some (decide (a1 ≤ t203))) = some r := H
   have A6 := Aside0.mk A60
   clear A60
   obtain rfl := Option.some.inj H
   go_enter Tryz.func89, Tryz.ntmps89
   go_wp2_with (first | ((with_reducible refine gate_dst (N := 2) rfl ?_); refine bx_ 2 #[.bool a0_0, .int .u64 a0_1, .int .u64 a0_2, .int .i64 a0_3] 38 ?_; intro gb201 hg w7 hbox hb; have BK201 := Aside0.mk (hbox); have GW201 := gw_ HB hg; have GE201 := gw_ HB hg; replace HB := bs_ HB hb; clear hb hbox hg; obtain ⟨hcz8_0, hcz8_1, hcz8_2, hcz8_3, hfz8_0, hfz8_1, hfz8_2, hfz8_3⟩ := c4_ BK201) | ((with_reducible refine gate_callee (f := 36) rfl ?_); refine gl_ (some 6) Tryz.func36 #[.agg #[.bool a0_0, .int .u64 a0_1, .int .u64 a0_2, .int .i64 a0_3]] ?_; (with_reducible refine (prefix_Right.calls a0_0 a0_1 a0_2 a0_3 true _ A3.out).mono ?_); rintro e w9 ⟨rfl, hb⟩; refine ⟨_, rfl, ?_⟩; replace BK201 := bb_ BK201 hb; replace HB := bs_ HB hb; (try clear hb); (try clear hb2); (try clear hk); (try clear hi); obtain ⟨hcz10_0, hcz10_1, hcz10_2, hcz10_3, hfz10_0, hfz10_1, hfz10_2, hfz10_3⟩ := c4_ BK201) | (go_at_call 22; (with_reducible refine (addr_Width.calls a0_0 a0_1 a0_2 t203 _ A6.out).mono ?_); rintro e w11 ⟨rfl, hb⟩; replace BK201 := bb_ BK201 hb; replace HB := bs_ HB hb; (try clear hb); (try clear hb2); (try clear hk); (try clear hi)))
   go_ret
   exact ⟨by first | rfl | (simp [errW_none, errW_some] <;> rfl) | (simp [*, errW_none, errW_some] <;> rfl), pb_ HB⟩
  ·
   rw [if_neg c5] at H
   have c5b0 : decide (a0_3 ≤ a1) = false := decide_eq_false c5
   clear c5
   obtain rfl := Option.some.inj H
   go_enter Tryz.func89, Tryz.ntmps89
   go_wp2_with (first | ((with_reducible refine gate_dst (N := 2) rfl ?_); refine bx_ 2 #[.bool a0_0, .int .u64 a0_1, .int .u64 a0_2, .int .i64 a0_3] 38 ?_; intro gb201 hg w12 hbox hb; have BK201 := Aside0.mk (hbox); have GW201 := gw_ HB hg; have GE201 := gw_ HB hg; replace HB := bs_ HB hb; clear hb hbox hg; obtain ⟨hcz13_0, hcz13_1, hcz13_2, hcz13_3, hfz13_0, hfz13_1, hfz13_2, hfz13_3⟩ := c4_ BK201) | ((with_reducible refine gate_callee (f := 36) rfl ?_); refine gl_ (some 6) Tryz.func36 #[.agg #[.bool a0_0, .int .u64 a0_1, .int .u64 a0_2, .int .i64 a0_3]] ?_; (with_reducible refine (prefix_Right.calls a0_0 a0_1 a0_2 a0_3 true _ A3.out).mono ?_); rintro e w14 ⟨rfl, hb⟩; refine ⟨_, rfl, ?_⟩; replace BK201 := bb_ BK201 hb; replace HB := bs_ HB hb; (try clear hb); (try clear hb2); (try clear hk); (try clear hi); obtain ⟨hcz15_0, hcz15_1, hcz15_2, hcz15_3, hfz15_0, hfz15_1, hfz15_2, hfz15_3⟩ := c4_ BK201))
   go_ret
   exact ⟨by first | rfl | (simp [errW_none, errW_some] <;> rfl) | (simp [*, errW_none, errW_some] <;> rfl), pb_ HB⟩
 ·
  replace c4 := Bool.eq_false_iff.mpr c4
  subst c4
  have H1 : (some false) = some r := by rw [if_neg (show ¬ (false = true) by decide)] at H; exact H
  clear H
  have H := H1
  clear H1
  obtain rfl := Option.some.inj H
  go_enter Tryz.func89, Tryz.ntmps89
  go_wp2_with (first | ((with_reducible refine gate_dst (N := 2) rfl ?_); refine bx_ 2 #[.bool a0_0, .int .u64 a0_1, .int .u64 a0_2, .int .i64 a0_3] 38 ?_; intro gb201 hg w16 hbox hb; have BK201 := Aside0.mk (hbox); have GW201 := gw_ HB hg; have GE201 := gw_ HB hg; replace HB := bs_ HB hb; clear hb hbox hg; obtain ⟨hcz17_0, hcz17_1, hcz17_2, hcz17_3, hfz17_0, hfz17_1, hfz17_2, hfz17_3⟩ := c4_ BK201) | ((with_reducible refine gate_callee (f := 36) rfl ?_); refine gl_ (some 6) Tryz.func36 #[.agg #[.bool a0_0, .int .u64 a0_1, .int .u64 a0_2, .int .i64 a0_3]] ?_; (with_reducible refine (prefix_Right.calls a0_0 a0_1 a0_2 a0_3 false _ A3.out).mono ?_); rintro e w18 ⟨rfl, hb⟩; refine ⟨_, rfl, ?_⟩; replace BK201 := bb_ BK201 hb; replace HB := bs_ HB hb; (try clear hb); (try clear hb2); (try clear hk); (try clear hi)))
  go_ret
  exact ⟨by first | rfl | (simp [errW_none, errW_some] <;> rfl) | (simp [*, errW_none, errW_some] <;> rfl), pb_ HB⟩

end Go.Proofs.YtgdgklibilddgaaGreatDoor.PSp

namespace Go.Proofs.YtgdgklibilddgaaGreatDoor.PSp
open Go.RowKit Go.Proofs.YtgdgklibilddgaaGreatDoorW.PrintWords Go.Proofs.YtgdgklibilddgaaGreatDoorW.PrintLast Go.Proofs.YtgdgklibilddgaaGreatDoorW.PrintMore
attribute [local go_sem] max2_int min2_int max_two min_two max_three min_three max_four min_four   -- for this text's walks alone

attribute [local go_sem high] eqA26
def carve_widest.l0 : Nat → Bool → Int → Int → Bool → Int → Int → Bool → Int → Int → Int → Option (Bool × Int × Int × Int)
 | 0, _, _, _, _, _, _, _, _, _, _ => none
 | k + 1, x216000, x216001, x216002, x217000, x217001, x217002, x225000, x225001, x225002, x225003 => if x225003 > 0 then ((prefix_Of.f k x216000 x216001 x216002 (wrap64 (x225003 - 1))).bind fun bt225 => (if (!(bt225.1 == x216000) || ((!(bt225.2.1 == x216001) || (!(bt225.2.2.1 == x216002))))) = true then (some (x225000, x225001, x225002, x225003)) else ((prefix_Last.f bt225.1 bt225.2.1 bt225.2.2.1 bt225.2.2.2.1).bind fun bt231 => ((addr_Cmp.f bt231.1 bt231.2.1 bt231.2.2 x217000 x217001 x217002).bind fun t234 => (if t234 > 0 then (some (x225000, x225001, x225002, x225003)) else (carve_widest.l0 k x216000 x216001 x216002 x217000 x217001 x217002 bt225.1 bt225.2.1 bt225.2.2.1 bt225.2.2.2.1)))))) else (some (x225000, x225001, x225002, x225003))
def carve_widest.f (k : Nat) (a0_0 : Bool) (a0_1 : Int) (a0_2 : Int) (a1_0 : Bool) (a1_1 : Int) (a1_2 : Int) : Option (Bool × Int × Int × Int) := (addr_Width.f a0_0 a0_1 a0_2).bind fun t218 => ((prefix_Of.f k a0_0 a0_1 a0_2 t218).bind fun bt219 => (carve_widest.l0 k a0_0 a0_1 a0_2 a1_0 a1_1 a1_2 bt219.1 bt219.2.1 bt219.2.2.1 bt219.2.2.2.1))
def carve_widest.T1 : Bool × List (List Nat × List Nat) := (true, [([], []), ([], []), ([1], [1]), ([0, 2, 2], [0, 2]), ([3], [3]), ([4], [4]), ([4], [4]), ([], []), ([7, 5, 3, 0, 1, 2, 3, 4, 5, 7], [5, 7]), ([6, 8, 0, 1, 2, 3, 4, 5, 6, 7, 8], [6])])
def carve_widest.B1 : List Nat := [0, 0, 2, 7, 15, 31, 31, 0, 191, 511]
theorem carve_widest.tab1 : rtab .any (opsOf Tryz.f96 1) = carve_widest.T1 := by kernel_rfl
theorem carve_widest.bits1 : waitsOk carve_widest.T1.2 carve_widest.B1 = true := by kernel_rfl
def carve_widest.T4 : Bool × List (List Nat × List Nat) := (true, [([], []), ([0], [0]), ([], []), ([1, 2], [1, 2]), ([3], [3]), ([4], [4]), ([5, 4, 4], [4, 5]), ([4], [4]), ([6, 7, 6, 4], [4, 6, 7]), ([8, 4], [4, 8]), ([4, 9], [4, 9])])
def carve_widest.B4 : List Nat := [0, 1, 0, 7, 15, 31, 63, 31, 255, 511, 1023]
theorem carve_widest.tab4 : rtab .any (opsOf Tryz.f96 4) = carve_widest.T4 := by kernel_rfl
theorem carve_widest.bits4 : waitsOk carve_widest.T4.2 carve_widest.B4 = true := by kernel_rfl
set_option maxHeartbeats 8000000 in
set_option maxRecDepth 100000 in
theorem carve_widest.calls (k : Nat) (a0_0 : Bool) (a0_1 : Int) (a0_2 : Int) (a1_0 : Bool) (a1_1 : Int) (a1_2 : Int) (r1 : Bool) (r2 : Int) (r3 : Int) (r4 : Int) (w : World) (h : carve_widest.f k a0_0 a0_1 a0_2 a1_0 a1_1 a1_2 = some (r1, r2, r3, r4)) :
  Calls Tryz.prog 96 #[.agg #[.bool a0_0, .int .u64 a0_1, .int .u64 a0_2], .agg #[.bool a1_0, .int .u64 a1_1, .int .u64 a1_2]] w fun e w' => e = .returned (.agg #[.bool r1, .int .u64 r2, .int .u64 r3, .int .i64 r4]) ∧ Below w.heap.size w w' := by
 have hu26 := Tryz.underlying26
 have hu38 := Tryz.underlying38
 have HB := Aside0.mk (Below.refl w.heap.size w)
 have H : ((addr_Width.f a0_0 a0_1 a0_2).bind fun t218 => ((prefix_Of.f k a0_0 a0_1 a0_2 t218).bind fun bt219 => (carve_widest.l0 k a0_0 a0_1 a0_2 a1_0 a1_1 a1_2 bt219.1 bt219.2.1 bt219.2.2.1 bt219.2.2.2.1))) = some (r1, r2, r3, r4) := h
 clear h
 replace H := Option.bind_eq_some_iff.mp H
 obtain ⟨t218, A30, H⟩ := H
 replace H : ((prefix_Of.f k a0_0 a0_1 a0_2 t218).bind fun bt219 => (carve_widest.l0 k a0_0 a0_1 a0_2 a1_0 a1_1 a1_2 bt219.1 bt219.2.1 bt219.2.2.1 bt219.2.2.2.1)) = some (r1, r2, r3, r4) := H
 have A3 := Aside0.mk A30
 clear A30
 replace H := Option.bind_eq_some_iff.mp H
 obtain ⟨⟨t219, t220, t221, t222, t223⟩, A40, H⟩ := H
 replace H : (carve_widest.l0 k a0_0 a0_1 a0_2 a1_0 a1_1 a1_2 t219 t220 t221 t222) = some (r1, r2, r3, r4) := H
 have A4 := Aside0.mk A40
 clear A40
 have H' := Aside0.mk H
 clear H
 go_enter Tryz.func96, Tryz.ntmps96
 try go_wp2_with (first | ((with_reducible refine gate_dst (N := 2) rfl ?_); refine bx_ 2 #[.bool a0_0, .int .u64 a0_1, .int .u64 a0_2] 26 ?_; intro gb215 hg w5 hbox hb; have BK215 := Aside0.mk (hbox); have GW215 := gw_ HB hg; have GE215 := gw_ HB hg; replace HB := bs_ HB hb; clear hb hbox hg) | ((with_reducible refine gate_dst (N := 3) rfl ?_); refine bx_ 3 #[.bool a1_0, .int .u64 a1_1, .int .u64 a1_2] 26 ?_; intro gb216 hg w6 hbox hb; have BK216 := Aside0.mk (hbox); have GW216 := gw_ HB hg; have GE216 := gw_ HB hg; have NB215_216 := nl_ BK215 hg; have NB216_215 := ng_ BK215 hg; replace BK215 := bb_ BK215 hb; replace HB := bs_ HB hb; clear hb hbox hg) | ((with_reducible refine gate_dst (N := 4) rfl ?_); refine bx_ 4 #[.bool false, .int .u64 0, .int .u64 0, .int .i64 0] 38 ?_; intro gb217 hg w7 hbox hb; have BK217 := Aside0.mk (hbox); have GW217 := gw_ HB hg; have GE217 := gw_ HB hg; have NB215_217 := nl_ BK215 hg; have NB217_215 := ng_ BK215 hg; have NB216_217 := nl_ BK216 hg; have NB217_216 := ng_ BK216 hg; replace BK215 := bb_ BK215 hb; replace BK216 := bb_ BK216 hb; replace HB := bs_ HB hb; clear hb hbox hg))
 replace BK215 := Aside0.mk (blk_drew BK215.out)
 replace BK216 := Aside0.mk (blk_drew BK216.out)
 replace BK217 := Aside0.mk (blk_drew BK217.out)
 replace HB := Aside0.mk (below_drew1 HB.out)
 refine start_ (n := 10) (S := fun w' => w'.cell? ⟨gb215, 0, none⟩ = some (.bool a0_0) ∧ w'.cell? ⟨gb215, 1, none⟩ = some (.int .u64 a0_1) ∧ w'.cell? ⟨gb215, 2, none⟩ = some (.int .u64 a0_2)) (ds := []) (bm_ 10 0) (by kernel_rfl) rfl rfl ⟨kc_ BK215 0, kc_ BK215 1, kc_ BK215 2⟩ (fun hHeld => ?_); refine with_tabW carve_widest.tab1 carve_widest.bits1 (fun HT_ HW_ => ?_)
 generalize w7.drew = w8 at BK215 BK216 BK217 HB hHeld ⊢
 refine ta_ 0 (some 10) (bm_ 10 1) rfl HT_ HW_ ⟨by rfl, by rintro w' ⟨s0, s1, s2⟩; go_simp; with_reducible rfl⟩ hHeld ?_
 refine ta_ 1 (some 11) (bm_ 10 3) rfl HT_ HW_ ⟨by rfl, by rintro w' ⟨s0, s1, s2⟩; go_simp; with_reducible rfl⟩ hHeld ?_
 refine join_ (σ := Nat) 2 (bm_ 10 255) (fun s_ => [(12, .int .i64 t218), (13, .tuple #[.agg #[.bool t219, .int .u64 t220, .int .u64 t221, .int .i64 t222], .int .i64 t223]), (5, .pointer (some ⟨s_, 0, none⟩)), (9, .tuple #[.agg #[.bool t219, .int .u64 t220, .int .u64 t221, .int .i64 t222], .int .i64 t223]), (14, .agg #[.bool t219, .int .u64 t220, .int .u64 t221, .int .i64 t222]), (15, .int .i64 t223)]) (fun s_ w' => (w'.cell? ⟨gb215, 0, none⟩ = some (.bool a0_0) ∧ w'.cell? ⟨gb215, 1, none⟩ = some (.int .u64 a0_1) ∧ w'.cell? ⟨gb215, 2, none⟩ = some (.int .u64 a0_2)) ∧ (w'.heap[gb215]? = some (.cells #[.bool a0_0, .int .u64 a0_1, .int .u64 a0_2] 26 (0, 0))) ∧ (w'.heap[gb216]? = some (.cells #[.bool a1_0, .int .u64 a1_1, .int .u64 a1_2] 26 (0, 0))) ∧ (w'.heap[gb217]? = some (.cells #[.bool false, .int .u64 0, .int .u64 0, .int .i64 0] 38 (0, 0))) ∧ (w'.heap[s_]? = some (.cells #[.bool false, .int .u64 0, .int .u64 0, .int .i64 0] 38 (0, 0))) ∧ (w.heap.size ≤ s_) ∧ (w.heap.size ≤ s_) ∧ (gb215 ≠ s_) ∧ (s_ ≠ gb215) ∧ (gb216 ≠ s_) ∧ (s_ ≠ gb216) ∧ (gb217 ≠ s_) ∧ (s_ ≠ gb217) ∧ (Below w.heap.size w w')) ?_ ?_
 rotate_left
 ·
  intro hCont
  refine two_ (i := 2) (j := 7) (Ni := some 12) (Nj := some 5) (bm_ 10 7) (bm_ 10 131) rfl rfl rfl rfl (two_of HT_.out (by kernel_rfl)) (by decide) (by decide) (fun K hK => ?_) (fun K hK => ?_)
  ·
   skip
   refine gr_ Tryz.func22 #[.agg #[.bool a0_0, .int .u64 a0_1, .int .u64 a0_2]] ?_
   with_reducible refine (addr_Width.calls a0_0 a0_1 a0_2 t218 _ A3.out).mono ?_
   rintro e w9 ⟨rfl, hb⟩
   refine ⟨_, rfl, ?_⟩
   replace BK215 := bb_ BK215 hb
   replace BK216 := bb_ BK216 hb
   replace BK217 := bb_ BK217 hb
   replace HB := bs_ HB hb
   (try clear hb)
   (try clear hb2)
   (try clear hk)
   (try clear hi)
   refine hK.out _ _ ⟨kc_ BK215 0, kc_ BK215 1, kc_ BK215 2⟩ (fun hHeld => ?_)
   clear hK K
   refine norm_ (a' := ?_) ?_ ?_
   rotate_left
   ·
    show Act.put _ (some 12) _ = _
    simp only [Act.put, List.setIfInBounds_toArray, List.set_cons_zero, List.set_cons_succ, i64_w, i32_w]
    rfl
   refine two_ (i := 3) (j := 7) (Ni := some 13) (Nj := some 5) (bm_ 10 15) (bm_ 10 135) rfl rfl rfl rfl (two_of HT_.out (by kernel_rfl)) (by decide) (by decide) (fun K hK => ?_) (fun K hK => ?_)
   ·
    skip
    refine gr_ Tryz.func34 #[.agg #[.bool a0_0, .int .u64 a0_1, .int .u64 a0_2], .int .i64 t218] ?_
    with_reducible refine (prefix_Of.calls k a0_0 a0_1 a0_2 t218 t219 t220 t221 t222 t223 _ A4.out).mono ?_
    rintro e w10 ⟨rfl, hb⟩
    refine ⟨_, rfl, ?_⟩
    replace BK215 := bb_ BK215 hb
    replace BK216 := bb_ BK216 hb
    replace BK217 := bb_ BK217 hb
    replace HB := bs_ HB hb
    (try clear hb)
    (try clear hb2)
    (try clear hk)
    (try clear hi)
    refine hK.out _ _ ⟨kc_ BK215 0, kc_ BK215 1, kc_ BK215 2⟩ (fun hHeld => ?_)
    clear hK K
    refine norm_ (a' := ?_) ?_ ?_
    rotate_left
    ·
     show Act.put _ (some 13) _ = _
     simp only [Act.put, List.setIfInBounds_toArray, List.set_cons_zero, List.set_cons_succ, i64_w, i32_w]
     rfl
    refine pu_ 4 (some 9) (bm_ 10 31) rfl HT_ ⟨by rfl, by intro w'; go_simp; with_reducible rfl⟩ ?_
    refine pu_ 5 (some 14) (bm_ 10 63) rfl HT_ ⟨by rfl, by intro w'; go_simp; with_reducible rfl⟩ ?_
    refine pu_ 6 (some 15) (bm_ 10 127) rfl HT_ ⟨by rfl, by intro w'; go_simp; with_reducible rfl⟩ ?_
    refine one_ (i := 7) (N := some 5) (bm_ 10 255) rfl rfl (one_of HT_.out (by kernel_rfl)) (by decide) (fun K hK => ?_)
    refine box_step ?hg (N := 5) ?hd (cs := #[.bool false, .int .u64 0, .int .u64 0, .int .i64 0]) (t := 38) ?hr ?_; (case hd => rfl); (case hg => rfl); (case hr => first | (go_simp; done) | (go_simp; rfl))
    intro gb224 hg w11 hbox hb
    have BK224 := Aside0.mk (hbox)
    have GW224 := gw_ HB hg
    have GE224 := gw_ HB hg
    have NB215_224 := nl_ BK215 hg
    have NB224_215 := ng_ BK215 hg
    have NB216_224 := nl_ BK216 hg
    have NB224_216 := ng_ BK216 hg
    have NB217_224 := nl_ BK217 hg
    have NB224_217 := ng_ BK217 hg
    replace BK215 := bb_ BK215 hb
    replace BK216 := bb_ BK216 hb
    replace BK217 := bb_ BK217 hb
    replace HB := bs_ HB hb
    clear hb hbox hg
    refine hK.out _ _ ⟨kc_ BK215 0, kc_ BK215 1, kc_ BK215 2⟩ (fun hHeld => ?_)
    clear hK K
    refine norm_ (a' := ?_) ?_ ?_
    rotate_left
    ·
     show Act.put _ (some 5) _ = _
     simp only [Act.put, List.setIfInBounds_toArray, List.set_cons_zero, List.set_cons_succ, i64_w, i32_w]
     rfl
    exact norm_ (by simp only [putAll, Act.put, List.setIfInBounds_toArray, List.set_cons_zero, List.set_cons_succ]) (hCont (gb224) _ ⟨hHeld, (pk_ BK215), (pk_ BK216), (pk_ BK217), (pk_ BK224), GW224.out, GE224.out, NB215_224.out, NB224_215.out, NB216_224.out, NB224_216.out, NB217_224.out, NB224_217.out, (pb_ HB)⟩)
   ·
    skip
    refine box_step ?hg (N := 5) ?hd (cs := #[.bool false, .int .u64 0, .int .u64 0, .int .i64 0]) (t := 38) ?hr ?_; (case hd => rfl); (case hg => rfl); (case hr => first | (go_simp; done) | (go_simp; rfl))
    intro gb224 hg w10 hbox hb
    have BK224 := Aside0.mk (hbox)
    have GW224 := gw_ HB hg
    have GE224 := gw_ HB hg
    have NB215_224 := nl_ BK215 hg
    have NB224_215 := ng_ BK215 hg
    have NB216_224 := nl_ BK216 hg
    have NB224_216 := ng_ BK216 hg
    have NB217_224 := nl_ BK217 hg
    have NB224_217 := ng_ BK217 hg
    replace BK215 := bb_ BK215 hb
    replace BK216 := bb_ BK216 hb
    replace BK217 := bb_ BK217 hb
    replace HB := bs_ HB hb
    clear hb hbox hg
    refine hK.out _ _ ⟨kc_ BK215 0, kc_ BK215 1, kc_ BK215 2⟩ (fun hHeld => ?_)
    clear hK K
    refine norm_ (a' := ?_) ?_ ?_
    rotate_left
    ·
     show Act.put _ (some 5) _ = _
     simp only [Act.put, List.setIfInBounds_toArray, List.set_cons_zero, List.set_cons_succ, i64_w, i32_w]
     rfl
    refine one_ (i := 3) (N := some 13) (bm_ 10 143) rfl rfl (one_of HT_.out (by kernel_rfl)) (by decide) (fun K hK => ?_)
    refine gr_ Tryz.func34 #[.agg #[.bool a0_0, .int .u64 a0_1, .int .u64 a0_2], .int .i64 t218] ?_
    with_reducible refine (prefix_Of.calls k a0_0 a0_1 a0_2 t218 t219 t220 t221 t222 t223 _ A4.out).mono ?_
    rintro e w11 ⟨rfl, hb⟩
    refine ⟨_, rfl, ?_⟩
    replace BK215 := bb_ BK215 hb
    replace BK216 := bb_ BK216 hb
    replace BK217 := bb_ BK217 hb
    replace BK224 := bb_ BK224 hb
    replace HB := bs_ HB hb
    (try clear hb)
    (try clear hb2)
    (try clear hk)
    (try clear hi)
    refine hK.out _ _ ⟨kc_ BK215 0, kc_ BK215 1, kc_ BK215 2⟩ (fun hHeld => ?_)
    clear hK K
    refine norm_ (a' := ?_) ?_ ?_
    rotate_left
    ·
     show Act.put _ (some 13) _ = _
     simp only [Act.put, List.setIfInBounds_toArray, List.set_cons_zero, List.set_cons_succ, i64_w, i32_w]
     rfl
    refine pu_ 4 (some 9) (bm_ 10 159) rfl HT_ ⟨by rfl, by intro w'; go_simp; with_reducible rfl⟩ ?_
    refine pu_ 5 (some 14) (bm_ 10 191) rfl HT_ ⟨by rfl, by intro w'; go_simp; with_reducible rfl⟩ ?_
    refine pu_ 6 (some 15) (bm_ 10 255) rfl HT_ ⟨by rfl, by intro w'; go_simp; with_reducible rfl⟩ ?_
    exact norm_ (by simp only [putAll, Act.put, List.setIfInBounds_toArray, List.set_cons_zero, List.set_cons_succ]) (hCont (gb224) _ ⟨hHeld, (pk_ BK215), (pk_ BK216), (pk_ BK217), (pk_ BK224), GW224.out, GE224.out, NB215_224.out, NB224_215.out, NB216_224.out, NB224_216.out, NB217_224.out, NB224_217.out, (pb_ HB)⟩)
  ·
   skip
   refine box_step ?hg (N := 5) ?hd (cs := #[.bool false, .int .u64 0, .int .u64 0, .int .i64 0]) (t := 38) ?hr ?_; (case hd => rfl); (case hg => rfl); (case hr => first | (go_simp; done) | (go_simp; rfl))
   intro gb224 hg w9 hbox hb
   have BK224 := Aside0.mk (hbox)
   have GW224 := gw_ HB hg
   have GE224 := gw_ HB hg
   have NB215_224 := nl_ BK215 hg
   have NB224_215 := ng_ BK215 hg
   have NB216_224 := nl_ BK216 hg
   have NB224_216 := ng_ BK216 hg
   have NB217_224 := nl_ BK217 hg
   have NB224_217 := ng_ BK217 hg
   replace BK215 := bb_ BK215 hb
   replace BK216 := bb_ BK216 hb
   replace BK217 := bb_ BK217 hb
   replace HB := bs_ HB hb
   clear hb hbox hg
   refine hK.out _ _ ⟨kc_ BK215 0, kc_ BK215 1, kc_ BK215 2⟩ (fun hHeld => ?_)
   clear hK K
   refine norm_ (a' := ?_) ?_ ?_
   rotate_left
   ·
    show Act.put _ (some 5) _ = _
    simp only [Act.put, List.setIfInBounds_toArray, List.set_cons_zero, List.set_cons_succ, i64_w, i32_w]
    rfl
   refine one_ (i := 2) (N := some 12) (bm_ 10 135) rfl rfl (one_of HT_.out (by kernel_rfl)) (by decide) (fun K hK => ?_)
   refine gr_ Tryz.func22 #[.agg #[.bool a0_0, .int .u64 a0_1, .int .u64 a0_2]] ?_
   with_reducible refine (addr_Width.calls a0_0 a0_1 a0_2 t218 _ A3.out).mono ?_
   rintro e w10 ⟨rfl, hb⟩
   refine ⟨_, rfl, ?_⟩
   replace BK215 := bb_ BK215 hb
   replace BK216 := bb_ BK216 hb
   replace BK217 := bb_ BK217 hb
   replace BK224 := bb_ BK224 hb
   replace HB := bs_ HB hb
   (try clear hb)
   (try clear hb2)
   (try clear hk)
   (try clear hi)
   refine hK.out _ _ ⟨kc_ BK215 0, kc_ BK215 1, kc_ BK215 2⟩ (fun hHeld => ?_)
   clear hK K
   refine norm_ (a' := ?_) ?_ ?_
   rotate_left
   ·
    show Act.put _ (some 12) _ = _
    simp only [Act.put, List.setIfInBounds_toArray, List.set_cons_zero, List.set_cons_succ, i64_w, i32_w]
    rfl
   refine one_ (i := 3) (N := some 13) (bm_ 10 143) rfl rfl (one_of HT_.out (by kernel_rfl)) (by decide) (fun K hK => ?_)
   refine gr_ Tryz.func34 #[.agg #[.bool a0_0, .int .u64 a0_1, .int .u64 a0_2], .int .i64 t218] ?_
   with_reducible refine (prefix_Of.calls k a0_0 a0_1 a0_2 t218 t219 t220 t221 t222 t223 _ A4.out).mono ?_
   rintro e w11 ⟨rfl, hb⟩
   refine ⟨_, rfl, ?_⟩
   replace BK215 := bb_ BK215 hb
   replace BK216 := bb_ BK216 hb
   replace BK217 := bb_ BK217 hb
   replace BK224 := bb_ BK224 hb
   replace HB := bs_ HB hb
   (try clear hb)
   (try clear hb2)
   (try clear hk)
   (try clear hi)
   refine hK.out _ _ ⟨kc_ BK215 0, kc_ BK215 1, kc_ BK215 2⟩ (fun hHeld => ?_)
   clear hK K
   refine norm_ (a' := ?_) ?_ ?_
   rotate_left
   ·
    show Act.put _ (some 13) _ = _
    simp only [Act.put, List.setIfInBounds_toArray, List.set_cons_zero, List.set_cons_succ, i64_w, i32_w]
    rfl
   refine pu_ 4 (some 9) (bm_ 10 159) rfl HT_ ⟨by rfl, by intro w'; go_simp; with_reducible rfl⟩ ?_
   refine pu_ 5 (some 14) (bm_ 10 191) rfl HT_ ⟨by rfl, by intro w'; go_simp; with_reducible rfl⟩ ?_
   refine pu_ 6 (some 15) (bm_ 10 255) rfl HT_ ⟨by rfl, by intro w'; go_simp; with_reducible rfl⟩ ?_
   exact norm_ (by simp only [putAll, Act.put, List.setIfInBounds_toArray, List.set_cons_zero, List.set_cons_succ]) (hCont (gb224) _ ⟨hHeld, (pk_ BK215), (pk_ BK216), (pk_ BK217), (pk_ BK224), GW224.out, GE224.out, NB215_224.out, NB224_215.out, NB216_224.out, NB224_216.out, NB217_224.out, NB224_217.out, (pb_ HB)⟩)
 rintro gb224 w12 ⟨hS_, h0_, h1_, h2_, h3_, h4_, h5_, h6_, h7_, h8_, h9_, h10_, h11_, h12_⟩
 have n0_ : Aside0 (w12.heap[gb215]? = some (.cells #[.bool a0_0, .int .u64 a0_1, .int .u64 a0_2] 26 (0, 0))) := ⟨h0_⟩
 have n1_ : Aside0 (w12.heap[gb216]? = some (.cells #[.bool a1_0, .int .u64 a1_1, .int .u64 a1_2] 26 (0, 0))) := ⟨h1_⟩
 have n2_ : Aside0 (w12.heap[gb217]? = some (.cells #[.bool false, .int .u64 0, .int .u64 0, .int .i64 0] 38 (0, 0))) := ⟨h2_⟩
 have n3_ : Aside0 (w12.heap[gb224]? = some (.cells #[.bool false, .int .u64 0, .int .u64 0, .int .i64 0] 38 (0, 0))) := ⟨h3_⟩
 have n4_ : Aside0 (w.heap.size ≤ gb224) := ⟨h4_⟩
 have n5_ : Aside0 (w.heap.size ≤ gb224) := ⟨h5_⟩
 have n6_ : Aside0 (gb215 ≠ gb224) := ⟨h6_⟩
 have n7_ : Aside0 (gb224 ≠ gb215) := ⟨h7_⟩
 have n8_ : Aside0 (gb216 ≠ gb224) := ⟨h8_⟩
 have n9_ : Aside0 (gb224 ≠ gb216) := ⟨h9_⟩
 have n10_ : Aside0 (gb217 ≠ gb224) := ⟨h10_⟩
 have n11_ : Aside0 (gb224 ≠ gb217) := ⟨h11_⟩
 have n12_ : Aside0 (Below w.heap.size w w12) := ⟨h12_⟩
 clear BK215
 clear BK216
 clear BK217
 clear HB
 clear h0_ h1_ h2_ h3_ h4_ h5_ h6_ h7_ h8_ h9_ h10_ h11_ h12_
 have BK215 := n0_
 have BK216 := n1_
 have BK217 := n2_
 have BK224 := n3_
 have GW224 := n4_
 have GE224 := n5_
 have NB215_224 := n6_
 have NB224_215 := n7_
 have NB216_224 := n8_
 have NB224_216 := n9_
 have NB217_224 := n10_
 have NB224_217 := n11_
 have HB := n12_
 clear n0_ n1_ n2_ n3_ n4_ n5_ n6_ n7_ n8_ n9_ n10_ n11_ n12_
 have hHeld : w12.cell? ⟨gb215, 0, none⟩ = some (.bool a0_0) ∧ w12.cell? ⟨gb215, 1, none⟩ = some (.int .u64 a0_1) ∧ w12.cell? ⟨gb215, 2, none⟩ = some (.int .u64 a0_2) := hS_
 refine norm_ (a' := ?_) ?_ ?_
 rotate_left
 ·
  simp only [putAll, Act.put, List.setIfInBounds_toArray, List.set_cons_zero, List.set_cons_succ]
  rfl
 refine one_ (i := 8) (N := none) (bm_ 10 511) rfl rfl (one_of HT_.out (by kernel_rfl)) (by decide) (fun K hK => ?_)
 have hs13 : w12.cell? ⟨gb224, 0, none⟩ = some (.bool false) := kc_ BK224 0
 have hfs13 := blk_frozen BK224.out 0
 have hns13_0 := NB215_224.out
 have hns13_1 := NB216_224.out
 have hns13_2 := NB217_224.out
 have hms13_0 := NB224_215.out
 have hms13_1 := NB224_216.out
 have hms13_2 := NB224_217.out
 have hs14 : w12.cell? ⟨gb224, 1, none⟩ = some (.int .u64 0) := kc_ BK224 1
 have hfs14 := blk_frozen BK224.out 1
 have hns14_0 := NB215_224.out
 have hns14_1 := NB216_224.out
 have hns14_2 := NB217_224.out
 have hms14_0 := NB224_215.out
 have hms14_1 := NB224_216.out
 have hms14_2 := NB224_217.out
 have hs15 : w12.cell? ⟨gb224, 2, none⟩ = some (.int .u64 0) := kc_ BK224 2
 have hfs15 := blk_frozen BK224.out 2
 have hns15_0 := NB215_224.out
 have hns15_1 := NB216_224.out
 have hns15_2 := NB217_224.out
 have hms15_0 := NB224_215.out
 have hms15_1 := NB224_216.out
 have hms15_2 := NB224_217.out
 have hs16 : w12.cell? ⟨gb224, 3, none⟩ = some (.int .i64 0) := kc_ BK224 3
 have hfs16 := blk_frozen BK224.out 3
 have hns16_0 := NB215_224.out
 have hns16_1 := NB216_224.out
 have hns16_2 := NB217_224.out
 have hms16_0 := NB224_215.out
 have hms16_1 := NB224_216.out
 have hms16_2 := NB224_217.out
 refine skip_ (w1 := ?_) (by rfl) rfl ?_ ?_
 rotate_left
 ·
  go_simp
  rfl
 refine hK.out _ _ ⟨((cell_far (p := ⟨gb224, _, none⟩) NB215_224.out _).trans (((cell_far (p := ⟨gb224, _, none⟩) NB215_224.out _).trans (((cell_far (p := ⟨gb224, _, none⟩) NB215_224.out _).trans (((cell_far (p := ⟨gb224, _, none⟩) NB215_224.out _).trans (hHeld.1)))))))), ((cell_far (p := ⟨gb224, _, none⟩) NB215_224.out _).trans (((cell_far (p := ⟨gb224, _, none⟩) NB215_224.out _).trans (((cell_far (p := ⟨gb224, _, none⟩) NB215_224.out _).trans (((cell_far (p := ⟨gb224, _, none⟩) NB215_224.out _).trans (hHeld.2.1)))))))), ((cell_far (p := ⟨gb224, _, none⟩) NB215_224.out _).trans (((cell_far (p := ⟨gb224, _, none⟩) NB215_224.out _).trans (((cell_far (p := ⟨gb224, _, none⟩) NB215_224.out _).trans (((cell_far (p := ⟨gb224, _, none⟩) NB215_224.out _).trans (hHeld.2.2))))))))⟩ (fun hHeld => ?_)
 clear hK K
 refine pu_ 9 (some 6) (bm_ 10 1023) rfl HT_ ⟨by rfl, by intro w'; go_simp; with_reducible rfl⟩ ?_
 refine done_ (done_of HT_.out (by kernel_rfl)) ?_
 try go_wp2
 go_loopg [] k (fun kq w' => ∃ (x225000_1 : Bool) (x225001_1 : Int) (x225002_1 : Int) (x225003_1 : Int), Aside0 (carve_widest.l0 kq a0_0 a0_1 a0_2 a1_0 a1_1 a1_2 x225000_1 x225001_1 x225002_1 x225003_1 = some (r1, r2, r3, r4)) ∧ Aside0 (kq ≤ k) ∧ Aside0 (w'.heap[gb215]? = some (.cells #[.bool a0_0, .int .u64 a0_1, .int .u64 a0_2] 26 (0, 0))) ∧ Aside0 (w'.heap[gb216]? = some (.cells #[.bool a1_0, .int .u64 a1_1, .int .u64 a1_2] 26 (0, 0))) ∧ Aside0 (w'.heap[gb217]? = some (.cells #[.bool false, .int .u64 0, .int .u64 0, .int .i64 0] 38 (0, 0))) ∧ Aside0 (w'.heap[gb224]? = some (.cells #[.bool x225000_1, .int .u64 x225001_1, .int .u64 x225002_1, .int .i64 x225003_1] 38 (0, 0))) ∧ Aside0 (Below w.heap.size w w'))
 case atStart => exact ⟨(t219), (t220), (t221), (t222), H', ⟨Nat.le_refl _⟩, ⟨by refine pw_ ?_; refine blk_far ?_ NB215_224.out _; refine pw_ ?_; refine blk_far ?_ NB215_224.out _; refine pw_ ?_; refine blk_far ?_ NB215_224.out _; refine pw_ ?_; refine blk_far ?_ NB215_224.out _; refine pw_ ?_; exact BK215.out⟩, ⟨by refine pw_ ?_; refine blk_far ?_ NB216_224.out _; refine pw_ ?_; refine blk_far ?_ NB216_224.out _; refine pw_ ?_; refine blk_far ?_ NB216_224.out _; refine pw_ ?_; refine blk_far ?_ NB216_224.out _; refine pw_ ?_; exact BK216.out⟩, ⟨by refine pw_ ?_; refine blk_far ?_ NB217_224.out _; refine pw_ ?_; refine blk_far ?_ NB217_224.out _; refine pw_ ?_; refine blk_far ?_ NB217_224.out _; refine pw_ ?_; refine blk_far ?_ NB217_224.out _; refine pw_ ?_; exact BK217.out⟩, ⟨by refine pw_ ?_; refine blk_put (cs := #[.bool t219, .int .u64 t220, .int .u64 t221, .int .i64 0]) ?_ 3 _ rfl; refine pw_ ?_; refine blk_put (cs := #[.bool t219, .int .u64 t220, .int .u64 0, .int .i64 0]) ?_ 2 _ rfl; refine pw_ ?_; refine blk_put (cs := #[.bool t219, .int .u64 0, .int .u64 0, .int .i64 0]) ?_ 1 _ rfl; refine pw_ ?_; refine blk_put (cs := #[.bool false, .int .u64 0, .int .u64 0, .int .i64 0]) ?_ 0 _ rfl; refine pw_ ?_; exact BK224.out⟩, ⟨pb_ HB⟩⟩
 case round =>
  clear H'
  try clear c2
  try clear p2
  try clear c3
  try clear c9
  obtain ⟨x225000_1, x225001_1, x225002_1, x225003_1, HA, HK1, BK215, BK216, BK217, BK224, HB⟩ := hrel
  cases gk with
  | zero => exact absurd HA.out (by simp [carve_widest.l0])
  | succ k1 =>
   have H := HA.out
   clear HA
   simp only [carve_widest.l0] at H
   by_cases c17 : x225003_1 > 0
   ·
    rw [if_pos c17] at H
    have c17b0 : decide (0 < x225003_1) = true := decide_eq_true c17
    clear c17
    replace H := Option.bind_eq_some_iff.mp H
    obtain ⟨⟨t225, t226, t227, t228, t229⟩, A180, H⟩ := H
    replace H : (if (!(t225 == a0_0) || ((!(t226 == a0_1) || (!(t227 == a0_2))))) = true then (some (x225000_1, x225001_1, x225002_1, x225003_1)) else ((prefix_Last.f t225 t226 t227 t228).bind fun bt231 => ((addr_Cmp.f bt231.1 bt231.2.1 bt231.2.2 a1_0 a1_1 a1_2).bind fun t234 => (if t234 > 0 then (some (x225000_1, x225001_1, x225002_1, x225003_1)) else (carve_widest.l0 k1 a0_0 a0_1 a0_2 a1_0 a1_1 a1_2 t225 t226 t227 t228))))) = some (r1, r2, r3, r4) := H
    have A18 := Aside0.mk A180
    clear A180
    by_cases c19 : (!(t225 == a0_0) || ((!(t226 == a0_1) || (!(t227 == a0_2))))) = true
    ·
     rw [if_pos c19] at H
     have c19b0 : (!(t225 == a0_0) || ((!(t226 == a0_1) || (!(t227 == a0_2))))) = true := c19
     clear c19
     simp only [Option.some.injEq, Prod.mk.injEq] at H
     obtain ⟨rfl, rfl, rfl, rfl⟩ := H
     have hnb20 := NB224_215.out
     have hnc20 := NB215_224.out
     have hnb21 := NB224_216.out
     have hnc21 := NB216_224.out
     have hnb22 := NB224_217.out
     have hnc22 := NB217_224.out
     obtain ⟨hcz23_0, hcz23_1, hcz23_2, hcz23_3, hfz23_0, hfz23_1, hfz23_2, hfz23_3⟩ := c4_ BK224
     have hnb24 := NB215_216.out
     have hnc24 := NB216_215.out
     have hnb25 := NB215_217.out
     have hnc25 := NB217_215.out
     obtain ⟨hcz26_0, hcz26_1, hcz26_2, hfz26_0, hfz26_1, hfz26_2⟩ := c3_ BK215
     try go_wp2_with (first | ((with_reducible refine gate_callee (f := 34) rfl ?_); refine gl_ (some 24) Tryz.func34 #[.agg #[.bool a0_0, .int .u64 a0_1, .int .u64 a0_2], .int .i64 (wrap64 (x225003_1 - 1))] ?_; (with_reducible refine (prefix_Of.calls k1 a0_0 a0_1 a0_2 (wrap64 (x225003_1 - 1)) t225 t226 t227 t228 t229 _ A18.out).mono ?_); rintro e w27 ⟨rfl, hb⟩; refine ⟨_, rfl, ?_⟩; replace BK215 := bb_ BK215 hb; replace BK216 := bb_ BK216 hb; replace BK217 := bb_ BK217 hb; replace BK224 := bb_ BK224 hb; replace HB := bs_ HB hb; (try clear hb); (try clear hb2); (try clear hk); (try clear hi)) | ((with_reducible refine gate_dst (N := 7) rfl ?_); refine bx_ 7 #[.bool false, .int .u64 0, .int .u64 0, .int .i64 0] 38 ?_; intro gb230 hg w28 hbox hb; have BK230 := Aside0.mk (hbox); have GW230 := gw_ HB hg; have GE230 := gw_ HB hg; have NB215_230 := nl_ BK215 hg; have NB230_215 := ng_ BK215 hg; have NB216_230 := nl_ BK216 hg; have NB230_216 := ng_ BK216 hg; have NB217_230 := nl_ BK217 hg; have NB230_217 := ng_ BK217 hg; have NB224_230 := nl_ BK224 hg; have NB230_224 := ng_ BK224 hg; replace BK215 := bb_ BK215 hb; replace BK216 := bb_ BK216 hb; replace BK217 := bb_ BK217 hb; replace BK224 := bb_ BK224 hb; replace HB := bs_ HB hb; clear hb hbox hg; have hnb29 := NB230_215.out; have hnc29 := NB215_230.out; have hnb30 := NB230_216.out; have hnc30 := NB216_230.out; have hnb31 := NB230_217.out; have hnc31 := NB217_230.out; have hnb32 := NB230_224.out; have hnc32 := NB224_230.out; obtain ⟨hcz33_0, hcz33_1, hcz33_2, hcz33_3, hfz33_0, hfz33_1, hfz33_2, hfz33_3⟩ := c4_ BK230))
     have n0_ : Aside0 (((((w28.setCell ⟨gb230, 0, none⟩ (.bool t225)).setCell ⟨gb230, 1, none⟩ (.int .u64 t226)).setCell ⟨gb230, 2, none⟩ (.int .u64 t227)).setCell ⟨gb230, 3, none⟩ (.int .i64 t228)).heap[gb215]? = some (.cells #[.bool a0_0, .int .u64 a0_1, .int .u64 a0_2] 26 (0, 0))) := ⟨by refine pw_ ?_; refine blk_far ?_ NB215_230.out _; refine pw_ ?_; refine blk_far ?_ NB215_230.out _; refine pw_ ?_; refine blk_far ?_ NB215_230.out _; refine pw_ ?_; refine blk_far ?_ NB215_230.out _; refine pw_ ?_; exact BK215.out⟩
     have n1_ : Aside0 (((((w28.setCell ⟨gb230, 0, none⟩ (.bool t225)).setCell ⟨gb230, 1, none⟩ (.int .u64 t226)).setCell ⟨gb230, 2, none⟩ (.int .u64 t227)).setCell ⟨gb230, 3, none⟩ (.int .i64 t228)).heap[gb216]? = some (.cells #[.bool a1_0, .int .u64 a1_1, .int .u64 a1_2] 26 (0, 0))) := ⟨by refine pw_ ?_; refine blk_far ?_ NB216_230.out _; refine pw_ ?_; refine blk_far ?_ NB216_230.out _; refine pw_ ?_; refine blk_far ?_ NB216_230.out _; refine pw_ ?_; refine blk_far ?_ NB216_230.out _; refine pw_ ?_; exact BK216.out⟩
     have n2_ : Aside0 (((((w28.setCell ⟨gb230, 0, none⟩ (.bool t225)).setCell ⟨gb230, 1, none⟩ (.int .u64 t226)).setCell ⟨gb230, 2, none⟩ (.int .u64 t227)).setCell ⟨gb230, 3, none⟩ (.int .i64 t228)).heap[gb217]? = some (.cells #[.bool false, .int .u64 0, .int .u64 0, .int .i64 0] 38 (0, 0))) := ⟨by refine pw_ ?_; refine blk_far ?_ NB217_230.out _; refine pw_ ?_; refine blk_far ?_ NB217_230.out _; refine pw_ ?_; refine blk_far ?_ NB217_230.out _; refine pw_ ?_; refine blk_far ?_ NB217_230.out _; refine pw_ ?_; exact BK217.out⟩
     have n3_ : Aside0 (((((w28.setCell ⟨gb230, 0, none⟩ (.bool t225)).setCell ⟨gb230, 1, none⟩ (.int .u64 t226)).setCell ⟨gb230, 2, none⟩ (.int .u64 t227)).setCell ⟨gb230, 3, none⟩ (.int .i64 t228)).heap[gb224]? = some (.cells #[.bool x225000_1, .int .u64 x225001_1, .int .u64 x225002_1, .int .i64 x225003_1] 38 (0, 0))) := ⟨by refine pw_ ?_; refine blk_far ?_ NB224_230.out _; refine pw_ ?_; refine blk_far ?_ NB224_230.out _; refine pw_ ?_; refine blk_far ?_ NB224_230.out _; refine pw_ ?_; refine blk_far ?_ NB224_230.out _; refine pw_ ?_; exact BK224.out⟩
     have n4_ : Aside0 (((((w28.setCell ⟨gb230, 0, none⟩ (.bool t225)).setCell ⟨gb230, 1, none⟩ (.int .u64 t226)).setCell ⟨gb230, 2, none⟩ (.int .u64 t227)).setCell ⟨gb230, 3, none⟩ (.int .i64 t228)).heap[gb230]? = some (.cells #[.bool t225, .int .u64 t226, .int .u64 t227, .int .i64 t228] 38 (0, 0))) := ⟨by refine pw_ ?_; refine blk_put (cs := #[.bool t225, .int .u64 t226, .int .u64 t227, .int .i64 0]) ?_ 3 _ rfl; refine pw_ ?_; refine blk_put (cs := #[.bool t225, .int .u64 t226, .int .u64 0, .int .i64 0]) ?_ 2 _ rfl; refine pw_ ?_; refine blk_put (cs := #[.bool t225, .int .u64 0, .int .u64 0, .int .i64 0]) ?_ 1 _ rfl; refine pw_ ?_; refine blk_put (cs := #[.bool false, .int .u64 0, .int .u64 0, .int .i64 0]) ?_ 0 _ rfl; refine pw_ ?_; exact BK230.out⟩
     have n5_ : Aside0 (Below w.heap.size w ((((w28.setCell ⟨gb230, 0, none⟩ (.bool t225)).setCell ⟨gb230, 1, none⟩ (.int .u64 t226)).setCell ⟨gb230, 2, none⟩ (.int .u64 t227)).setCell ⟨gb230, 3, none⟩ (.int .i64 t228))) := ⟨pb_ HB⟩
     (try clear BK215)
     (try clear BK216)
     (try clear BK217)
     (try clear BK224)
     (try clear BK230)
     (try clear HB)
     generalize ((((w28.setCell ⟨gb230, 0, none⟩ (.bool t225)).setCell ⟨gb230, 1, none⟩ (.int .u64 t226)).setCell ⟨gb230, 2, none⟩ (.int .u64 t227)).setCell ⟨gb230, 3, none⟩ (.int .i64 t228)) = w34 at n0_ n1_ n2_ n3_ n4_ n5_ ⊢
     have BK215 := n0_
     have BK216 := n1_
     have BK217 := n2_
     have BK224 := n3_
     have BK230 := n4_
     have HB := n5_
     clear n0_ n1_ n2_ n3_ n4_ n5_
     replace BK215 := Aside0.mk (blk_drew BK215.out)
     replace BK216 := Aside0.mk (blk_drew BK216.out)
     replace BK217 := Aside0.mk (blk_drew BK217.out)
     replace BK224 := Aside0.mk (blk_drew BK224.out)
     replace BK230 := Aside0.mk (blk_drew BK230.out)
     replace HB := Aside0.mk (below_drew1 HB.out)
     refine start_ (n := 11) (S := fun w' => w'.cell? ⟨gb230, 0, none⟩ = some (.bool t225) ∧ w'.cell? ⟨gb230, 1, none⟩ = some (.int .u64 t226) ∧ w'.cell? ⟨gb230, 2, none⟩ = some (.int .u64 t227) ∧ w'.cell? ⟨gb230, 3, none⟩ = some (.int .i64 t228) ∧ w'.cell? ⟨gb215, 0, none⟩ = some (.bool a0_0) ∧ w'.cell? ⟨gb215, 1, none⟩ = some (.int .u64 a0_1) ∧ w'.cell? ⟨gb215, 2, none⟩ = some (.int .u64 a0_2)) (ds := []) (bm_ 11 0) (by kernel_rfl) rfl rfl ⟨kc_ BK230 0, kc_ BK230 1, kc_ BK230 2, kc_ BK230 3, kc_ BK215 0, kc_ BK215 1, kc_ BK215 2⟩ (fun hHeld => ?_); refine with_tabW carve_widest.tab4 carve_widest.bits4 (fun HT_ HW_ => ?_)
     generalize w34.drew = w35 at BK215 BK216 BK217 BK224 BK230 HB hHeld ⊢
     refine pu_ 0 (some 27) (bm_ 11 1) rfl HT_ ⟨by rfl, by intro w'; go_simp; with_reducible rfl⟩ ?_
     refine ta_ 1 (some 28) (bm_ 11 3) rfl HT_ HW_ ⟨by rfl, by rintro w' ⟨s0, s1, s2, s3, s4, s5, s6⟩; go_simp; with_reducible rfl⟩ hHeld ?_
     refine ta_ 2 (some 29) (bm_ 11 7) rfl HT_ HW_ ⟨by rfl, by rintro w' ⟨s0, s1, s2, s3, s4, s5, s6⟩; go_simp; with_reducible rfl⟩ hHeld ?_
     refine pu_ 3 (some 30) (bm_ 11 15) rfl HT_ ⟨by rfl, by intro w'; go_simp; with_reducible rfl⟩ ?_
     refine pu_ 4 (some 31) (bm_ 11 31) rfl HT_ ⟨by rfl, by intro w'; go_simp; with_reducible rfl⟩ ?_
     refine pure_ (i := 5) (N := some 32) (v := undef) (a' := ?_) (bm_ 11 63) rfl rfl (any_of HT_.out (by kernel_rfl)) (fun _ _ _ h => h) (Or.inr ⟨by rfl, rfl⟩) ?_ ?_
     rotate_left
     ·
      simp only [Act.put, List.setIfInBounds_toArray, List.set_cons_zero, List.set_cons_succ, i64_w, i32_w]
      rfl
     refine pure_ (i := 6) (N := some 33) (v := undef) (a' := ?_) (bm_ 11 127) rfl rfl (any_of HT_.out (by kernel_rfl)) (fun _ _ _ h => h) (Or.inr ⟨by rfl, rfl⟩) ?_ ?_
     rotate_left
     ·
      simp only [Act.put, List.setIfInBounds_toArray, List.set_cons_zero, List.set_cons_succ, i64_w, i32_w]
      rfl
     refine pure_ (i := 7) (N := some 34) (v := undef) (a' := ?_) (bm_ 11 255) rfl rfl (any_of HT_.out (by kernel_rfl)) (fun _ _ _ h => h) (Or.inr ⟨by rfl, rfl⟩) ?_ ?_
     rotate_left
     ·
      simp only [Act.put, List.setIfInBounds_toArray, List.set_cons_zero, List.set_cons_succ, i64_w, i32_w]
      rfl
     refine pure_ (i := 8) (N := some 35) (v := undef) (a' := ?_) (bm_ 11 511) rfl rfl (any_of HT_.out (by kernel_rfl)) (fun _ _ _ h => h) (Or.inr ⟨by rfl, rfl⟩) ?_ ?_
     rotate_left
     ·
      simp only [Act.put, List.setIfInBounds_toArray, List.set_cons_zero, List.set_cons_succ, i64_w, i32_w]
      rfl
     refine pure_ (i := 9) (N := some 36) (v := undef) (a' := ?_) (bm_ 11 1023) rfl rfl (any_of HT_.out (by kernel_rfl)) (fun _ _ _ h => h) (Or.inr ⟨by rfl, rfl⟩) ?_ ?_
     rotate_left
     ·
      simp only [Act.put, List.setIfInBounds_toArray, List.set_cons_zero, List.set_cons_succ, i64_w, i32_w]
      rfl
     refine pu_ 10 (some 37) (bm_ 11 2047) rfl HT_ ⟨by rfl, by intro w'; go_simp; with_reducible rfl⟩ ?_
     refine done_ (done_of HT_.out (by kernel_rfl)) ?_
     obtain ⟨hcz36_0, hcz36_1, hcz36_2, hcz36_3, hfz36_0, hfz36_1, hfz36_2, hfz36_3⟩ := c4_ BK224
     have hnb37 := NB217_216.out
     have hnc37 := NB216_217.out
     obtain ⟨hcz38_0, hcz38_1, hcz38_2, hcz38_3, hfz38_0, hfz38_1, hfz38_2, hfz38_3⟩ := c4_ BK217
     try go_wp2
     refine bodyPost_ret (results_cell_row rfl _ _ gb217 38 #[.bool x225000_1, .int .u64 x225001_1, .int .u64 x225002_1, .int .i64 x225003_1] (0, 0) _ rfl (by refine pw_ ?_; refine blk_put (cs := #[.bool x225000_1, .int .u64 x225001_1, .int .u64 x225002_1, .int .i64 0]) ?_ 3 _ rfl; refine pw_ ?_; refine blk_put (cs := #[.bool x225000_1, .int .u64 x225001_1, .int .u64 0, .int .i64 0]) ?_ 2 _ rfl; refine pw_ ?_; refine blk_put (cs := #[.bool x225000_1, .int .u64 0, .int .u64 0, .int .i64 0]) ?_ 1 _ rfl; refine pw_ ?_; refine blk_put (cs := #[.bool false, .int .u64 0, .int .u64 0, .int .i64 0]) ?_ 0 _ rfl; refine pw_ ?_; exact BK217.out) Tryz.underlying38 rfl (by kernel_rfl)) rfl ?_
     exact ⟨by first | rfl | (simp [errW_none, errW_some] <;> rfl) | (simp [*, errW_none, errW_some] <;> rfl), pb_ HB⟩
    ·
     rw [if_neg c19] at H
     have c19b0 : (!(t225 == a0_0) || ((!(t226 == a0_1) || (!(t227 == a0_2))))) = false := by simpa using c19
     clear c19
     replace H := Option.bind_eq_some_iff.mp H
     obtain ⟨⟨t231, t232, t233⟩, A390, H⟩ := H
     replace H : ((addr_Cmp.f t231 t232 t233 a1_0 a1_1 a1_2).bind fun t234 => (if t234 > 0 then (some (x225000_1, x225001_1, x225002_1, x225003_1)) else (carve_widest.l0 k1 a0_0 a0_1 a0_2 a1_0 a1_1 a1_2 t225 t226 t227 t228))) = some (r1, r2, r3, r4) := H
     have A39 := Aside0.mk A390
     clear A390
     replace H := Option.bind_eq_some_iff.mp H
     obtain ⟨t234, A400, H⟩ := H
     replace H : (if t234 > 0 then (some (x225000_1, x225001_1, x225002_1, x225003_1)) else (carve_widest.l0 k1 a0_0 a0_1 a0_2 a1_0 a1_1 a1_2 t225 t226 t227 t228)) = some (r1, r2, r3, r4) := H
     have A40 := Aside0.mk A400
     clear A400
     by_cases c41 : t234 > 0
     ·
      rw [if_pos c41] at H
      have c41b0 : decide (0 < t234) = true := decide_eq_true c41
      clear c41
      simp only [Option.some.injEq, Prod.mk.injEq] at H
      obtain ⟨rfl, rfl, rfl, rfl⟩ := H
      have hnb42 := NB224_215.out
      have hnc42 := NB215_224.out
      have hnb43 := NB224_216.out
      have hnc43 := NB216_224.out
      have hnb44 := NB224_217.out
      have hnc44 := NB217_224.out
      obtain ⟨hcz45_0, hcz45_1, hcz45_2, hcz45_3, hfz45_0, hfz45_1, hfz45_2, hfz45_3⟩ := c4_ BK224
      have hnb46 := NB215_216.out
      have hnc46 := NB216_215.out
      have hnb47 := NB215_217.out
      have hnc47 := NB217_215.out
      obtain ⟨hcz48_0, hcz48_1, hcz48_2, hfz48_0, hfz48_1, hfz48_2⟩ := c3_ BK215
      try go_wp2_with (first | ((with_reducible refine gate_callee (f := 34) rfl ?_); refine gl_ (some 24) Tryz.func34 #[.agg #[.bool a0_0, .int .u64 a0_1, .int .u64 a0_2], .int .i64 (wrap64 (x225003_1 - 1))] ?_; (with_reducible refine (prefix_Of.calls k1 a0_0 a0_1 a0_2 (wrap64 (x225003_1 - 1)) t225 t226 t227 t228 t229 _ A18.out).mono ?_); rintro e w49 ⟨rfl, hb⟩; refine ⟨_, rfl, ?_⟩; replace BK215 := bb_ BK215 hb; replace BK216 := bb_ BK216 hb; replace BK217 := bb_ BK217 hb; replace BK224 := bb_ BK224 hb; replace HB := bs_ HB hb; (try clear hb); (try clear hb2); (try clear hk); (try clear hi)) | ((with_reducible refine gate_dst (N := 7) rfl ?_); refine bx_ 7 #[.bool false, .int .u64 0, .int .u64 0, .int .i64 0] 38 ?_; intro gb230 hg w50 hbox hb; have BK230 := Aside0.mk (hbox); have GW230 := gw_ HB hg; have GE230 := gw_ HB hg; have NB215_230 := nl_ BK215 hg; have NB230_215 := ng_ BK215 hg; have NB216_230 := nl_ BK216 hg; have NB230_216 := ng_ BK216 hg; have NB217_230 := nl_ BK217 hg; have NB230_217 := ng_ BK217 hg; have NB224_230 := nl_ BK224 hg; have NB230_224 := ng_ BK224 hg; replace BK215 := bb_ BK215 hb; replace BK216 := bb_ BK216 hb; replace BK217 := bb_ BK217 hb; replace BK224 := bb_ BK224 hb; replace HB := bs_ HB hb; clear hb hbox hg; have hnb51 := NB230_215.out; have hnc51 := NB215_230.out; have hnb52 := NB230_216.out; have hnc52 := NB216_230.out; have hnb53 := NB230_217.out; have hnc53 := NB217_230.out; have hnb54 := NB230_224.out; have hnc54 := NB224_230.out; obtain ⟨hcz55_0, hcz55_1, hcz55_2, hcz55_3, hfz55_0, hfz55_1, hfz55_2, hfz55_3⟩ := c4_ BK230))
      have n0_ : Aside0 (((((w50.setCell ⟨gb230, 0, none⟩ (.bool t225)).setCell ⟨gb230, 1, none⟩ (.int .u64 t226)).setCell ⟨gb230, 2, none⟩ (.int .u64 t227)).setCell ⟨gb230, 3, none⟩ (.int .i64 t228)).heap[gb215]? = some (.cells #[.bool a0_0, .int .u64 a0_1, .int .u64 a0_2] 26 (0, 0))) := ⟨by refine pw_ ?_; refine blk_far ?_ NB215_230.out _; refine pw_ ?_; refine blk_far ?_ NB215_230.out _; refine pw_ ?_; refine blk_far ?_ NB215_230.out _; refine pw_ ?_; refine blk_far ?_ NB215_230.out _; refine pw_ ?_; exact BK215.out⟩
      have n1_ : Aside0 (((((w50.setCell ⟨gb230, 0, none⟩ (.bool t225)).setCell ⟨gb230, 1, none⟩ (.int .u64 t226)).setCell ⟨gb230, 2, none⟩ (.int .u64 t227)).setCell ⟨gb230, 3, none⟩ (.int .i64 t228)).heap[gb216]? = some (.cells #[.bool a1_0, .int .u64 a1_1, .int .u64 a1_2] 26 (0, 0))) := ⟨by refine pw_ ?_; refine blk_far ?_ NB216_230.out _; refine pw_ ?_; refine blk_far ?_ NB216_230.out _; refine pw_ ?_; refine blk_far ?_ NB216_230.out _; refine pw_ ?_; refine blk_far ?_ NB216_230.out _; refine pw_ ?_; exact BK216.out⟩
      have n2_ : Aside0 (((((w50.setCell ⟨gb230, 0, none⟩ (.bool t225)).setCell ⟨gb230, 1, none⟩ (.int .u64 t226)).setCell ⟨gb230, 2, none⟩ (.int .u64 t227)).setCell ⟨gb230, 3, none⟩ (.int .i64 t228)).heap[gb217]? = some (.cells #[.bool false, .int .u64 0, .int .u64 0, .int .i64 0] 38 (0, 0))) := ⟨by refine pw_ ?_; refine blk_far ?_ NB217_230.out _; refine pw_ ?_; refine blk_far ?_ NB217_230.out _; refine pw_ ?_; refine blk_far ?_ NB217_230.out _; refine pw_ ?_; refine blk_far ?_ NB217_230.out _; refine pw_ ?_; exact BK217.out⟩
      have n3_ : Aside0 (((((w50.setCell ⟨gb230, 0, none⟩ (.bool t225)).setCell ⟨gb230, 1, none⟩ (.int .u64 t226)).setCell ⟨gb230, 2, none⟩ (.int .u64 t227)).setCell ⟨gb230, 3, none⟩ (.int .i64 t228)).heap[gb224]? = some (.cells #[.bool x225000_1, .int .u64 x225001_1, .int .u64 x225002_1, .int .i64 x225003_1] 38 (0, 0))) := ⟨by refine pw_ ?_; refine blk_far ?_ NB224_230.out _; refine pw_ ?_; refine blk_far ?_ NB224_230.out _; refine pw_ ?_; refine blk_far ?_ NB224_230.out _; refine pw_ ?_; refine blk_far ?_ NB224_230.out _; refine pw_ ?_; exact BK224.out⟩
      have n4_ : Aside0 (((((w50.setCell ⟨gb230, 0, none⟩ (.bool t225)).setCell ⟨gb230, 1, none⟩ (.int .u64 t226)).setCell ⟨gb230, 2, none⟩ (.int .u64 t227)).setCell ⟨gb230, 3, none⟩ (.int .i64 t228)).heap[gb230]? = some (.cells #[.bool t225, .int .u64 t226, .int .u64 t227, .int .i64 t228] 38 (0, 0))) := ⟨by refine pw_ ?_; refine blk_put (cs := #[.bool t225, .int .u64 t226, .int .u64 t227, .int .i64 0]) ?_ 3 _ rfl; refine pw_ ?_; refine blk_put (cs := #[.bool t225, .int .u64 t226, .int .u64 0, .int .i64 0]) ?_ 2 _ rfl; refine pw_ ?_; refine blk_put (cs := #[.bool t225, .int .u64 0, .int .u64 0, .int .i64 0]) ?_ 1 _ rfl; refine pw_ ?_; refine blk_put (cs := #[.bool false, .int .u64 0, .int .u64 0, .int .i64 0]) ?_ 0 _ rfl; refine pw_ ?_; exact BK230.out⟩
      have n5_ : Aside0 (Below w.heap.size w ((((w50.setCell ⟨gb230, 0, none⟩ (.bool t225)).setCell ⟨gb230, 1, none⟩ (.int .u64 t226)).setCell ⟨gb230, 2, none⟩ (.int .u64 t227)).setCell ⟨gb230, 3, none⟩ (.int .i64 t228))) := ⟨pb_ HB⟩
      (try clear BK215)
      (try clear BK216)
      (try clear BK217)
      (try clear BK224)
      (try clear BK230)
      (try clear HB)
      generalize ((((w50.setCell ⟨gb230, 0, none⟩ (.bool t225)).setCell ⟨gb230, 1, none⟩ (.int .u64 t226)).setCell ⟨gb230, 2, none⟩ (.int .u64 t227)).setCell ⟨gb230, 3, none⟩ (.int .i64 t228)) = w56 at n0_ n1_ n2_ n3_ n4_ n5_ ⊢
      have BK215 := n0_
      have BK216 := n1_
      have BK217 := n2_
      have BK224 := n3_
      have BK230 := n4_
      have HB := n5_
      clear n0_ n1_ n2_ n3_ n4_ n5_
      replace BK215 := Aside0.mk (blk_drew BK215.out)
      replace BK216 := Aside0.mk (blk_drew BK216.out)
      replace BK217 := Aside0.mk (blk_drew BK217.out)
      replace BK224 := Aside0.mk (blk_drew BK224.out)
      replace BK230 := Aside0.mk (blk_drew BK230.out)
      replace HB := Aside0.mk (below_drew1 HB.out)
      refine start_ (n := 11) (S := fun w' => w'.cell? ⟨gb230, 0, none⟩ = some (.bool t225) ∧ w'.cell? ⟨gb230, 1, none⟩ = some (.int .u64 t226) ∧ w'.cell? ⟨gb230, 2, none⟩ = some (.int .u64 t227) ∧ w'.cell? ⟨gb230, 3, none⟩ = some (.int .i64 t228) ∧ w'.cell? ⟨gb215, 0, none⟩ = some (.bool a0_0) ∧ w'.cell? ⟨gb215, 1, none⟩ = some (.int .u64 a0_1) ∧ w'.cell? ⟨gb215, 2, none⟩ = some (.int .u64 a0_2) ∧ w'.cell? ⟨gb216, 0, none⟩ = some (.bool a1_0) ∧ w'.cell? ⟨gb216, 1, none⟩ = some (.int .u64 a1_1) ∧ w'.cell? ⟨gb216, 2, none⟩ = some (.int .u64 a1_2)) (ds := []) (bm_ 11 0) (by kernel_rfl) rfl rfl ⟨kc_ BK230 0, kc_ BK230 1, kc_ BK230 2, kc_ BK230 3, kc_ BK215 0, kc_ BK215 1, kc_ BK215 2, kc_ BK216 0, kc_ BK216 1, kc_ BK216 2⟩ (fun hHeld => ?_); refine with_tabW carve_widest.tab4 carve_widest.bits4 (fun HT_ HW_ => ?_)
      generalize w56.drew = w57 at BK215 BK216 BK217 BK224 BK230 HB hHeld ⊢
      refine pu_ 0 (some 27) (bm_ 11 1) rfl HT_ ⟨by rfl, by intro w'; go_simp; with_reducible rfl⟩ ?_
      refine ta_ 1 (some 28) (bm_ 11 3) rfl HT_ HW_ ⟨by rfl, by rintro w' ⟨s0, s1, s2, s3, s4, s5, s6, s7, s8, s9⟩; go_simp; with_reducible rfl⟩ hHeld ?_
      refine ta_ 2 (some 29) (bm_ 11 7) rfl HT_ HW_ ⟨by rfl, by rintro w' ⟨s0, s1, s2, s3, s4, s5, s6, s7, s8, s9⟩; go_simp; with_reducible rfl⟩ hHeld ?_
      refine pu_ 3 (some 30) (bm_ 11 15) rfl HT_ ⟨by rfl, by intro w'; go_simp; with_reducible rfl⟩ ?_
      refine pu_ 4 (some 31) (bm_ 11 31) rfl HT_ ⟨by rfl, by intro w'; go_simp; with_reducible rfl⟩ ?_
      refine ta_ 5 (some 32) (bm_ 11 63) rfl HT_ HW_ ⟨by rfl, by rintro w' ⟨s0, s1, s2, s3, s4, s5, s6, s7, s8, s9⟩; go_simp; with_reducible rfl⟩ hHeld ?_
      refine ta_ 7 (some 34) (bm_ 11 191) rfl HT_ HW_ ⟨by rfl, by rintro w' ⟨s0, s1, s2, s3, s4, s5, s6, s7, s8, s9⟩; go_simp; with_reducible rfl⟩ hHeld ?_
      refine one_ (i := 6) (N := some 33) (bm_ 11 255) rfl rfl (one_of HT_.out (by kernel_rfl)) (by decide) (fun K hK => ?_)
      refine gr_ Tryz.func38 #[.agg #[.bool t225, .int .u64 t226, .int .u64 t227, .int .i64 t228]] ?_
      with_reducible refine (prefix_Last.calls t225 t226 t227 t228 t231 t232 t233 _ A39.out).mono ?_
      rintro e w58 ⟨rfl, hb⟩
      refine ⟨_, rfl, ?_⟩
      replace BK215 := bb_ BK215 hb
      replace BK216 := bb_ BK216 hb
      replace BK217 := bb_ BK217 hb
      replace BK224 := bb_ BK224 hb
      replace BK230 := bb_ BK230 hb
      replace HB := bs_ HB hb
      (try clear hb)
      (try clear hb2)
      (try clear hk)
      (try clear hi)
      refine hK.out _ _ ⟨kc_ BK230 0, kc_ BK230 1, kc_ BK230 2, kc_ BK230 3, kc_ BK215 0, kc_ BK215 1, kc_ BK215 2, kc_ BK216 0, kc_ BK216 1, kc_ BK216 2⟩ (fun hHeld => ?_)
      clear hK K
      refine norm_ (a' := ?_) ?_ ?_
      rotate_left
      ·
       show Act.put _ (some 33) _ = _
       simp only [Act.put, List.setIfInBounds_toArray, List.set_cons_zero, List.set_cons_succ, i64_w, i32_w]
       rfl
      refine one_ (i := 8) (N := some 35) (bm_ 11 511) rfl rfl (one_of HT_.out (by kernel_rfl)) (by decide) (fun K hK => ?_)
      refine gr_ Tryz.func20 #[.agg #[.bool t231, .int .u64 t232, .int .u64 t233], .agg #[.bool a1_0, .int .u64 a1_1, .int .u64 a1_2]] ?_
      with_reducible refine (addr_Cmp.calls t231 t232 t233 a1_0 a1_1 a1_2 t234 _ A40.out).mono ?_
      rintro e w59 ⟨rfl, hb⟩
      refine ⟨_, rfl, ?_⟩
      replace BK215 := bb_ BK215 hb
      replace BK216 := bb_ BK216 hb
      replace BK217 := bb_ BK217 hb
      replace BK224 := bb_ BK224 hb
      replace BK230 := bb_ BK230 hb
      replace HB := bs_ HB hb
      (try clear hb)
      (try clear hb2)
      (try clear hk)
      (try clear hi)
      refine hK.out _ _ ⟨kc_ BK230 0, kc_ BK230 1, kc_ BK230 2, kc_ BK230 3, kc_ BK215 0, kc_ BK215 1, kc_ BK215 2, kc_ BK216 0, kc_ BK216 1, kc_ BK216 2⟩ (fun hHeld => ?_)
      clear hK K
      refine norm_ (a' := ?_) ?_ ?_
      rotate_left
      ·
       show Act.put _ (some 35) _ = _
       simp only [Act.put, List.setIfInBounds_toArray, List.set_cons_zero, List.set_cons_succ, i64_w, i32_w]
       rfl
      refine pu_ 9 (some 36) (bm_ 11 1023) rfl HT_ ⟨by rfl, by intro w'; go_simp; with_reducible rfl⟩ ?_
      refine pu_ 10 (some 37) (bm_ 11 2047) rfl HT_ ⟨by rfl, by intro w'; go_simp; with_reducible rfl⟩ ?_
      refine done_ (done_of HT_.out (by kernel_rfl)) ?_
      obtain ⟨hcz60_0, hcz60_1, hcz60_2, hcz60_3, hfz60_0, hfz60_1, hfz60_2, hfz60_3⟩ := c4_ BK224
      have hnb61 := NB217_216.out
      have hnc61 := NB216_217.out
      obtain ⟨hcz62_0, hcz62_1, hcz62_2, hcz62_3, hfz62_0, hfz62_1, hfz62_2, hfz62_3⟩ := c4_ BK217
      try go_wp2
      refine bodyPost_ret (results_cell_row rfl _ _ gb217 38 #[.bool x225000_1, .int .u64 x225001_1, .int .u64 x225002_1, .int .i64 x225003_1] (0, 0) _ rfl (by refine pw_ ?_; refine blk_put (cs := #[.bool x225000_1, .int .u64 x225001_1, .int .u64 x225002_1, .int .i64 0]) ?_ 3 _ rfl; refine pw_ ?_; refine blk_put (cs := #[.bool x225000_1, .int .u64 x225001_1, .int .u64 0, .int .i64 0]) ?_ 2 _ rfl; refine pw_ ?_; refine blk_put (cs := #[.bool x225000_1, .int .u64 0, .int .u64 0, .int .i64 0]) ?_ 1 _ rfl; refine pw_ ?_; refine blk_put (cs := #[.bool false, .int .u64 0, .int .u64 0, .int .i64 0]) ?_ 0 _ rfl; refine pw_ ?_; exact BK217.out) Tryz.underlying38 rfl (by kernel_rfl)) rfl ?_
      exact ⟨by first | rfl | (simp [errW_none, errW_some] <;> rfl) | (simp [*, errW_none, errW_some] <;> rfl), pb_ HB⟩
     ·
      rw [if_neg c41] at H
      have c41b0 : decide (0 < t234) = false := decide_eq_false c41
      clear c41
      have H' := Aside0.mk H
      clear H
      have hnb63 := NB224_215.out
      have hnc63 := NB215_224.out
      have hnb64 := NB224_216.out
      have hnc64 := NB216_224.out
      have hnb65 := NB224_217.out
      have hnc65 := NB217_224.out
      obtain ⟨hcz66_0, hcz66_1, hcz66_2, hcz66_3, hfz66_0, hfz66_1, hfz66_2, hfz66_3⟩ := c4_ BK224
      have hnb67 := NB215_216.out
      have hnc67 := NB216_215.out
      have hnb68 := NB215_217.out
      have hnc68 := NB217_215.out
      obtain ⟨hcz69_0, hcz69_1, hcz69_2, hfz69_0, hfz69_1, hfz69_2⟩ := c3_ BK215
      try go_wp2_with (first | ((with_reducible refine gate_callee (f := 34) rfl ?_); refine gl_ (some 24) Tryz.func34 #[.agg #[.bool a0_0, .int .u64 a0_1, .int .u64 a0_2], .int .i64 (wrap64 (x225003_1 - 1))] ?_; (with_reducible refine (prefix_Of.calls k1 a0_0 a0_1 a0_2 (wrap64 (x225003_1 - 1)) t225 t226 t227 t228 t229 _ A18.out).mono ?_); rintro e w70 ⟨rfl, hb⟩; refine ⟨_, rfl, ?_⟩; replace BK215 := bb_ BK215 hb; replace BK216 := bb_ BK216 hb; replace BK217 := bb_ BK217 hb; replace BK224 := bb_ BK224 hb; replace HB := bs_ HB hb; (try clear hb); (try clear hb2); (try clear hk); (try clear hi)) | ((with_reducible refine gate_dst (N := 7) rfl ?_); refine bx_ 7 #[.bool false, .int .u64 0, .int .u64 0, .int .i64 0] 38 ?_; intro gb230 hg w71 hbox hb; have BK230 := Aside0.mk (hbox); have GW230 := gw_ HB hg; have GE230 := gw_ HB hg; have NB215_230 := nl_ BK215 hg; have NB230_215 := ng_ BK215 hg; have NB216_230 := nl_ BK216 hg; have NB230_216 := ng_ BK216 hg; have NB217_230 := nl_ BK217 hg; have NB230_217 := ng_ BK217 hg; have NB224_230 := nl_ BK224 hg; have NB230_224 := ng_ BK224 hg; replace BK215 := bb_ BK215 hb; replace BK216 := bb_ BK216 hb; replace BK217 := bb_ BK217 hb; replace BK224 := bb_ BK224 hb; replace HB := bs_ HB hb; clear hb hbox hg; have hnb72 := NB230_215.out; have hnc72 := NB215_230.out; have hnb73 := NB230_216.out; have hnc73 := NB216_230.out; have hnb74 := NB230_217.out; have hnc74 := NB217_230.out; have hnb75 := NB230_224.out; have hnc75 := NB224_230.out; obtain ⟨hcz76_0, hcz76_1, hcz76_2, hcz76_3, hfz76_0, hfz76_1, hfz76_2, hfz76_3⟩ := c4_ BK230))
      have n0_ : Aside0 (((((w71.setCell ⟨gb230, 0, none⟩ (.bool t225)).setCell ⟨gb230, 1, none⟩ (.int .u64 t226)).setCell ⟨gb230, 2, none⟩ (.int .u64 t227)).setCell ⟨gb230, 3, none⟩ (.int .i64 t228)).heap[gb215]? = some (.cells #[.bool a0_0, .int .u64 a0_1, .int .u64 a0_2] 26 (0, 0))) := ⟨by refine pw_ ?_; refine blk_far ?_ NB215_230.out _; refine pw_ ?_; refine blk_far ?_ NB215_230.out _; refine pw_ ?_; refine blk_far ?_ NB215_230.out _; refine pw_ ?_; refine blk_far ?_ NB215_230.out _; refine pw_ ?_; exact BK215.out⟩
      have n1_ : Aside0 (((((w71.setCell ⟨gb230, 0, none⟩ (.bool t225)).setCell ⟨gb230, 1, none⟩ (.int .u64 t226)).setCell ⟨gb230, 2, none⟩ (.int .u64 t227)).setCell ⟨gb230, 3, none⟩ (.int .i64 t228)).heap[gb216]? = some (.cells #[.bool a1_0, .int .u64 a1_1, .int .u64 a1_2] 26 (0, 0))) := ⟨by refine pw_ ?_; refine blk_far ?_ NB216_230.out _; refine pw_ ?_; refine blk_far ?_ NB216_230.out _; refine pw_ ?_; refine blk_far ?_ NB216_230.out _; refine pw_ ?_; refine blk_far ?_ NB216_230.out _; refine pw_ ?_; exact BK216.out⟩
      have n2_ : Aside0 (((((w71.setCell ⟨gb230, 0, none⟩ (.bool t225)).setCell ⟨gb230, 1, none⟩ (.int .u64 t226)).setCell ⟨gb230, 2, none⟩ (.int .u64 t227)).setCell ⟨gb230, 3, none⟩ (.int .i64 t228)).heap[gb217]? = some (.cells #[.bool false, .int .u64 0, .int .u64 0, .int .i64 0] 38 (0, 0))) := ⟨by refine pw_ ?_; refine blk_far ?_ NB217_230.out _; refine pw_ ?_; refine blk_far ?_ NB217_230.out _; refine pw_ ?_; refine blk_far ?_ NB217_230.out _; refine pw_ ?_; refine blk_far ?_ NB217_230.out _; refine pw_ ?_; exact BK217.out⟩
      have n3_ : Aside0 (((((w71.setCell ⟨gb230, 0, none⟩ (.bool t225)).setCell ⟨gb230, 1, none⟩ (.int .u64 t226)).setCell ⟨gb230, 2, none⟩ (.int .u64 t227)).setCell ⟨gb230, 3, none⟩ (.int .i64 t228)).heap[gb224]? = some (.cells #[.bool x225000_1, .int .u64 x225001_1, .int .u64 x225002_1, .int .i64 x225003_1] 38 (0, 0))) := ⟨by refine pw_ ?_; refine blk_far ?_ NB224_230.out _; refine pw_ ?_; refine blk_far ?_ NB224_230.out _; refine pw_ ?_; refine blk_far ?_ NB224_230.out _; refine pw_ ?_; refine blk_far ?_ NB224_230.out _; refine pw_ ?_; exact BK224.out⟩
      have n4_ : Aside0 (((((w71.setCell ⟨gb230, 0, none⟩ (.bool t225)).setCell ⟨gb230, 1, none⟩ (.int .u64 t226)).setCell ⟨gb230, 2, none⟩ (.int .u64 t227)).setCell ⟨gb230, 3, none⟩ (.int .i64 t228)).heap[gb230]? = some (.cells #[.bool t225, .int .u64 t226, .int .u64 t227, .int .i64 t228] 38 (0, 0))) := ⟨by refine pw_ ?_; refine blk_put (cs := #[.bool t225, .int .u64 t226, .int .u64 t227, .int .i64 0]) ?_ 3 _ rfl; refine pw_ ?_; refine blk_put (cs := #[.bool t225, .int .u64 t226, .int .u64 0, .int .i64 0]) ?_ 2 _ rfl; refine pw_ ?_; refine blk_put (cs := #[.bool t225, .int .u64 0, .int .u64 0, .int .i64 0]) ?_ 1 _ rfl; refine pw_ ?_; refine blk_put (cs := #[.bool false, .int .u64 0, .int .u64 0, .int .i64 0]) ?_ 0 _ rfl; refine pw_ ?_; exact BK230.out⟩
      have n5_ : Aside0 (Below w.heap.size w ((((w71.setCell ⟨gb230, 0, none⟩ (.bool t225)).setCell ⟨gb230, 1, none⟩ (.int .u64 t226)).setCell ⟨gb230, 2, none⟩ (.int .u64 t227)).setCell ⟨gb230, 3, none⟩ (.int .i64 t228))) := ⟨pb_ HB⟩
      (try clear BK215)
      (try clear BK216)
      (try clear BK217)
      (try clear BK224)
      (try clear BK230)
      (try clear HB)
      generalize ((((w71.setCell ⟨gb230, 0, none⟩ (.bool t225)).setCell ⟨gb230, 1, none⟩ (.int .u64 t226)).setCell ⟨gb230, 2, none⟩ (.int .u64 t227)).setCell ⟨gb230, 3, none⟩ (.int .i64 t228)) = w77 at n0_ n1_ n2_ n3_ n4_ n5_ ⊢
      have BK215 := n0_
      have BK216 := n1_
      have BK217 := n2_
      have BK224 := n3_
      have BK230 := n4_
      have HB := n5_
      clear n0_ n1_ n2_ n3_ n4_ n5_
      replace BK215 := Aside0.mk (blk_drew BK215.out)
      replace BK216 := Aside0.mk (blk_drew BK216.out)
      replace BK217 := Aside0.mk (blk_drew BK217.out)
      replace BK224 := Aside0.mk (blk_drew BK224.out)
      replace BK230 := Aside0.mk (blk_drew BK230.out)
      replace HB := Aside0.mk (below_drew1 HB.out)
      refine start_ (n := 11) (S := fun w' => w'.cell? ⟨gb230, 0, none⟩ = some (.bool t225) ∧ w'.cell? ⟨gb230, 1, none⟩ = some (.int .u64 t226) ∧ w'.cell? ⟨gb230, 2, none⟩ = some (.int .u64 t227) ∧ w'.cell? ⟨gb230, 3, none⟩ = some (.int .i64 t228) ∧ w'.cell? ⟨gb215, 0, none⟩ = some (.bool a0_0) ∧ w'.cell? ⟨gb215, 1, none⟩ = some (.int .u64 a0_1) ∧ w'.cell? ⟨gb215, 2, none⟩ = some (.int .u64 a0_2) ∧ w'.cell? ⟨gb216, 0, none⟩ = some (.bool a1_0) ∧ w'.cell? ⟨gb216, 1, none⟩ = some (.int .u64 a1_1) ∧ w'.cell? ⟨gb216, 2, none⟩ = some (.int .u64 a1_2)) (ds := []) (bm_ 11 0) (by kernel_rfl) rfl rfl ⟨kc_ BK230 0, kc_ BK230 1, kc_ BK230 2, kc_ BK230 3, kc_ BK215 0, kc_ BK215 1, kc_ BK215 2, kc_ BK216 0, kc_ BK216 1, kc_ BK216 2⟩ (fun hHeld => ?_); refine with_tabW carve_widest.tab4 carve_widest.bits4 (fun HT_ HW_ => ?_)
      generalize w77.drew = w78 at BK215 BK216 BK217 BK224 BK230 HB hHeld ⊢
      refine pu_ 0 (some 27) (bm_ 11 1) rfl HT_ ⟨by rfl, by intro w'; go_simp; with_reducible rfl⟩ ?_
      refine ta_ 1 (some 28) (bm_ 11 3) rfl HT_ HW_ ⟨by rfl, by rintro w' ⟨s0, s1, s2, s3, s4, s5, s6, s7, s8, s9⟩; go_simp; with_reducible rfl⟩ hHeld ?_
      refine ta_ 2 (some 29) (bm_ 11 7) rfl HT_ HW_ ⟨by rfl, by rintro w' ⟨s0, s1, s2, s3, s4, s5, s6, s7, s8, s9⟩; go_simp; with_reducible rfl⟩ hHeld ?_
      refine pu_ 3 (some 30) (bm_ 11 15) rfl HT_ ⟨by rfl, by intro w'; go_simp; with_reducible rfl⟩ ?_
      refine pu_ 4 (some 31) (bm_ 11 31) rfl HT_ ⟨by rfl, by intro w'; go_simp; with_reducible rfl⟩ ?_
      refine ta_ 5 (some 32) (bm_ 11 63) rfl HT_ HW_ ⟨by rfl, by rintro w' ⟨s0, s1, s2, s3, s4, s5, s6, s7, s8, s9⟩; go_simp; with_reducible rfl⟩ hHeld ?_
      refine ta_ 7 (some 34) (bm_ 11 191) rfl HT_ HW_ ⟨by rfl, by rintro w' ⟨s0, s1, s2, s3, s4, s5, s6, s7, s8, s9⟩; go_simp; with_reducible rfl⟩ hHeld ?_
      refine one_ (i := 6) (N := some 33) (bm_ 11 255) rfl rfl (one_of HT_.out (by kernel_rfl)) (by decide) (fun K hK => ?_)
      refine gr_ Tryz.func38 #[.agg #[.bool t225, .int .u64 t226, .int .u64 t227, .int .i64 t228]] ?_
      with_reducible refine (prefix_Last.calls t225 t226 t227 t228 t231 t232 t233 _ A39.out).mono ?_
      rintro e w79 ⟨rfl, hb⟩
      refine ⟨_, rfl, ?_⟩
      replace BK215 := bb_ BK215 hb
      replace BK216 := bb_ BK216 hb
      replace BK217 := bb_ BK217 hb
      replace BK224 := bb_ BK224 hb
      replace BK230 := bb_ BK230 hb
      replace HB := bs_ HB hb
      (try clear hb)
      (try clear hb2)
      (try clear hk)
      (try clear hi)
      refine hK.out _ _ ⟨kc_ BK230 0, kc_ BK230 1, kc_ BK230 2, kc_ BK230 3, kc_ BK215 0, kc_ BK215 1, kc_ BK215 2, kc_ BK216 0, kc_ BK216 1, kc_ BK216 2⟩ (fun hHeld => ?_)
      clear hK K
      refine norm_ (a' := ?_) ?_ ?_
      rotate_left
      ·
       show Act.put _ (some 33) _ = _
       simp only [Act.put, List.setIfInBounds_toArray, List.set_cons_zero, List.set_cons_succ, i64_w, i32_w]
       rfl
      refine one_ (i := 8) (N := some 35) (bm_ 11 511) rfl rfl (one_of HT_.out (by kernel_rfl)) (by decide) (fun K hK => ?_)
      refine gr_ Tryz.func20 #[.agg #[.bool t231, .int .u64 t232, .int .u64 t233], .agg #[.bool a1_0, .int .u64 a1_1, .int .u64 a1_2]] ?_
      with_reducible refine (addr_Cmp.calls t231 t232 t233 a1_0 a1_1 a1_2 t234 _ A40.out).mono ?_
      rintro e w80 ⟨rfl, hb⟩
      refine ⟨_, rfl, ?_⟩
      replace BK215 := bb_ BK215 hb
      replace BK216 := bb_ BK216 hb
      replace BK217 := bb_ BK217 hb
      replace BK224 := bb_ BK224 hb
      replace BK230 := bb_ BK230 hb
      replace HB := bs_ HB hb
      (try clear hb)
      (try clear hb2)
      (try clear hk)
      (try clear hi)
      refine hK.out _ _ ⟨kc_ BK230 0, kc_ BK230 1, kc_ BK230 2, kc_ BK230 3, kc_ BK215 0, kc_ BK215 1, kc_ BK215 2, kc_ BK216 0, kc_ BK216 1, kc_ BK216 2⟩ (fun hHeld => ?_)
      clear hK K
      refine norm_ (a' := ?_) ?_ ?_
      rotate_left
      ·
       show Act.put _ (some 35) _ = _
       simp only [Act.put, List.setIfInBounds_toArray, List.set_cons_zero, List.set_cons_succ, i64_w, i32_w]
       rfl
      refine pu_ 9 (some 36) (bm_ 11 1023) rfl HT_ ⟨by rfl, by intro w'; go_simp; with_reducible rfl⟩ ?_
      refine pu_ 10 (some 37) (bm_ 11 2047) rfl HT_ ⟨by rfl, by intro w'; go_simp; with_reducible rfl⟩ ?_
      refine done_ (done_of HT_.out (by kernel_rfl)) ?_
      obtain ⟨hcz81_0, hcz81_1, hcz81_2, hcz81_3, hfz81_0, hfz81_1, hfz81_2, hfz81_3⟩ := c4_ BK230
      obtain ⟨hcz82_0, hcz82_1, hcz82_2, hcz82_3, hfz82_0, hfz82_1, hfz82_2, hfz82_3⟩ := c4_ BK224
      try go_wp2
      go_roundg k1
      case measure => have := HK1.out; omega
      case rel => exact ⟨(t225), (t226), (t227), (t228), H', ⟨by have := HK1.out; omega⟩, ⟨by refine pw_ ?_; refine blk_far ?_ NB215_224.out _; refine pw_ ?_; refine blk_far ?_ NB215_224.out _; refine pw_ ?_; refine blk_far ?_ NB215_224.out _; refine pw_ ?_; refine blk_far ?_ NB215_224.out _; refine pw_ ?_; exact BK215.out⟩, ⟨by refine pw_ ?_; refine blk_far ?_ NB216_224.out _; refine pw_ ?_; refine blk_far ?_ NB216_224.out _; refine pw_ ?_; refine blk_far ?_ NB216_224.out _; refine pw_ ?_; refine blk_far ?_ NB216_224.out _; refine pw_ ?_; exact BK216.out⟩, ⟨by refine pw_ ?_; refine blk_far ?_ NB217_224.out _; refine pw_ ?_; refine blk_far ?_ NB217_224.out _; refine pw_ ?_; refine blk_far ?_ NB217_224.out _; refine pw_ ?_; refine blk_far ?_ NB217_224.out _; refine pw_ ?_; exact BK217.out⟩, ⟨by refine pw_ ?_; refine blk_put (cs := #[.bool t225, .int .u64 t226, .int .u64 t227, .int .i64 x225003_1]) ?_ 3 _ rfl; refine pw_ ?_; refine blk_put (cs := #[.bool t225, .int .u64 t226, .int .u64 x225002_1, .int .i64 x225003_1]) ?_ 2 _ rfl; refine pw_ ?_; refine blk_put (cs := #[.bool t225, .int .u64 x225001_1, .int .u64 x225002_1, .int .i64 x225003_1]) ?_ 1 _ rfl; refine pw_ ?_; refine blk_put (cs := #[.bool x225000_1, .int .u64 x225001_1, .int .u64 x225002_1, .int .i64 x225003_1]) ?_ 0 _ rfl; refine pw_ ?_; exact BK224.out⟩, ⟨pb_ HB⟩⟩
   ·
    rw [if_neg c17] at H
    have c17b0 : decide (0 < x225003_1) = false := decide_eq_false c17
    clear c17
    simp only [Option.some.injEq, Prod.mk.injEq] at H
    obtain ⟨rfl, rfl, rfl, rfl⟩ := H
    have hnb83 := NB224_215.out
    have hnc83 := NB215_224.out
    have hnb84 := NB224_216.out
    have hnc84 := NB216_224.out
    have hnb85 := NB224_217.out
    have hnc85 := NB217_224.out
    obtain ⟨hcz86_0, hcz86_1, hcz86_2, hcz86_3, hfz86_0, hfz86_1, hfz86_2, hfz86_3⟩ := c4_ BK224
    have hnb87 := NB217_215.out
    have hnc87 := NB215_217.out
    have hnb88 := NB217_216.out
    have hnc88 := NB216_217.out
    obtain ⟨hcz89_0, hcz89_1, hcz89_2, hcz89_3, hfz89_0, hfz89_1, hfz89_2, hfz89_3⟩ := c4_ BK217
    go_wp2
    refine bodyPost_ret (results_cell_row rfl _ _ gb217 38 #[.bool x225000_1, .int .u64 x225001_1, .int .u64 x225002_1, .int .i64 x225003_1] (0, 0) _ rfl (by refine pw_ ?_; refine blk_put (cs := #[.bool x225000_1, .int .u64 x225001_1, .int .u64 x225002_1, .int .i64 0]) ?_ 3 _ rfl; refine pw_ ?_; refine blk_put (cs := #[.bool x225000_1, .int .u64 x225001_1, .int .u64 0, .int .i64 0]) ?_ 2 _ rfl; refine pw_ ?_; refine blk_put (cs := #[.bool x225000_1, .int .u64 0, .int .u64 0, .int .i64 0]) ?_ 1 _ rfl; refine pw_ ?_; refine blk_put (cs := #[.bool false, .int .u64 0, .int .u64 0, .int .i64 0]) ?_ 0 _ rfl; refine pw_ ?_; exact BK217.out) Tryz.underlying38 rfl (by kernel_rfl)) rfl ?_
    exact ⟨by first | rfl | (simp [errW_none, errW_some] <;> rfl) | (simp [*, errW_none, errW_some] <;> rfl), pb_ HB⟩

end Go.Proofs.YtgdgklibilddgaaGreatDoor.PSp

namespace Go.Proofs.YtgdgklibilddgaaGreatDoor.PSp
open Go.RowKit Go.Proofs.YtgdgklibilddgaaGreatDoorW.PrintWords Go.Proofs.YtgdgklibilddgaaGreatDoorW.PrintLast Go.Proofs.YtgdgklibilddgaaGreatDoorW.PrintMore
attribute [local go_sem] max2_int min2_int max_two min_two max_three min_three max_four min_four   -- for this text's walks alone

attribute [local go_sem high] eqA26
mutual
def carve_Spread.j0 : Nat → Bool → Bool → Int → Int → Bool → Int → Int → Option ((List (S38)) × Int)
 | 0, _, _, _, _, _, _, _ => none
 | k + 1, x29, x236000, x236001, x236002, x237000, x237001, x237002 => if x29 = true then (some (([] : List (S38)), 1)) else (carve_Spread.l0 k ([] : List (S38)) x236000 x236001 x236002 x237000 x237001 x237002)
def carve_Spread.l0 : Nat → List (S38) → Bool → Int → Int → Bool → Int → Int → Option ((List (S38)) × Int)
 | 0, _, _, _, _, _, _, _ => none
 | k + 1, x6, x236000, x236001, x236002, x237000, x237001, x237002 => (carve_widest.f k x236000 x236001 x236002 x237000 x237001 x237002).bind fun bt240 => (if x6.length < 4398046511104 then ((some (x6 ++ [(⟨(⟨bt240.1, (⟨bt240.2.1, bt240.2.2.1⟩ : S24)⟩ : S26), bt240.2.2.2⟩ : S38)] : List (S38))).bind fun y245 => ((prefix_Last.f bt240.1 bt240.2.1 bt240.2.2.1 bt240.2.2.2).bind fun bt248 => (if (bt248.1 == x237000 && ((bt248.2.1 == x237001 && (bt248.2.2 == x237002)))) = true then (some (y245, 0)) else ((num_Of.f 1).bind fun bt252 => ((addr_Plus.f bt248.1 bt248.2.1 bt248.2.2 bt252.1 bt252.2).bind fun bt254 => (carve_Spread.l0 k y245 bt254.1 bt254.2.1 bt254.2.2.1 x237000 x237001 x237002)))))) else (none))
end
def carve_Spread.f (k : Nat) (a0_0 : Bool) (a0_1 : Int) (a0_2 : Int) (a1_0 : Bool) (a1_1 : Int) (a1_2 : Int) : Option ((List (S38)) × Int) := (addr_Right.f a0_0 a0_1 a0_2).bind fun t237 => (if t237 = true then ((addr_Right.f a1_0 a1_1 a1_2).bind fun t238 => (if t238 = true then (if (a0_0 != a1_0) = true then (carve_Spread.j0 k true a0_0 a0_1 a0_2 a1_0 a1_1 a1_2) else ((addr_Cmp.f a0_0 a0_1 a0_2 a1_0 a1_1 a1_2).bind fun t239 => (carve_Spread.j0 k (decide (t239 > 0)) a0_0 a0_1 a0_2 a1_0 a1_1 a1_2))) else (carve_Spread.j0 k true a0_0 a0_1 a0_2 a1_0 a1_1 a1_2))) else (carve_Spread.j0 k true a0_0 a0_1 a0_2 a1_0 a1_1 a1_2))
set_option maxHeartbeats 8000000 in
set_option maxRecDepth 100000 in
theorem carve_Spread.calls (k : Nat) (a0_0 : Bool) (a0_1 : Int) (a0_2 : Int) (a1_0 : Bool) (a1_1 : Int) (a1_2 : Int) (r1 : List (S38)) (r2 : Int) (w : World) (h : carve_Spread.f k a0_0 a0_1 a0_2 a1_0 a1_1 a1_2 = some (r1, r2)) :
  Calls Tryz.prog 58 #[.agg #[.bool a0_0, .int .u64 a0_1, .int .u64 a0_2], .agg #[.bool a1_0, .int .u64 a1_1, .int .u64 a1_2]] w fun e w' => ∃ v0_ : Value, e = .returned (.tuple #[v0_, .int .i64 r2]) ∧ Kd.R k38 38 w' w.heap.size (fun _ => True) v0_ r1 ∧ Below w.heap.size w w' := by
 have hu26 := Tryz.underlying26
 have hu38 := Tryz.underlying38
 have HB := Aside0.mk (Below.refl w.heap.size w)
 have H : ((addr_Right.f a0_0 a0_1 a0_2).bind fun t237 => (if t237 = true then ((addr_Right.f a1_0 a1_1 a1_2).bind fun t238 => (if t238 = true then (if (a0_0 != a1_0) = true then (carve_Spread.j0 k true a0_0 a0_1 a0_2 a1_0 a1_1 a1_2) else ((addr_Cmp.f a0_0 a0_1 a0_2 a1_0 a1_1 a1_2).bind fun t239 => (carve_Spread.j0 k (decide (t239 > 0)) a0_0 a0_1 a0_2 a1_0 a1_1 a1_2))) else (carve_Spread.j0 k true a0_0 a0_1 a0_2 a1_0 a1_1 a1_2))) else (carve_Spread.j0 k true a0_0 a0_1 a0_2 a1_0 a1_1 a1_2))) = some (r1, r2) := h
 clear h
 have HC3 := Aside0.mk H
 clear H
 go_enter Tryz.func58, Tryz.ntmps58
 go_upto_region 1 with (first | ((with_reducible refine gate_dst (N := 2) rfl ?_); refine bx_ 2 #[.bool a0_0, .int .u64 a0_1, .int .u64 a0_2] 26 ?_; intro gb235 hg w4 hbox hb; have BK235 := Aside0.mk (hbox); have GW235 := gw_ HB hg; have GE235 := gw_ HB hg; replace HB := bs_ HB hb; clear hb hbox hg) | ((with_reducible refine gate_dst (N := 3) rfl ?_); refine bx_ 3 #[.bool a1_0, .int .u64 a1_1, .int .u64 a1_2] 26 ?_; intro gb236 hg w5 hbox hb; have BK236 := Aside0.mk (hbox); have GW236 := gw_ HB hg; have GE236 := gw_ HB hg; have NB235_236 := nl_ BK235 hg; have NB236_235 := ng_ BK235 hg; replace BK235 := bb_ BK235 hb; replace HB := bs_ HB hb; clear hb hbox hg))
 (try simp only [Act.put, List.setIfInBounds_toArray, List.set_cons_zero, List.set_cons_succ])
 go_cut [29] (fun v29 wc => ∃ (kq : Nat) (x29_2 : Bool), v29 = .bool x29_2 ∧ Aside0 (carve_Spread.j0 kq x29_2 a0_0 a0_1 a0_2 a1_0 a1_1 a1_2 = some (r1, r2)) ∧ Aside0 (kq ≤ k) ∧ Aside0 (wc.heap[gb235]? = some (.cells #[.bool a0_0, .int .u64 a0_1, .int .u64 a0_2] 26 (0, 0))) ∧ Aside0 (wc.heap[gb236]? = some (.cells #[.bool a1_0, .int .u64 a1_1, .int .u64 a1_2] 26 (0, 0))) ∧ Aside0 (Below w.heap.size w wc))
 case first =>
  have H := HC3.out
  clear HC3
  replace H := Option.bind_eq_some_iff.mp H
  obtain ⟨t237, A60, H⟩ := H
  replace H : (if t237 = true then ((addr_Right.f a1_0 a1_1 a1_2).bind fun t238 => (if t238 = true then (if (a0_0 != a1_0) = true then (carve_Spread.j0 k true a0_0 a0_1 a0_2 a1_0 a1_1 a1_2) else ((addr_Cmp.f a0_0 a0_1 a0_2 a1_0 a1_1 a1_2).bind fun t239 => (carve_Spread.j0 k (decide (t239 > 0)) a0_0 a0_1 a0_2 a1_0 a1_1 a1_2))) else (carve_Spread.j0 k true a0_0 a0_1 a0_2 a1_0 a1_1 a1_2))) else (carve_Spread.j0 k true a0_0 a0_1 a0_2 a1_0 a1_1 a1_2)) = some (r1, r2) := H
  have A6 := Aside0.mk A60
  clear A60
  by_cases c7 : t237 = true
  ·
   subst c7
   rw [if_pos rfl] at H
   replace H := Option.bind_eq_some_iff.mp H
   obtain ⟨t238, A80, H⟩ := H
   replace H : (if t238 = true then (if (a0_0 != a1_0) = true then (carve_Spread.j0 k true a0_0 a0_1 a0_2 a1_0 a1_1 a1_2) else ((addr_Cmp.f a0_0 a0_1 a0_2 a1_0 a1_1 a1_2).bind fun t239 => (carve_Spread.j0 k (decide (t239 > 0)) a0_0 a0_1 a0_2 a1_0 a1_1 a1_2))) else (carve_Spread.j0 k true a0_0 a0_1 a0_2 a1_0 a1_1 a1_2)) = some (r1, r2) := H
   have A8 := Aside0.mk A80
   clear A80
   by_cases c9 : t238 = true
   ·
    subst c9
    rw [if_pos rfl] at H
    by_cases c10 : (a0_0 != a1_0) = true
    ·
     rw [if_pos c10] at H
     have c10b0 : (a0_0 != a1_0) = true := c10
     (try (have c10b1 : decide (a0_0 = a1_0) = false := by simpa using c10))
     (try (have c10b2 : (a0_0 == a1_0) = false := by simpa using c10))
     (try (have c10b3 : ¬ (a0_0 = a1_0) := by simpa using c10))
     clear c10
     (first | rw [c10b0] | (simp only [i64_w, i32_w]; rw [c10b0]) | skip)
     have H' := Aside0.mk H
     clear H
     have hnb11 := NB235_236.out
     have hnc11 := NB236_235.out
     obtain ⟨hcz12_0, hcz12_1, hcz12_2, hfz12_0, hfz12_1, hfz12_2⟩ := c3_ BK235
     go_wp2_with (first | ((with_reducible refine gate_callee (f := 18) rfl ?_); refine gl_ (some 10) Tryz.func18 #[.agg #[.bool a0_0, .int .u64 a0_1, .int .u64 a0_2]] ?_; (with_reducible refine (addr_Right.calls a0_0 a0_1 a0_2 true _ A6.out).mono ?_); rintro e w13 ⟨rfl, hb⟩; refine ⟨_, rfl, ?_⟩; replace BK235 := bb_ BK235 hb; replace BK236 := bb_ BK236 hb; replace HB := bs_ HB hb; (try clear hb); (try clear hb2); (try clear hk); (try clear hi); obtain ⟨hcz14_0, hcz14_1, hcz14_2, hfz14_0, hfz14_1, hfz14_2⟩ := c3_ BK236) | (go_at_call 18; (with_reducible refine (addr_Right.calls a1_0 a1_1 a1_2 true _ A8.out).mono ?_); rintro e w15 ⟨rfl, hb⟩; replace BK235 := bb_ BK235 hb; replace BK236 := bb_ BK236 hb; replace HB := bs_ HB hb; (try clear hb); (try clear hb2); (try clear hk); (try clear hi); obtain ⟨hcz16_0, hcz16_1, hcz16_2, hfz16_0, hfz16_1, hfz16_2⟩ := c3_ BK235; obtain ⟨hcz17_0, hcz17_1, hcz17_2, hfz17_0, hfz17_1, hfz17_2⟩ := c3_ BK236))
     go_meet
     case rel => exact ⟨_, (true), (by first | rfl | (simp; done) | (simp [*]; done)), H', ⟨by first | omega | exact Nat.le_refl _⟩, ⟨by refine pw_ ?_; exact BK235.out⟩, ⟨by refine pw_ ?_; exact BK236.out⟩, ⟨pb_ HB⟩⟩
    ·
     rw [if_neg c10] at H
     have c10b0 : (a0_0 != a1_0) = false := by simpa using c10
     (try (have c10b1 : decide (a0_0 = a1_0) = true := by simpa using c10))
     (try (have c10b2 : (a0_0 == a1_0) = true := by simpa using c10))
     clear c10
     (first | rw [c10b0] | (simp only [i64_w, i32_w]; rw [c10b0]) | skip)
     replace H := Option.bind_eq_some_iff.mp H
     obtain ⟨t239, A180, H⟩ := H
     replace H : (carve_Spread.j0 k (decide (t239 > 0)) a0_0 a0_1 a0_2 a1_0 a1_1 a1_2) = some (r1, r2) := H
     have A18 := Aside0.mk A180
     clear A180
     have H' := Aside0.mk H
     clear H
     have hnb19 := NB235_236.out
     have hnc19 := NB236_235.out
     obtain ⟨hcz20_0, hcz20_1, hcz20_2, hfz20_0, hfz20_1, hfz20_2⟩ := c3_ BK235
     go_wp2_with (first | ((with_reducible refine gate_callee (f := 18) rfl ?_); refine gl_ (some 10) Tryz.func18 #[.agg #[.bool a0_0, .int .u64 a0_1, .int .u64 a0_2]] ?_; (with_reducible refine (addr_Right.calls a0_0 a0_1 a0_2 true _ A6.out).mono ?_); rintro e w21 ⟨rfl, hb⟩; refine ⟨_, rfl, ?_⟩; replace BK235 := bb_ BK235 hb; replace BK236 := bb_ BK236 hb; replace HB := bs_ HB hb; (try clear hb); (try clear hb2); (try clear hk); (try clear hi); obtain ⟨hcz22_0, hcz22_1, hcz22_2, hfz22_0, hfz22_1, hfz22_2⟩ := c3_ BK236) | (go_at_call 18; (with_reducible refine (addr_Right.calls a1_0 a1_1 a1_2 true _ A8.out).mono ?_); rintro e w23 ⟨rfl, hb⟩; replace BK235 := bb_ BK235 hb; replace BK236 := bb_ BK236 hb; replace HB := bs_ HB hb; (try clear hb); (try clear hb2); (try clear hk); (try clear hi); obtain ⟨hcz24_0, hcz24_1, hcz24_2, hfz24_0, hfz24_1, hfz24_2⟩ := c3_ BK235; obtain ⟨hcz25_0, hcz25_1, hcz25_2, hfz25_0, hfz25_1, hfz25_2⟩ := c3_ BK236) | (go_at_call 20; (with_reducible refine (addr_Cmp.calls a0_0 a0_1 a0_2 a1_0 a1_1 a1_2 t239 _ A18.out).mono ?_); rintro e w26 ⟨rfl, hb⟩; replace BK235 := bb_ BK235 hb; replace BK236 := bb_ BK236 hb; replace HB := bs_ HB hb; (try clear hb); (try clear hb2); (try clear hk); (try clear hi)))
     go_meet
     case rel => exact ⟨_, (decide (t239 > 0)), (by first | rfl | (simp; done) | (simp [*]; done)), H', ⟨by first | omega | exact Nat.le_refl _⟩, ⟨by refine pw_ ?_; exact BK235.out⟩, ⟨by refine pw_ ?_; exact BK236.out⟩, ⟨pb_ HB⟩⟩
   ·
    replace c9 := Bool.eq_false_iff.mpr c9
    subst c9
    have H1 : (carve_Spread.j0 k true a0_0 a0_1 a0_2 a1_0 a1_1 a1_2) = some (r1, r2) := by rw [if_neg (show ¬ (false = true) by decide)] at H; exact H
    clear H
    have H := H1
    clear H1
    have H' := Aside0.mk H
    clear H
    have hnb27 := NB235_236.out
    have hnc27 := NB236_235.out
    obtain ⟨hcz28_0, hcz28_1, hcz28_2, hfz28_0, hfz28_1, hfz28_2⟩ := c3_ BK235
    go_wp2_with (first | ((with_reducible refine gate_callee (f := 18) rfl ?_); refine gl_ (some 10) Tryz.func18 #[.agg #[.bool a0_0, .int .u64 a0_1, .int .u64 a0_2]] ?_; (with_reducible refine (addr_Right.calls a0_0 a0_1 a0_2 true _ A6.out).mono ?_); rintro e w29 ⟨rfl, hb⟩; refine ⟨_, rfl, ?_⟩; replace BK235 := bb_ BK235 hb; replace BK236 := bb_ BK236 hb; replace HB := bs_ HB hb; (try clear hb); (try clear hb2); (try clear hk); (try clear hi); obtain ⟨hcz30_0, hcz30_1, hcz30_2, hfz30_0, hfz30_1, hfz30_2⟩ := c3_ BK236) | (go_at_call 18; (with_reducible refine (addr_Right.calls a1_0 a1_1 a1_2 false _ A8.out).mono ?_); rintro e w31 ⟨rfl, hb⟩; replace BK235 := bb_ BK235 hb; replace BK236 := bb_ BK236 hb; replace HB := bs_ HB hb; (try clear hb); (try clear hb2); (try clear hk); (try clear hi)))
    go_meet
    case rel => exact ⟨_, (true), (by first | rfl | (simp; done) | (simp [*]; done)), H', ⟨by first | omega | exact Nat.le_refl _⟩, ⟨by refine pw_ ?_; exact BK235.out⟩, ⟨by refine pw_ ?_; exact BK236.out⟩, ⟨pb_ HB⟩⟩
  ·
   replace c7 := Bool.eq_false_iff.mpr c7
   subst c7
   have H1 : (carve_Spread.j0 k true a0_0 a0_1 a0_2 a1_0 a1_1 a1_2) = some (r1, r2) := by rw [if_neg (show ¬ (false = true) by decide)] at H; exact H
   clear H
   have H := H1
   clear H1
   have H' := Aside0.mk H
   clear H
   have hnb32 := NB235_236.out
   have hnc32 := NB236_235.out
   obtain ⟨hcz33_0, hcz33_1, hcz33_2, hfz33_0, hfz33_1, hfz33_2⟩ := c3_ BK235
   go_wp2_with (first | ((with_reducible refine gate_callee (f := 18) rfl ?_); refine gl_ (some 10) Tryz.func18 #[.agg #[.bool a0_0, .int .u64 a0_1, .int .u64 a0_2]] ?_; (with_reducible refine (addr_Right.calls a0_0 a0_1 a0_2 false _ A6.out).mono ?_); rintro e w34 ⟨rfl, hb⟩; refine ⟨_, rfl, ?_⟩; replace BK235 := bb_ BK235 hb; replace BK236 := bb_ BK236 hb; replace HB := bs_ HB hb; (try clear hb); (try clear hb2); (try clear hk); (try clear hi)))
   go_meet
   case rel => exact ⟨_, (true), (by first | rfl | (simp; done) | (simp [*]; done)), H', ⟨by first | omega | exact Nat.le_refl _⟩, ⟨by refine pw_ ?_; exact BK235.out⟩, ⟨by refine pw_ ?_; exact BK236.out⟩, ⟨pb_ HB⟩⟩
 case rest =>
  clear HC3
  try clear c1
  try clear c2
  try clear p2
  try clear c3
  try clear c5
  try clear c7
  try clear c9
  try clear c10
  try clear c10b0
  try clear c10b1
  try clear c10b2
  try clear c11
  try clear c18
  try clear c19
  try clear c27
  try clear c32
  try clear hcz12_0
  try clear hcz12_1
  try clear hcz12_2
  try clear hcz14_0
  try clear hcz14_1
  try clear hcz14_2
  try clear hcz16_0
  try clear hcz16_1
  try clear hcz16_2
  try clear hcz17_0
  try clear hcz17_1
  try clear hcz17_2
  try clear hcz20_0
  try clear hcz20_1
  try clear hcz20_2
  try clear hcz22_0
  try clear hcz22_1
  try clear hcz22_2
  try clear hcz24_0
  try clear hcz24_1
  try clear hcz24_2
  try clear hcz25_0
  try clear hcz25_1
  try clear hcz25_2
  try clear hcz28_0
  try clear hcz28_1
  try clear hcz28_2
  try clear hcz30_0
  try clear hcz30_1
  try clear hcz30_2
  try clear hcz33_0
  try clear hcz33_1
  try clear hcz33_2
  try clear hfz12_0
  try clear hfz12_1
  try clear hfz12_2
  try clear hfz14_0
  try clear hfz14_1
  try clear hfz14_2
  try clear hfz16_0
  try clear hfz16_1
  try clear hfz16_2
  try clear hfz17_0
  try clear hfz17_1
  try clear hfz17_2
  try clear hfz20_0
  try clear hfz20_1
  try clear hfz20_2
  try clear hfz22_0
  try clear hfz22_1
  try clear hfz22_2
  try clear hfz24_0
  try clear hfz24_1
  try clear hfz24_2
  try clear hfz25_0
  try clear hfz25_1
  try clear hfz25_2
  try clear hfz28_0
  try clear hfz28_1
  try clear hfz28_2
  try clear hfz30_0
  try clear hfz30_1
  try clear hfz30_2
  try clear hfz33_0
  try clear hfz33_1
  try clear hfz33_2
  obtain ⟨kq, x29_2, rfl, HA, HJ2, BK235, BK236, HB⟩ := hcut
  cases kq with
  | zero => exact absurd HA.out (by simp [carve_Spread.j0])
  | succ kj2 =>
   have H := HA.out
   clear HA
   simp only [carve_Spread.j0] at H
   by_cases c35 : x29_2 = true
   ·
    subst c35
    rw [if_pos rfl] at H
    simp only [Option.some.injEq, Prod.mk.injEq] at H
    obtain ⟨rfl, rfl⟩ := H
    go_wp2
    go_ret2
    exact ⟨_, by first | rfl | (simp [errW_none, errW_some] <;> rfl) | (simp [*, errW_none, errW_some] <;> rfl), by first | exact Kd.R_nil _ _ _ _ _ | exact Kd.N_nil _ _ _ _ _ | exact Kd.V_nil _ _ _ _ _ | exact Kd.Q_nil _ _ _ _ _ | exact Kd.S_nil _ _ _ _ _, pb_ HB⟩
   ·
    replace c35 := Bool.eq_false_iff.mpr c35
    subst c35
    have H1 : (carve_Spread.l0 kj2 ([] : List (S38)) a0_0 a0_1 a0_2 a1_0 a1_1 a1_2) = some (r1, r2) := by rw [if_neg (show ¬ (false = true) by decide)] at H; exact H
    clear H
    have H := H1
    clear H1
    have H' := Aside0.mk H
    clear H
    go_wp2
    go_loopg [6] kj2 (fun kq v6 w' => ∃ (x6_2 : List (S38)) (x236000_2 : Bool) (x236001_2 : Int) (x236002_2 : Int), Aside0 (carve_Spread.l0 kq x6_2 x236000_2 x236001_2 x236002_2 a1_0 a1_1 a1_2 = some (r1, r2)) ∧ Aside0 (kq ≤ kj2) ∧ Aside0 (Kd.R k38 38 w' w.heap.size (fun _ => True) v6 x6_2) ∧ Aside0 (w'.heap[gb235]? = some (.cells #[.bool x236000_2, .int .u64 x236001_2, .int .u64 x236002_2] 26 (0, 0))) ∧ Aside0 (w'.heap[gb236]? = some (.cells #[.bool a1_0, .int .u64 a1_1, .int .u64 a1_2] 26 (0, 0))) ∧ Aside0 (Below w.heap.size w w'))
    case atStart => exact ⟨(([] : List (S38))), (a0_0), (a0_1), (a0_2), H', ⟨Nat.le_refl _⟩, ⟨by first | exact Kd.R_nil _ _ _ _ _ | exact Kd.N_nil _ _ _ _ _ | exact Kd.V_nil _ _ _ _ _ | exact Kd.Q_nil _ _ _ _ _ | exact Kd.S_nil _ _ _ _ _⟩, ⟨by refine pw_ ?_; exact BK235.out⟩, ⟨by refine pw_ ?_; exact BK236.out⟩, ⟨pb_ HB⟩⟩
    case round =>
     clear H'
     try clear c1
     try clear c2
     try clear p2
     try clear c3
     try clear c5
     try clear c7
     try clear c9
     try clear c10
     try clear c10b0
     try clear c10b1
     try clear c10b2
     try clear c11
     try clear c18
     try clear c19
     try clear c27
     try clear c32
     try clear c35
     try clear hcz12_0
     try clear hcz12_1
     try clear hcz12_2
     try clear hcz14_0
     try clear hcz14_1
     try clear hcz14_2
     try clear hcz16_0
     try clear hcz16_1
     try clear hcz16_2
     try clear hcz17_0
     try clear hcz17_1
     try clear hcz17_2
     try clear hcz20_0
     try clear hcz20_1
     try clear hcz20_2
     try clear hcz22_0
     try clear hcz22_1
     try clear hcz22_2
     try clear hcz24_0
     try clear hcz24_1
     try clear hcz24_2
     try clear hcz25_0
     try clear hcz25_1
     try clear hcz25_2
     try clear hcz28_0
     try clear hcz28_1
     try clear hcz28_2
     try clear hcz30_0
     try clear hcz30_1
     try clear hcz30_2
     try clear hcz33_0
     try clear hcz33_1
     try clear hcz33_2
     try clear hfz12_0
     try clear hfz12_1
     try clear hfz12_2
     try clear hfz14_0
     try clear hfz14_1
     try clear hfz14_2
     try clear hfz16_0
     try clear hfz16_1
     try clear hfz16_2
     try clear hfz17_0
     try clear hfz17_1
     try clear hfz17_2
     try clear hfz20_0
     try clear hfz20_1
     try clear hfz20_2
     try clear hfz22_0
     try clear hfz22_1
     try clear hfz22_2
     try clear hfz24_0
     try clear hfz24_1
     try clear hfz24_2
     try clear hfz25_0
     try clear hfz25_1
     try clear hfz25_2
     try clear hfz28_0
     try clear hfz28_1
     try clear hfz28_2
     try clear hfz30_0
     try clear hfz30_1
     try clear hfz30_2
     try clear hfz33_0
     try clear hfz33_1
     try clear hfz33_2
     try clear p2
     obtain ⟨x6_2, x236000_2, x236001_2, x236002_2, HA, HK2, HO_6, BK235, BK236, HB⟩ := hrel
     cases gk with
     | zero => exact absurd HA.out (by simp [carve_Spread.l0])
     | succ k2 =>
      have H := HA.out
      clear HA
      simp only [carve_Spread.l0] at H
      replace H := Option.bind_eq_some_iff.mp H
      obtain ⟨⟨t240, t241, t242, t243⟩, A360, H⟩ := H
      replace H : (if x6_2.length < 4398046511104 then ((some (x6_2 ++ [(⟨(⟨t240, (⟨t241, t242⟩ : S24)⟩ : S26), t243⟩ : S38)] : List (S38))).bind fun y245 => ((prefix_Last.f t240 t241 t242 t243).bind fun bt248 => (if (bt248.1 == a1_0 && ((bt248.2.1 == a1_1 && (bt248.2.2 == a1_2)))) = true then (some (y245, 0)) else ((num_Of.f 1).bind fun bt252 => ((addr_Plus.f bt248.1 bt248.2.1 bt248.2.2 bt252.1 bt252.2).bind fun bt254 => (carve_Spread.l0 k2 y245 bt254.1 bt254.2.1 bt254.2.2.1 a1_0 a1_1 a1_2)))))) else (none)) = some (r1, r2) := H
      have A36 := Aside0.mk A360
      clear A360
      by_cases c37 : x6_2.length < 4398046511104
      ·
       rw [if_pos c37] at H
       have LMc37 := Aside0.mk c37
       clear c37
       obtain ⟨y245, hy245⟩ : ∃ y_ : List (S38), y_ = (x6_2 ++ [(⟨(⟨t240, (⟨t241, t242⟩ : S24)⟩ : S26), t243⟩ : S38)]) := ⟨_, rfl⟩
       replace H : ((prefix_Last.f t240 t241 t242 t243).bind fun bt248 => (if (bt248.1 == a1_0 && ((bt248.2.1 == a1_1 && (bt248.2.2 == a1_2)))) = true then (some (y245, 0)) else ((num_Of.f 1).bind fun bt252 => ((addr_Plus.f bt248.1 bt248.2.1 bt248.2.2 bt252.1 bt252.2).bind fun bt254 => (carve_Spread.l0 k2 y245 bt254.1 bt254.2.1 bt254.2.2.1 a1_0 a1_1 a1_2))))) = some (r1, r2) := by first | (rw [hy245]; with_reducible exact H) | (have H2_ := (Option.bind_some _ _).symm.trans H; rw [hy245]; with_reducible exact H2_) | (have H2_ := (Option.bind_some _ _).symm.trans H; with_reducible exact H2_) | with_reducible exact H | (rw [hy245]; exact H) | exact H
       have Ny245 := Aside0.mk hy245
       clear hy245
       replace H := Option.bind_eq_some_iff.mp H
       obtain ⟨⟨t248, t249, t250⟩, A380, H⟩ := H
       replace H : (if (t248 == a1_0 && ((t249 == a1_1 && (t250 == a1_2)))) = true then (some (y245, 0)) else ((num_Of.f 1).bind fun bt252 => ((addr_Plus.f t248 t249 t250 bt252.1 bt252.2).bind fun bt254 => (carve_Spread.l0 k2 y245 bt254.1 bt254.2.1 bt254.2.2.1 a1_0 a1_1 a1_2)))) = some (r1, r2) := H
       have A38 := Aside0.mk A380
       clear A380
       by_cases c39 : (t248 == a1_0 && ((t249 == a1_1 && (t250 == a1_2)))) = true
       ·
        rw [if_pos c39] at H
        have c39b0 : (t248 == a1_0 && ((t249 == a1_1 && (t250 == a1_2)))) = true := c39
        (try (have c39b1 : decide (t248 = a1_0 && ((t249 == a1_1 && (t250 == a1_2)))) = true := by simpa using c39))
        (try (have c39b2 : (t248 == a1_0 && ((t249 == a1_1 && (t250 == a1_2)))) = true := by simpa using c39))
        clear c39
        simp only [Option.some.injEq, Prod.mk.injEq] at H
        obtain ⟨rfl, rfl⟩ := H
        have hnb40 := NB235_236.out
        have hnc40 := NB236_235.out
        obtain ⟨hcz41_0, hcz41_1, hcz41_2, hfz41_0, hfz41_1, hfz41_2⟩ := c3_ BK235
        obtain ⟨hcz42_0, hcz42_1, hcz42_2, hfz42_0, hfz42_1, hfz42_2⟩ := c3_ BK236
        go_wp2_with (first | ((with_reducible refine gate_callee (f := 96) rfl ?_); refine gl_ (some 32) Tryz.func96 #[.agg #[.bool x236000_2, .int .u64 x236001_2, .int .u64 x236002_2], .agg #[.bool a1_0, .int .u64 a1_1, .int .u64 a1_2]] ?_; (with_reducible refine (carve_widest.calls k2 x236000_2 x236001_2 x236002_2 a1_0 a1_1 a1_2 t240 t241 t242 t243 _ A36.out).mono ?_); rintro e w43 ⟨rfl, hb⟩; refine ⟨_, rfl, ?_⟩; replace HO_6 := Aside0.mk (Kd.R_below (by (with_reducible repeat (first | apply Kd.R_alloc | apply Kd.R_drewN | apply Kd.R_drew)); exact HO_6.out) hb); replace BK235 := bb_ BK235 hb; replace BK236 := bb_ BK236 hb; replace HB := bs_ HB hb; (try clear hb); (try clear hb2); (try clear hk); (try clear hi)) | ((with_reducible refine gate_dst (N := 7) rfl ?_); refine bx_ 7 #[.bool false, .int .u64 0, .int .u64 0, .int .i64 0] 38 ?_; intro gb244 hg w44 hbox hb; have BK244 := Aside0.mk (hbox); have GW244 := gw_ HB hg; have GE244 := gw_ HB hg; have NB235_244 := nl_ BK235 hg; have NB244_235 := ng_ BK235 hg; have NB236_244 := nl_ BK236 hg; have NB244_236 := ng_ BK236 hg; replace HO_6 := Aside0.mk (Kd.R_below (Kd.R_elderB (by (with_reducible repeat (first | apply Kd.R_alloc | apply Kd.R_drewN | apply Kd.R_drew)); exact HO_6.out) gb244 (Nat.le_of_eq hg.symm)) hb); replace BK235 := bb_ BK235 hb; replace BK236 := bb_ BK236 hb; replace HB := bs_ HB hb; clear hb hbox hg; have hnb45 := NB244_235.out; have hnc45 := NB235_244.out; have hnb46 := NB244_236.out; have hnc46 := NB236_244.out; obtain ⟨hcz47_0, hcz47_1, hcz47_2, hcz47_3, hfz47_0, hfz47_1, hfz47_2, hfz47_3⟩ := c4_ BK244) | ((with_reducible refine gate_builtin (b := .append) (xs := #[.tmp 33, .tmp 35]) rfl ?_); at_builtin; refine Kd.R_append k38 (w0 := w) w.heap.size rfl (.tmp 33) (.tmp 35) 67 38 (.agg #[(.bool false), (.int .u64 0), (.int .u64 0), (.int .i64 0)]) 32 rfl Tryz.underlying67 info38 rfl (by decide) (by omega) u6 x6_2 (⟨(⟨t240, (⟨t241, t242⟩ : S24)⟩ : S26), t243⟩ : S38) [.bool t240, .int .u64 t241, .int .u64 t242, .int .i64 t243] (fun k_ => k_ ≠ gb244) (fun _ => False) rfl (by first | (go_simp; done) | (go_simp; rfl)) ?aP (fun _ hk => hk.elim) ?aF ?aO ?aB ?aS ?aL ?_; (case aP => exact k38_mkM _ _ _ (⟨(⟨t240, (⟨t241, t242⟩ : S24)⟩ : S26), t243⟩ : S38)); (case aB => exact (pb_ HB)); (case aF => exact (fun k_ hk => Kd.freshB (g := gb244) (o := .cells #[.bool t240, .int .u64 t241, .int .u64 t242, .int .i64 t243] 38 (0, 0)) (by refine pw_ ?_; refine blk_put (cs := #[.bool t240, .int .u64 t241, .int .u64 t242, .int .i64 0]) ?_ 3 _ rfl; refine pw_ ?_; refine blk_put (cs := #[.bool t240, .int .u64 t241, .int .u64 0, .int .i64 0]) ?_ 2 _ rfl; refine pw_ ?_; refine blk_put (cs := #[.bool t240, .int .u64 0, .int .u64 0, .int .i64 0]) ?_ 1 _ rfl; refine pw_ ?_; refine blk_put (cs := #[.bool false, .int .u64 0, .int .u64 0, .int .i64 0]) ?_ 0 _ rfl; refine pw_ ?_; exact BK244.out) k_ hk)); (case aO => exact (by (with_reducible repeat (first | apply Kd.R_alloc | apply Kd.R_drewN | apply Kd.R_drew)); exact Kd.R_mono (Kd.R_far (p := ⟨gb244, 3, none⟩) (Kd.R_far (p := ⟨gb244, 2, none⟩) (Kd.R_far (p := ⟨gb244, 1, none⟩) (Kd.R_far (p := ⟨gb244, 0, none⟩) (Kd.R_mono HO_6.out (fun k_ hk => (⟨hk, hk.2⟩ : _ ∧ k_ ≠ gb244))) (fun _ hk => hk.2) (.bool t240)) (fun _ hk => hk.2) (.int .u64 t241)) (fun _ hk => hk.2) (.int .u64 t242)) (fun _ hk => hk.2) (.int .i64 t243)) (fun _ hk => hk.1.2))); (case aS => exact (below_size (pb_ HB))); (case aL => have := LMc37.out; omega); intro v246 w48 ho hb hg hat; rw [← Ny245.out] at ho; have HO247 := Aside0.mk (ho); replace BK235 := Aside0.mk (blk_grown (g := gb235) (o := .cells #[.bool x236000_2, .int .u64 x236001_2, .int .u64 x236002_2] 26 (0, 0)) (by refine pw_ ?_; refine blk_far ?_ NB235_244.out _; refine pw_ ?_; refine blk_far ?_ NB235_244.out _; refine pw_ ?_; refine blk_far ?_ NB235_244.out _; refine pw_ ?_; refine blk_far ?_ NB235_244.out _; refine pw_ ?_; exact BK235.out) hg (Kd.R_ne HO_6.out BK235.out (by decide))); replace BK236 := Aside0.mk (blk_grown (g := gb236) (o := .cells #[.bool a1_0, .int .u64 a1_1, .int .u64 a1_2] 26 (0, 0)) (by refine pw_ ?_; refine blk_far ?_ NB236_244.out _; refine pw_ ?_; refine blk_far ?_ NB236_244.out _; refine pw_ ?_; refine blk_far ?_ NB236_244.out _; refine pw_ ?_; refine blk_far ?_ NB236_244.out _; refine pw_ ?_; exact BK236.out) hg (Kd.R_ne HO_6.out BK236.out (by decide))); replace BK244 := Aside0.mk (blk_grown (g := gb244) (o := .cells #[.bool t240, .int .u64 t241, .int .u64 t242, .int .i64 t243] 38 (0, 0)) (by refine pw_ ?_; refine blk_put (cs := #[.bool t240, .int .u64 t241, .int .u64 t242, .int .i64 0]) ?_ 3 _ rfl; refine pw_ ?_; refine blk_put (cs := #[.bool t240, .int .u64 t241, .int .u64 0, .int .i64 0]) ?_ 2 _ rfl; refine pw_ ?_; refine blk_put (cs := #[.bool t240, .int .u64 0, .int .u64 0, .int .i64 0]) ?_ 1 _ rfl; refine pw_ ?_; refine blk_put (cs := #[.bool false, .int .u64 0, .int .u64 0, .int .i64 0]) ?_ 0 _ rfl; refine pw_ ?_; exact BK244.out) hg (Kd.R_away HO_6.out (fun _ hk => hk.2))); replace HB := Aside0.mk (hb); clear HO_6; clear ho hb hg hat; obtain ⟨hcz49_0, hcz49_1, hcz49_2, hcz49_3, hfz49_0, hfz49_1, hfz49_2, hfz49_3⟩ := c4_ BK244) | ((with_reducible refine gate_callee (f := 38) rfl ?_); refine gl_ (some 38) Tryz.func38 #[.agg #[.bool t240, .int .u64 t241, .int .u64 t242, .int .i64 t243]] ?_; (with_reducible refine (prefix_Last.calls t240 t241 t242 t243 t248 t249 t250 _ A38.out).mono ?_); rintro e w50 ⟨rfl, hb⟩; refine ⟨_, rfl, ?_⟩; replace HO247 := Aside0.mk (Kd.R_below (by (with_reducible repeat (first | apply Kd.R_alloc | apply Kd.R_drewN | apply Kd.R_drew)); exact HO247.out) hb); replace BK235 := bb_ BK235 hb; replace BK236 := bb_ BK236 hb; replace BK244 := bb_ BK244 hb; replace HB := bs_ HB hb; (try clear hb); (try clear hb2); (try clear hk); (try clear hi)) | ((with_reducible refine gate_dst (N := 8) rfl ?_); refine bx_ 8 #[.bool false, .int .u64 0, .int .u64 0] 26 ?_; intro gb251 hg w51 hbox hb; have BK251 := Aside0.mk (hbox); have GW251 := gw_ HB hg; have GE251 := gw_ HB hg; have NB235_251 := nl_ BK235 hg; have NB251_235 := ng_ BK235 hg; have NB236_251 := nl_ BK236 hg; have NB251_236 := ng_ BK236 hg; have NB244_251 := nl_ BK244 hg; have NB251_244 := ng_ BK244 hg; replace HO247 := Aside0.mk (Kd.R_below (by (with_reducible repeat (first | apply Kd.R_alloc | apply Kd.R_drewN | apply Kd.R_drew)); exact HO247.out) hb); replace BK235 := bb_ BK235 hb; replace BK236 := bb_ BK236 hb; replace BK244 := bb_ BK244 hb; replace HB := bs_ HB hb; clear hb hbox hg; have hnb52 := NB251_235.out; have hnc52 := NB235_251.out; have hnb53 := NB251_236.out; have hnc53 := NB236_251.out; have hnb54 := NB251_244.out; have hnc54 := NB244_251.out; obtain ⟨hcz55_0, hcz55_1, hcz55_2, hfz55_0, hfz55_1, hfz55_2⟩ := c3_ BK251; obtain ⟨hcz56_0, hcz56_1, hcz56_2, hfz56_0, hfz56_1, hfz56_2⟩ := c3_ BK236))
        go_ret2
        exact ⟨_, by first | rfl | (simp [errW_none, errW_some] <;> rfl) | (simp [*, errW_none, errW_some] <;> rfl), by (with_reducible repeat (first | apply Kd.R_alloc | apply Kd.R_drewN | apply Kd.R_drew)); exact Kd.R_mono (Kd.R_far (p := ⟨gb251, 2, none⟩) (Kd.R_far (p := ⟨gb251, 1, none⟩) (Kd.R_far (p := ⟨gb251, 0, none⟩) (Kd.R_types HO247.out BK251.out (by decide)) (fun _ hk => hk.2) (.bool t248)) (fun _ hk => hk.2) (.int .u64 t249)) (fun _ hk => hk.2) (.int .u64 t250)) (fun _ hk => trivial), pb_ HB⟩
       ·
        rw [if_neg c39] at H
        have c39b0 : (t248 == a1_0 && ((t249 == a1_1 && (t250 == a1_2)))) = false := by simpa using c39
        (try (have c39b1 : decide (t248 = a1_0 && ((t249 == a1_1 && (t250 == a1_2)))) = false := by simpa using c39))
        (try (have c39b2 : (t248 == a1_0 && ((t249 == a1_1 && (t250 == a1_2)))) = false := by simpa using c39))
        (try (have c39b3 : ¬ (t248 = a1_0 && ((t249 == a1_1 && (t250 == a1_2)))) := by simpa using c39))
        clear c39
        replace H := Option.bind_eq_some_iff.mp H
        obtain ⟨⟨t252, t253⟩, A570, H⟩ := H
        replace H : ((addr_Plus.f t248 t249 t250 t252 t253).bind fun bt254 => (carve_Spread.l0 k2 y245 bt254.1 bt254.2.1 bt254.2.2.1 a1_0 a1_1 a1_2)) = some (r1, r2) := H
        have A57 := Aside0.mk A570
        clear A570
        replace H := Option.bind_eq_some_iff.mp H
        obtain ⟨⟨t254, t255, t256, t257⟩, A580, H⟩ := H
        replace H : (carve_Spread.l0 k2 y245 t254 t255 t256 a1_0 a1_1 a1_2) = some (r1, r2) := H
        have A58 := Aside0.mk A580
        clear A580
        have H' := Aside0.mk H
        clear H
        have hnb59 := NB235_236.out
        have hnc59 := NB236_235.out
        obtain ⟨hcz60_0, hcz60_1, hcz60_2, hfz60_0, hfz60_1, hfz60_2⟩ := c3_ BK235
        obtain ⟨hcz61_0, hcz61_1, hcz61_2, hfz61_0, hfz61_1, hfz61_2⟩ := c3_ BK236
        try go_wp2_with (first | ((with_reducible refine gate_callee (f := 96) rfl ?_); refine gl_ (some 32) Tryz.func96 #[.agg #[.bool x236000_2, .int .u64 x236001_2, .int .u64 x236002_2], .agg #[.bool a1_0, .int .u64 a1_1, .int .u64 a1_2]] ?_; (with_reducible refine (carve_widest.calls k2 x236000_2 x236001_2 x236002_2 a1_0 a1_1 a1_2 t240 t241 t242 t243 _ A36.out).mono ?_); rintro e w62 ⟨rfl, hb⟩; refine ⟨_, rfl, ?_⟩; replace HO_6 := Aside0.mk (Kd.R_below (by (with_reducible repeat (first | apply Kd.R_alloc | apply Kd.R_drewN | apply Kd.R_drew)); exact HO_6.out) hb); replace BK235 := bb_ BK235 hb; replace BK236 := bb_ BK236 hb; replace HB := bs_ HB hb; (try clear hb); (try clear hb2); (try clear hk); (try clear hi)) | ((with_reducible refine gate_dst (N := 7) rfl ?_); refine bx_ 7 #[.bool false, .int .u64 0, .int .u64 0, .int .i64 0] 38 ?_; intro gb244 hg w63 hbox hb; have BK244 := Aside0.mk (hbox); have GW244 := gw_ HB hg; have GE244 := gw_ HB hg; have NB235_244 := nl_ BK235 hg; have NB244_235 := ng_ BK235 hg; have NB236_244 := nl_ BK236 hg; have NB244_236 := ng_ BK236 hg; replace HO_6 := Aside0.mk (Kd.R_below (Kd.R_elderB (by (with_reducible repeat (first | apply Kd.R_alloc | apply Kd.R_drewN | apply Kd.R_drew)); exact HO_6.out) gb244 (Nat.le_of_eq hg.symm)) hb); replace BK235 := bb_ BK235 hb; replace BK236 := bb_ BK236 hb; replace HB := bs_ HB hb; clear hb hbox hg; have hnb64 := NB244_235.out; have hnc64 := NB235_244.out; have hnb65 := NB244_236.out; have hnc65 := NB236_244.out; obtain ⟨hcz66_0, hcz66_1, hcz66_2, hcz66_3, hfz66_0, hfz66_1, hfz66_2, hfz66_3⟩ := c4_ BK244) | ((with_reducible refine gate_builtin (b := .append) (xs := #[.tmp 33, .tmp 35]) rfl ?_); at_builtin; refine Kd.R_append k38 (w0 := w) w.heap.size rfl (.tmp 33) (.tmp 35) 67 38 (.agg #[(.bool false), (.int .u64 0), (.int .u64 0), (.int .i64 0)]) 32 rfl Tryz.underlying67 info38 rfl (by decide) (by omega) u6 x6_2 (⟨(⟨t240, (⟨t241, t242⟩ : S24)⟩ : S26), t243⟩ : S38) [.bool t240, .int .u64 t241, .int .u64 t242, .int .i64 t243] (fun k_ => k_ ≠ gb244) (fun _ => False) rfl (by first | (go_simp; done) | (go_simp; rfl)) ?aP (fun _ hk => hk.elim) ?aF ?aO ?aB ?aS ?aL ?_; (case aP => exact k38_mkM _ _ _ (⟨(⟨t240, (⟨t241, t242⟩ : S24)⟩ : S26), t243⟩ : S38)); (case aB => exact (pb_ HB)); (case aF => exact (fun k_ hk => Kd.freshB (g := gb244) (o := .cells #[.bool t240, .int .u64 t241, .int .u64 t242, .int .i64 t243] 38 (0, 0)) (by refine pw_ ?_; refine blk_put (cs := #[.bool t240, .int .u64 t241, .int .u64 t242, .int .i64 0]) ?_ 3 _ rfl; refine pw_ ?_; refine blk_put (cs := #[.bool t240, .int .u64 t241, .int .u64 0, .int .i64 0]) ?_ 2 _ rfl; refine pw_ ?_; refine blk_put (cs := #[.bool t240, .int .u64 0, .int .u64 0, .int .i64 0]) ?_ 1 _ rfl; refine pw_ ?_; refine blk_put (cs := #[.bool false, .int .u64 0, .int .u64 0, .int .i64 0]) ?_ 0 _ rfl; refine pw_ ?_; exact BK244.out) k_ hk)); (case aO => exact (by (with_reducible repeat (first | apply Kd.R_alloc | apply Kd.R_drewN | apply Kd.R_drew)); exact Kd.R_mono (Kd.R_far (p := ⟨gb244, 3, none⟩) (Kd.R_far (p := ⟨gb244, 2, none⟩) (Kd.R_far (p := ⟨gb244, 1, none⟩) (Kd.R_far (p := ⟨gb244, 0, none⟩) (Kd.R_mono HO_6.out (fun k_ hk => (⟨hk, hk.2⟩ : _ ∧ k_ ≠ gb244))) (fun _ hk => hk.2) (.bool t240)) (fun _ hk => hk.2) (.int .u64 t241)) (fun _ hk => hk.2) (.int .u64 t242)) (fun _ hk => hk.2) (.int .i64 t243)) (fun _ hk => hk.1.2))); (case aS => exact (below_size (pb_ HB))); (case aL => have := LMc37.out; omega); intro v246 w67 ho hb hg hat; rw [← Ny245.out] at ho; have HO247 := Aside0.mk (ho); replace BK235 := Aside0.mk (blk_grown (g := gb235) (o := .cells #[.bool x236000_2, .int .u64 x236001_2, .int .u64 x236002_2] 26 (0, 0)) (by refine pw_ ?_; refine blk_far ?_ NB235_244.out _; refine pw_ ?_; refine blk_far ?_ NB235_244.out _; refine pw_ ?_; refine blk_far ?_ NB235_244.out _; refine pw_ ?_; refine blk_far ?_ NB235_244.out _; refine pw_ ?_; exact BK235.out) hg (Kd.R_ne HO_6.out BK235.out (by decide))); replace BK236 := Aside0.mk (blk_grown (g := gb236) (o := .cells #[.bool a1_0, .int .u64 a1_1, .int .u64 a1_2] 26 (0, 0)) (by refine pw_ ?_; refine blk_far ?_ NB236_244.out _; refine pw_ ?_; refine blk_far ?_ NB236_244.out _; refine pw_ ?_; refine blk_far ?_ NB236_244.out _; refine pw_ ?_; refine blk_far ?_ NB236_244.out _; refine pw_ ?_; exact BK236.out) hg (Kd.R_ne HO_6.out BK236.out (by decide))); replace BK244 := Aside0.mk (blk_grown (g := gb244) (o := .cells #[.bool t240, .int .u64 t241, .int .u64 t242, .int .i64 t243] 38 (0, 0)) (by refine pw_ ?_; refine blk_put (cs := #[.bool t240, .int .u64 t241, .int .u64 t242, .int .i64 0]) ?_ 3 _ rfl; refine pw_ ?_; refine blk_put (cs := #[.bool t240, .int .u64 t241, .int .u64 0, .int .i64 0]) ?_ 2 _ rfl; refine pw_ ?_; refine blk_put (cs := #[.bool t240, .int .u64 0, .int .u64 0, .int .i64 0]) ?_ 1 _ rfl; refine pw_ ?_; refine blk_put (cs := #[.bool false, .int .u64 0, .int .u64 0, .int .i64 0]) ?_ 0 _ rfl; refine pw_ ?_; exact BK244.out) hg (Kd.R_away HO_6.out (fun _ hk => hk.2))); replace HB := Aside0.mk (hb); clear HO_6; clear ho hb hg hat; obtain ⟨hcz68_0, hcz68_1, hcz68_2, hcz68_3, hfz68_0, hfz68_1, hfz68_2, hfz68_3⟩ := c4_ BK244) | ((with_reducible refine gate_callee (f := 38) rfl ?_); refine gl_ (some 38) Tryz.func38 #[.agg #[.bool t240, .int .u64 t241, .int .u64 t242, .int .i64 t243]] ?_; (with_reducible refine (prefix_Last.calls t240 t241 t242 t243 t248 t249 t250 _ A38.out).mono ?_); rintro e w69 ⟨rfl, hb⟩; refine ⟨_, rfl, ?_⟩; replace HO247 := Aside0.mk (Kd.R_below (by (with_reducible repeat (first | apply Kd.R_alloc | apply Kd.R_drewN | apply Kd.R_drew)); exact HO247.out) hb); replace BK235 := bb_ BK235 hb; replace BK236 := bb_ BK236 hb; replace BK244 := bb_ BK244 hb; replace HB := bs_ HB hb; (try clear hb); (try clear hb2); (try clear hk); (try clear hi)) | ((with_reducible refine gate_dst (N := 8) rfl ?_); refine bx_ 8 #[.bool false, .int .u64 0, .int .u64 0] 26 ?_; intro gb251 hg w70 hbox hb; have BK251 := Aside0.mk (hbox); have GW251 := gw_ HB hg; have GE251 := gw_ HB hg; have NB235_251 := nl_ BK235 hg; have NB251_235 := ng_ BK235 hg; have NB236_251 := nl_ BK236 hg; have NB251_236 := ng_ BK236 hg; have NB244_251 := nl_ BK244 hg; have NB251_244 := ng_ BK244 hg; replace HO247 := Aside0.mk (Kd.R_below (by (with_reducible repeat (first | apply Kd.R_alloc | apply Kd.R_drewN | apply Kd.R_drew)); exact HO247.out) hb); replace BK235 := bb_ BK235 hb; replace BK236 := bb_ BK236 hb; replace BK244 := bb_ BK244 hb; replace HB := bs_ HB hb; clear hb hbox hg; have hnb71 := NB251_235.out; have hnc71 := NB235_251.out; have hnb72 := NB251_236.out; have hnc72 := NB236_251.out; have hnb73 := NB251_244.out; have hnc73 := NB244_251.out; obtain ⟨hcz74_0, hcz74_1, hcz74_2, hfz74_0, hfz74_1, hfz74_2⟩ := c3_ BK251; obtain ⟨hcz75_0, hcz75_1, hcz75_2, hfz75_0, hfz75_1, hfz75_2⟩ := c3_ BK236))
        have n0_ : Aside0 (Kd.R k38 38 (((w70.setCell ⟨gb251, 0, none⟩ (.bool t248)).setCell ⟨gb251, 1, none⟩ (.int .u64 t249)).setCell ⟨gb251, 2, none⟩ (.int .u64 t250)) w.heap.size (fun k_ => k_ ≠ gb244) v246 y245) := ⟨by (with_reducible repeat (first | apply Kd.R_alloc | apply Kd.R_drewN | apply Kd.R_drew)); exact Kd.R_mono (Kd.R_far (p := ⟨gb251, 2, none⟩) (Kd.R_far (p := ⟨gb251, 1, none⟩) (Kd.R_far (p := ⟨gb251, 0, none⟩) (Kd.R_types HO247.out BK251.out (by decide)) (fun _ hk => hk.2) (.bool t248)) (fun _ hk => hk.2) (.int .u64 t249)) (fun _ hk => hk.2) (.int .u64 t250)) (fun _ hk => hk.1)⟩
        have n1_ : Aside0 ((((w70.setCell ⟨gb251, 0, none⟩ (.bool t248)).setCell ⟨gb251, 1, none⟩ (.int .u64 t249)).setCell ⟨gb251, 2, none⟩ (.int .u64 t250)).heap[gb235]? = some (.cells #[.bool x236000_2, .int .u64 x236001_2, .int .u64 x236002_2] 26 (0, 0))) := ⟨by refine pw_ ?_; refine blk_far ?_ NB235_251.out _; refine pw_ ?_; refine blk_far ?_ NB235_251.out _; refine pw_ ?_; refine blk_far ?_ NB235_251.out _; refine pw_ ?_; exact BK235.out⟩
        have n2_ : Aside0 ((((w70.setCell ⟨gb251, 0, none⟩ (.bool t248)).setCell ⟨gb251, 1, none⟩ (.int .u64 t249)).setCell ⟨gb251, 2, none⟩ (.int .u64 t250)).heap[gb236]? = some (.cells #[.bool a1_0, .int .u64 a1_1, .int .u64 a1_2] 26 (0, 0))) := ⟨by refine pw_ ?_; refine blk_far ?_ NB236_251.out _; refine pw_ ?_; refine blk_far ?_ NB236_251.out _; refine pw_ ?_; refine blk_far ?_ NB236_251.out _; refine pw_ ?_; exact BK236.out⟩
        have n3_ : Aside0 ((((w70.setCell ⟨gb251, 0, none⟩ (.bool t248)).setCell ⟨gb251, 1, none⟩ (.int .u64 t249)).setCell ⟨gb251, 2, none⟩ (.int .u64 t250)).heap[gb244]? = some (.cells #[.bool t240, .int .u64 t241, .int .u64 t242, .int .i64 t243] 38 (0, 0))) := ⟨by refine pw_ ?_; refine blk_far ?_ NB244_251.out _; refine pw_ ?_; refine blk_far ?_ NB244_251.out _; refine pw_ ?_; refine blk_far ?_ NB244_251.out _; refine pw_ ?_; exact BK244.out⟩
        have n4_ : Aside0 ((((w70.setCell ⟨gb251, 0, none⟩ (.bool t248)).setCell ⟨gb251, 1, none⟩ (.int .u64 t249)).setCell ⟨gb251, 2, none⟩ (.int .u64 t250)).heap[gb251]? = some (.cells #[.bool t248, .int .u64 t249, .int .u64 t250] 26 (0, 0))) := ⟨by refine pw_ ?_; refine blk_put (cs := #[.bool t248, .int .u64 t249, .int .u64 0]) ?_ 2 _ rfl; refine pw_ ?_; refine blk_put (cs := #[.bool t248, .int .u64 0, .int .u64 0]) ?_ 1 _ rfl; refine pw_ ?_; refine blk_put (cs := #[.bool false, .int .u64 0, .int .u64 0]) ?_ 0 _ rfl; refine pw_ ?_; exact BK251.out⟩
        have n5_ : Aside0 (Below w.heap.size w (((w70.setCell ⟨gb251, 0, none⟩ (.bool t248)).setCell ⟨gb251, 1, none⟩ (.int .u64 t249)).setCell ⟨gb251, 2, none⟩ (.int .u64 t250))) := ⟨pb_ HB⟩
        (try clear HO247)
        (try clear BK235)
        (try clear BK236)
        (try clear BK244)
        (try clear BK251)
        (try clear HB)
        generalize (((w70.setCell ⟨gb251, 0, none⟩ (.bool t248)).setCell ⟨gb251, 1, none⟩ (.int .u64 t249)).setCell ⟨gb251, 2, none⟩ (.int .u64 t250)) = w76 at n0_ n1_ n2_ n3_ n4_ n5_ ⊢
        have HO247 := n0_
        have BK235 := n1_
        have BK236 := n2_
        have BK244 := n3_
        have BK251 := n4_
        have HB := n5_
        clear n0_ n1_ n2_ n3_ n4_ n5_
        replace HO247 := Aside0.mk (Kd.R_drew HO247.out)
        replace BK235 := Aside0.mk (blk_drew BK235.out)
        replace BK236 := Aside0.mk (blk_drew BK236.out)
        replace BK244 := Aside0.mk (blk_drew BK244.out)
        replace BK251 := Aside0.mk (blk_drew BK251.out)
        replace HB := Aside0.mk (below_drew1 HB.out)
        refine start_ (n := 7) (S := fun w' => w'.cell? ⟨gb251, 0, none⟩ = some (.bool t248) ∧ w'.cell? ⟨gb251, 1, none⟩ = some (.int .u64 t249) ∧ w'.cell? ⟨gb251, 2, none⟩ = some (.int .u64 t250)) (ds := []) (bm_ 7 0) (by kernel_rfl) rfl rfl ⟨kc_ BK251 0, kc_ BK251 1, kc_ BK251 2⟩ (fun hHeld => ?_)
        generalize w76.drew = w77 at HO247 BK235 BK236 BK244 BK251 HB HO247 hHeld ⊢
        refine take_ (i := 0) (N := some 44) (v := ?_) (a' := ?_) (bm_ 7 1) rfl rfl (by kernel_rfl) (fun _ _ _ h => h) (Or.inl ⟨by rfl, ?_⟩) hHeld ?_ ?_
        rotate_left
        ·
         rintro w' ⟨s0, s1, s2⟩
         go_simp
         with_reducible rfl
        rotate_left
        ·
         simp only [Act.put, List.setIfInBounds_toArray, List.set_cons_zero, List.set_cons_succ, i64_w, i32_w]
         rfl
        refine one_ (i := 1) (N := some 45) (bm_ 7 3) rfl rfl (by kernel_rfl) (by decide) (fun K hK => ?_)
        refine gr_ Tryz.func59 #[.int .u64 1] ?_
        with_reducible refine (num_Of.calls 1 t252 t253 _ A57.out).mono ?_
        rintro e w78 ⟨rfl, hb⟩
        refine ⟨_, rfl, ?_⟩
        replace HO247 := Aside0.mk (Kd.R_below (by (with_reducible repeat (first | apply Kd.R_alloc | apply Kd.R_drewN | apply Kd.R_drew)); exact HO247.out) hb)
        replace BK235 := bb_ BK235 hb
        replace BK236 := bb_ BK236 hb
        replace BK244 := bb_ BK244 hb
        replace BK251 := bb_ BK251 hb
        replace HB := bs_ HB hb
        (try clear hb)
        (try clear hb2)
        (try clear hk)
        (try clear hi)
        refine hK.out _ _ ⟨kc_ BK251 0, kc_ BK251 1, kc_ BK251 2⟩ (fun hHeld => ?_)
        clear hK K
        refine norm_ (a' := ?_) ?_ ?_
        rotate_left
        ·
         show Act.put _ (some 45) _ = _
         simp only [Act.put, List.setIfInBounds_toArray, List.set_cons_zero, List.set_cons_succ, i64_w, i32_w]
         rfl
        refine one_ (i := 2) (N := some 46) (bm_ 7 7) rfl rfl (by kernel_rfl) (by decide) (fun K hK => ?_)
        refine gr_ Tryz.func14 #[.agg #[.bool t248, .int .u64 t249, .int .u64 t250], .agg #[.int .u64 t252, .int .u64 t253]] ?_
        with_reducible refine (addr_Plus.calls t248 t249 t250 t252 t253 t254 t255 t256 t257 _ A58.out).mono ?_
        rintro e w79 ⟨rfl, hb⟩
        refine ⟨_, rfl, ?_⟩
        replace HO247 := Aside0.mk (Kd.R_below (by (with_reducible repeat (first | apply Kd.R_alloc | apply Kd.R_drewN | apply Kd.R_drew)); exact HO247.out) hb)
        replace BK235 := bb_ BK235 hb
        replace BK236 := bb_ BK236 hb
        replace BK244 := bb_ BK244 hb
        replace BK251 := bb_ BK251 hb
        replace HB := bs_ HB hb
        (try clear hb)
        (try clear hb2)
        (try clear hk)
        (try clear hi)
        refine hK.out _ _ ⟨kc_ BK251 0, kc_ BK251 1, kc_ BK251 2⟩ (fun hHeld => ?_)
        clear hK K
        refine norm_ (a' := ?_) ?_ ?_
        rotate_left
        ·
         show Act.put _ (some 46) _ = _
         simp only [Act.put, List.setIfInBounds_toArray, List.set_cons_zero, List.set_cons_succ, i64_w, i32_w]
         rfl
        refine pure_ (i := 3) (N := some 43) (v := ?_) (a' := ?_) (bm_ 7 15) rfl rfl (by kernel_rfl) (fun _ _ _ h => h) (Or.inl ⟨by rfl, ?_⟩) ?_ ?_
        rotate_left
        ·
         intro w'
         go_simp
         with_reducible rfl
        rotate_left
        ·
         simp only [Act.put, List.setIfInBounds_toArray, List.set_cons_zero, List.set_cons_succ, i64_w, i32_w]
         rfl
        refine pure_ (i := 4) (N := some 47) (v := ?_) (a' := ?_) (bm_ 7 31) rfl rfl (by kernel_rfl) (fun _ _ _ h => h) (Or.inl ⟨by rfl, ?_⟩) ?_ ?_
        rotate_left
        ·
         intro w'
         go_simp
         with_reducible rfl
        rotate_left
        ·
         simp only [Act.put, List.setIfInBounds_toArray, List.set_cons_zero, List.set_cons_succ, i64_w, i32_w]
         rfl
        refine pure_ (i := 5) (N := some 48) (v := ?_) (a' := ?_) (bm_ 7 63) rfl rfl (by kernel_rfl) (fun _ _ _ h => h) (Or.inl ⟨by rfl, ?_⟩) ?_ ?_
        rotate_left
        ·
         intro w'
         go_simp
         with_reducible rfl
        rotate_left
        ·
         simp only [Act.put, List.setIfInBounds_toArray, List.set_cons_zero, List.set_cons_succ, i64_w, i32_w]
         rfl
        refine one_ (i := 6) (N := none) (bm_ 7 127) rfl rfl (by kernel_rfl) (by decide) (fun K hK => ?_)
        have hs80 : w79.cell? ⟨gb235, 0, none⟩ = some (.bool x236000_2) := kc_ BK235 0
        have hfs80 := blk_frozen BK235.out 0
        have hns80_1 := NB236_235.out
        have hns80_2 := NB244_235.out
        have hns80_3 := NB251_235.out
        have hms80_1 := NB235_236.out
        have hms80_2 := NB235_244.out
        have hms80_3 := NB235_251.out
        have hs81 : w79.cell? ⟨gb235, 1, none⟩ = some (.int .u64 x236001_2) := kc_ BK235 1
        have hfs81 := blk_frozen BK235.out 1
        have hns81_1 := NB236_235.out
        have hns81_2 := NB244_235.out
        have hns81_3 := NB251_235.out
        have hms81_1 := NB235_236.out
        have hms81_2 := NB235_244.out
        have hms81_3 := NB235_251.out
        have hs82 : w79.cell? ⟨gb235, 2, none⟩ = some (.int .u64 x236002_2) := kc_ BK235 2
        have hfs82 := blk_frozen BK235.out 2
        have hns82_1 := NB236_235.out
        have hns82_2 := NB244_235.out
        have hns82_3 := NB251_235.out
        have hms82_1 := NB235_236.out
        have hms82_2 := NB235_244.out
        have hms82_3 := NB235_251.out
        refine skip_ (w1 := ?_) (by rfl) rfl ?_ ?_
        rotate_left
        ·
         go_simp
         rfl
        refine hK.out _ _ ⟨((cell_far (p := ⟨gb235, _, none⟩) NB251_235.out _).trans (((cell_far (p := ⟨gb235, _, none⟩) NB251_235.out _).trans (((cell_far (p := ⟨gb235, _, none⟩) NB251_235.out _).trans (hHeld.1)))))), ((cell_far (p := ⟨gb235, _, none⟩) NB251_235.out _).trans (((cell_far (p := ⟨gb235, _, none⟩) NB251_235.out _).trans (((cell_far (p := ⟨gb235, _, none⟩) NB251_235.out _).trans (hHeld.2.1)))))), ((cell_far (p := ⟨gb235, _, none⟩) NB251_235.out _).trans (((cell_far (p := ⟨gb235, _, none⟩) NB251_235.out _).trans (((cell_far (p := ⟨gb235, _, none⟩) NB251_235.out _).trans (hHeld.2.2))))))⟩ (fun hHeld => ?_)
        clear hK K
        refine done_ (by kernel_rfl) ?_
        try go_wp2
        go_roundg k2
        case measure => have := HJ2.out; have := HK2.out; omega
        case rel => exact ⟨(y245), (t254), (t255), (t256), H', ⟨by have := HJ2.out; have := HK2.out; omega⟩, ⟨by (with_reducible repeat (first | apply Kd.R_alloc | apply Kd.R_drewN | apply Kd.R_drew)); exact Kd.R_mono (Kd.R_far (p := ⟨gb235, 2, none⟩) (Kd.R_far (p := ⟨gb235, 1, none⟩) (Kd.R_far (p := ⟨gb235, 0, none⟩) (Kd.R_types HO247.out BK235.out (by decide)) (fun _ hk => hk.2) (.bool t254)) (fun _ hk => hk.2) (.int .u64 t255)) (fun _ hk => hk.2) (.int .u64 t256)) (fun _ hk => trivial)⟩, ⟨by refine pw_ ?_; refine blk_put (cs := #[.bool t254, .int .u64 t255, .int .u64 x236002_2]) ?_ 2 _ rfl; refine pw_ ?_; refine blk_put (cs := #[.bool t254, .int .u64 x236001_2, .int .u64 x236002_2]) ?_ 1 _ rfl; refine pw_ ?_; refine blk_put (cs := #[.bool x236000_2, .int .u64 x236001_2, .int .u64 x236002_2]) ?_ 0 _ rfl; refine pw_ ?_; exact BK235.out⟩, ⟨by refine pw_ ?_; refine blk_far ?_ NB236_235.out _; refine pw_ ?_; refine blk_far ?_ NB236_235.out _; refine pw_ ?_; refine blk_far ?_ NB236_235.out _; refine pw_ ?_; exact BK236.out⟩, ⟨pb_ HB⟩⟩
      ·
       rw [if_neg c37] at H
       exact absurd H (by simp)

def addr_V4.f (a0 : Int) : Option (Bool × Int × Int) := (num_Of.f (IntKind.u64.wrap (a0))).bind fun bt259 => (some (false, bt259.1, bt259.2))
set_option maxHeartbeats 8000000 in
set_option maxRecDepth 100000 in
theorem addr_V4.calls (a0 : Int) (r1 : Bool) (r2 : Int) (r3 : Int) (w : World) (h : addr_V4.f a0 = some (r1, r2, r3)) :
  Calls Tryz.prog 88 #[.int .u32 a0] w fun e w' => e = .returned (.agg #[.bool r1, .int .u64 r2, .int .u64 r3]) ∧ Below w.heap.size w w' := by
 have hu26 := Tryz.underlying26
 have HB := Aside0.mk (Below.refl w.heap.size w)
 have H : ((num_Of.f (IntKind.u64.wrap (a0))).bind fun bt259 => (some (false, bt259.1, bt259.2))) = some (r1, r2, r3) := h
 clear h
 replace H := Option.bind_eq_some_iff.mp H
 obtain ⟨⟨t259, t260⟩, A20, H⟩ := H
 replace H : (some (false, t259, t260)) = some (r1, r2, r3) := H
 have A2 := Aside0.mk A20
 clear A20
 simp only [Option.some.injEq, Prod.mk.injEq] at H
 obtain ⟨rfl, rfl, rfl⟩ := H
 go_enter Tryz.func88, Tryz.ntmps88
 go_wp2_with (first | ((with_reducible refine gate_dst (N := 2) rfl ?_); refine bx_ 2 #[.bool false, .int .u64 0, .int .u64 0] 26 ?_; intro gb258 hg w3 hbox hb; have BK258 := Aside0.mk (hbox); have GW258 := gw_ HB hg; have GE258 := gw_ HB hg; replace HB := bs_ HB hb; clear hb hbox hg) | ((with_reducible refine gate_callee (f := 59) rfl ?_); refine gl_ (some 5) Tryz.func59 #[.int .u64 (IntKind.u64.wrap (a0))] ?_; (with_reducible refine (num_Of.calls (IntKind.u64.wrap (a0)) t259 t260 _ A2.out).mono ?_); rintro e w4 ⟨rfl, hb⟩; refine ⟨_, rfl, ?_⟩; replace BK258 := bb_ BK258 hb; replace HB := bs_ HB hb; (try clear hb); (try clear hb2); (try clear hk); (try clear hi); obtain ⟨hcz5_0, hcz5_1, hcz5_2, hfz5_0, hfz5_1, hfz5_2⟩ := c3_ BK258))
 refine bodyPost_ret (results_cell_row rfl _ _ gb258 26 #[.bool false, .int .u64 t259, .int .u64 t260] (0, 0) _ rfl (by refine pw_ ?_; refine blk_put (cs := #[.bool false, .int .u64 t259, .int .u64 0]) ?_ 2 _ rfl; refine pw_ ?_; refine blk_put (cs := #[.bool false, .int .u64 0, .int .u64 0]) ?_ 1 _ rfl; refine pw_ ?_; refine blk_put (cs := #[.bool false, .int .u64 0, .int .u64 0]) ?_ 0 _ rfl; refine pw_ ?_; exact BK258.out) Tryz.underlying26 rfl (by kernel_rfl)) rfl ?_
 exact ⟨by first | rfl | (simp [errW_none, errW_some] <;> rfl) | (simp [*, errW_none, errW_some] <;> rfl), pb_ HB⟩

end Go.Proofs.YtgdgklibilddgaaGreatDoor.PSp

namespace Go.Proofs.YtgdgklibilddgaaGreatDoor.PSp
open Go.RowKit Go.Proofs.YtgdgklibilddgaaGreatDoorW.PrintWords Go.Proofs.YtgdgklibilddgaaGreatDoorW.PrintLast Go.Proofs.YtgdgklibilddgaaGreatDoorW.PrintMore
attribute [local go_sem] max2_int min2_int max_two min_two max_three min_three max_four min_four   -- for this text's walks alone

def carve_Block.f (a0_0 : Bool) (a0_1 : Int) (a0_2 : Int) (a0_3 : Int) (a1 : Int) (a2_0 : Int) (a2_1 : Int) : Option (Bool × Int × Int × Int × Int) := (carve_cuts.f a0_0 a0_1 a0_2 a0_3 a1).bind fun t207 => (if t207 = true then ((num_Len.f a2_0 a2_1).bind fun t208 => (if t208 > (wrap64 (a1 - a0_3)) then (some (false, 0, 0, 0, 12)) else ((addr_Width.f a0_0 a0_1 a0_2).bind fun t210 => ((num_Shl.f a2_0 a2_1 (wrap64 (t210 - a1))).bind fun bt211 => ((num_Or.f a0_1 a0_2 bt211.1 bt211.2).bind fun bt213 => (some (a0_0, bt213.1, bt213.2, a1, 0))))))) else (some (false, 0, 0, 0, 1)))
def carve_Block.T3 : Bool × List (List Nat × List Nat) := (true, [([], []), ([0], [0]), ([], []), ([], []), ([3], [3]), ([2, 4], [2, 4]), ([1, 5], [1, 5]), ([6, 1], [6])])
def carve_Block.B3 : List Nat := [0, 1, 0, 0, 8, 28, 63, 127]
theorem carve_Block.tab3 : rtab .any (opsOf Tryz.f49 3) = carve_Block.T3 := by kernel_rfl
theorem carve_Block.bits3 : waitsOk carve_Block.T3.2 carve_Block.B3 = true := by kernel_rfl
def carve_Block.T6 : Bool × List (List Nat × List Nat) := (true, [([], []), ([0], [0]), ([], []), ([], []), ([3], [3]), ([], []), ([4, 5], [4, 5]), ([2, 6, 4], [2, 6]), ([1, 7, 7], [1, 7]), ([0, 1, 2, 3, 4, 5, 6, 7, 8], []), ([9, 8, 8, 0, 1, 2, 3, 4, 5, 6, 7, 8], [8, 9])])
def carve_Block.B6 : List Nat := [0, 1, 0, 0, 8, 0, 56, 124, 255, 511, 1023]
theorem carve_Block.tab6 : rtab .any (opsOf Tryz.f49 6) = carve_Block.T6 := by kernel_rfl
theorem carve_Block.bits6 : waitsOk carve_Block.T6.2 carve_Block.B6 = true := by kernel_rfl
set_option maxHeartbeats 8000000 in
set_option maxRecDepth 100000 in
theorem carve_Block.calls (a0_0 : Bool) (a0_1 : Int) (a0_2 : Int) (a0_3 : Int) (a1 : Int) (a2_0 : Int) (a2_1 : Int) (r1 : Bool) (r2 : Int) (r3 : Int) (r4 : Int) (r5 : Int) (w : World) (h : carve_Block.f a0_0 a0_1 a0_2 a0_3 a1 a2_0 a2_1 = some (r1, r2, r3, r4, r5)) :
  Calls Tryz.prog 49 #[.agg #[.bool a0_0, .int .u64 a0_1, .int .u64 a0_2, .int .i64 a0_3], .int .i64 a1, .agg #[.int .u64 a2_0, .int .u64 a2_1]] w fun e w' => e = .returned (.tuple #[.agg #[.bool r1, .int .u64 r2, .int .u64 r3, .int .i64 r4], .int .i64 r5]) ∧ Below w.heap.size w w' := by
 have hu38 := Tryz.underlying38
 have hu24 := Tryz.underlying24
 have hu26 := Tryz.underlying26
 have HB := Aside0.mk (Below.refl w.heap.size w)
 have H : ((carve_cuts.f a0_0 a0_1 a0_2 a0_3 a1).bind fun t207 => (if t207 = true then ((num_Len.f a2_0 a2_1).bind fun t208 => (if t208 > (wrap64 (a1 - a0_3)) then (some (false, 0, 0, 0, 12)) else ((addr_Width.f a0_0 a0_1 a0_2).bind fun t210 => ((num_Shl.f a2_0 a2_1 (wrap64 (t210 - a1))).bind fun bt211 => ((num_Or.f a0_1 a0_2 bt211.1 bt211.2).bind fun bt213 => (some (a0_0, bt213.1, bt213.2, a1, 0))))))) else (some (false, 0, 0, 0, 1)))) = some (r1, r2, r3, r4, r5) := h
 clear h
 replace H := Option.bind_eq_some_iff.mp H
 obtain ⟨t207, A40, H⟩ := H
 replace H : (if t207 = true then ((num_Len.f a2_0 a2_1).bind fun t208 => (if t208 > (wrap64 (a1 - a0_3)) then (some (false, 0, 0, 0, 12)) else ((addr_Width.f a0_0 a0_1 a0_2).bind fun t210 => ((num_Shl.f a2_0 a2_1 (wrap64 (t210 - a1))).bind fun bt211 => ((num_Or.f a0_1 a0_2 bt211.1 bt211.2).bind fun bt213 => (some (a0_0, bt213.1, bt213.2, a1, 0))))))) else (some (false, 0, 0, 0, 1))) = some (r1, r2, r3, r4, r5) := H
 have A4 := Aside0.mk A40
 clear A40
 by_cases c5 : t207 = true
 ·
  subst c5
  rw [if_pos rfl] at H
  replace H := Option.bind_eq_some_iff.mp H
  obtain ⟨t208, A60, H⟩ := H
  replace H : (if t208 > (wrap64 (a1 - a0_3)) then (some (false, 0, 0, 0, 12)) else ((addr_Width.f a0_0 a0_1 a0_2).bind fun t210 => ((num_Shl.f a2_0 a2_1 (wrap64 (t210 - a1))).bind fun bt211 => ((num_Or.f a0_1 a0_2 bt211.1 bt211.2).bind fun bt213 => (some (a0_0, bt213.1, bt213.2, a1, 0)))))) = some (r1, r2, r3, r4, r5) := H
  have A6 := Aside0.mk A60
  clear A60
  by_cases c7 : t208 > (wrap64 (a1 - a0_3))
  ·
   rw [if_pos c7] at H
   have c7b0 : decide ((wrap64 (a1 - a0_3)) < t208) = true := decide_eq_true c7
   clear c7
   simp only [Option.some.injEq, Prod.mk.injEq] at H
   obtain ⟨rfl, rfl, rfl, rfl, rfl⟩ := H
   go_enter Tryz.func49, Tryz.ntmps49
   try go_wp2_with (first | ((with_reducible refine gate_dst (N := 3) rfl ?_); refine bx_ 3 #[.bool a0_0, .int .u64 a0_1, .int .u64 a0_2, .int .i64 a0_3] 38 ?_; intro gb204 hg w8 hbox hb; have BK204 := Aside0.mk (hbox); have GW204 := gw_ HB hg; have GE204 := gw_ HB hg; replace HB := bs_ HB hb; clear hb hbox hg) | ((with_reducible refine gate_dst (N := 5) rfl ?_); refine bx_ 5 #[.int .u64 a2_0, .int .u64 a2_1] 24 ?_; intro gb205 hg w9 hbox hb; have BK205 := Aside0.mk (hbox); have GW205 := gw_ HB hg; have GE205 := gw_ HB hg; have NB204_205 := nl_ BK204 hg; have NB205_204 := ng_ BK204 hg; replace BK204 := bb_ BK204 hb; replace HB := bs_ HB hb; clear hb hbox hg) | ((with_reducible refine gate_dst (N := 6) rfl ?_); refine bx_ 6 #[.bool false, .int .u64 0, .int .u64 0, .int .i64 0] 38 ?_; intro gb206 hg w10 hbox hb; have BK206 := Aside0.mk (hbox); have GW206 := gw_ HB hg; have GE206 := gw_ HB hg; have NB204_206 := nl_ BK204 hg; have NB206_204 := ng_ BK204 hg; have NB205_206 := nl_ BK205 hg; have NB206_205 := ng_ BK205 hg; replace BK204 := bb_ BK204 hb; replace BK205 := bb_ BK205 hb; replace HB := bs_ HB hb; clear hb hbox hg; have hnb11 := NB204_205.out; have hnc11 := NB205_204.out; have hnb12 := NB204_206.out; have hnc12 := NB206_204.out; obtain ⟨hcz13_0, hcz13_1, hcz13_2, hcz13_3, hfz13_0, hfz13_1, hfz13_2, hfz13_3⟩ := c4_ BK204) | ((with_reducible refine gate_callee (f := 89) rfl ?_); refine gl_ (some 12) Tryz.func89 #[.agg #[.bool a0_0, .int .u64 a0_1, .int .u64 a0_2, .int .i64 a0_3], .int .i64 a1] ?_; (with_reducible refine (carve_cuts.calls a0_0 a0_1 a0_2 a0_3 a1 true _ A4.out).mono ?_); rintro e w14 ⟨rfl, hb⟩; refine ⟨_, rfl, ?_⟩; replace BK204 := bb_ BK204 hb; replace BK205 := bb_ BK205 hb; replace BK206 := bb_ BK206 hb; replace HB := bs_ HB hb; (try clear hb); (try clear hb2); (try clear hk); (try clear hi)))
   replace BK204 := Aside0.mk (blk_drew BK204.out)
   replace BK205 := Aside0.mk (blk_drew BK205.out)
   replace BK206 := Aside0.mk (blk_drew BK206.out)
   replace HB := Aside0.mk (below_drew1 HB.out)
   refine start_ (n := 8) (S := fun w' => w'.cell? ⟨gb205, 0, none⟩ = some (.int .u64 a2_0) ∧ w'.cell? ⟨gb205, 1, none⟩ = some (.int .u64 a2_1) ∧ w'.cell? ⟨gb204, 0, none⟩ = some (.bool a0_0) ∧ w'.cell? ⟨gb204, 1, none⟩ = some (.int .u64 a0_1) ∧ w'.cell? ⟨gb204, 2, none⟩ = some (.int .u64 a0_2) ∧ w'.cell? ⟨gb204, 3, none⟩ = some (.int .i64 a0_3)) (ds := []) (bm_ 8 0) (by kernel_rfl) rfl rfl ⟨kc_ BK205 0, kc_ BK205 1, kc_ BK204 0, kc_ BK204 1, kc_ BK204 2, kc_ BK204 3⟩ (fun hHeld => ?_); refine with_tabW carve_Block.tab3 carve_Block.bits3 (fun HT_ HW_ => ?_)
   generalize w14.drew = w15 at BK204 BK205 BK206 HB hHeld ⊢
   refine pu_ 2 (some 18) (bm_ 8 4) rfl HT_ ⟨by rfl, by intro w'; go_simp; with_reducible rfl⟩ ?_
   refine pu_ 3 (some 19) (bm_ 8 12) rfl HT_ ⟨by rfl, by intro w'; go_simp; with_reducible rfl⟩ ?_
   refine ta_ 0 (some 16) (bm_ 8 13) rfl HT_ HW_ ⟨by rfl, by rintro w' ⟨s0, s1, s2, s3, s4, s5⟩; go_simp; with_reducible rfl⟩ hHeld ?_
   refine ta_ 4 (some 20) (bm_ 8 29) rfl HT_ HW_ ⟨by rfl, by rintro w' ⟨s0, s1, s2, s3, s4, s5⟩; go_simp; with_reducible rfl⟩ hHeld ?_
   refine pu_ 5 (some 21) (bm_ 8 61) rfl HT_ ⟨by rfl, by intro w'; go_simp; with_reducible rfl⟩ ?_
   refine one_ (i := 1) (N := some 17) (bm_ 8 63) rfl rfl (one_of HT_.out (by kernel_rfl)) (by decide) (fun K hK => ?_)
   refine gr_ Tryz.func70 #[.agg #[.int .u64 a2_0, .int .u64 a2_1]] ?_
   with_reducible refine (num_Len.calls a2_0 a2_1 t208 _ A6.out).mono ?_
   rintro e w16 ⟨rfl, hb⟩
   refine ⟨_, rfl, ?_⟩
   replace BK204 := bb_ BK204 hb
   replace BK205 := bb_ BK205 hb
   replace BK206 := bb_ BK206 hb
   replace HB := bs_ HB hb
   (try clear hb)
   (try clear hb2)
   (try clear hk)
   (try clear hi)
   refine hK.out _ _ ⟨kc_ BK205 0, kc_ BK205 1, kc_ BK204 0, kc_ BK204 1, kc_ BK204 2, kc_ BK204 3⟩ (fun hHeld => ?_)
   clear hK K
   refine norm_ (a' := ?_) ?_ ?_
   rotate_left
   ·
    show Act.put _ (some 17) _ = _
    simp only [Act.put, List.setIfInBounds_toArray, List.set_cons_zero, List.set_cons_succ, i64_w, i32_w]
    rfl
   refine pu_ 6 (some 22) (bm_ 8 127) rfl HT_ ⟨by rfl, by intro w'; go_simp; with_reducible rfl⟩ ?_
   refine pu_ 7 (some 15) (bm_ 8 255) rfl HT_ ⟨by rfl, by intro w'; go_simp; with_reducible rfl⟩ ?_
   refine done_ (done_of HT_.out (by kernel_rfl)) ?_
   have hnb17 := NB206_205.out
   have hnc17 := NB205_206.out
   obtain ⟨hcz18_0, hcz18_1, hcz18_2, hcz18_3, hfz18_0, hfz18_1, hfz18_2, hfz18_3⟩ := c4_ BK206
   try go_wp2
   refine bodyPost_ret (results_ct rfl _ _ gb206 38 #[.bool false, .int .u64 0, .int .u64 0, .int .i64 0] (0, 0) _ rfl (by refine pw_ ?_; refine blk_put (cs := #[.bool false, .int .u64 0, .int .u64 0, .int .i64 0]) ?_ 3 _ rfl; refine pw_ ?_; refine blk_put (cs := #[.bool false, .int .u64 0, .int .u64 0, .int .i64 0]) ?_ 2 _ rfl; refine pw_ ?_; refine blk_put (cs := #[.bool false, .int .u64 0, .int .u64 0, .int .i64 0]) ?_ 1 _ rfl; refine pw_ ?_; refine blk_put (cs := #[.bool false, .int .u64 0, .int .u64 0, .int .i64 0]) ?_ 0 _ rfl; refine pw_ ?_; exact BK206.out) Tryz.underlying38 rfl (by kernel_rfl)) rfl ?_
   exact ⟨by first | rfl | (simp [errW_none, errW_some] <;> rfl) | (simp [*, errW_none, errW_some] <;> rfl), pb_ HB⟩
  ·
   rw [if_neg c7] at H
   have c7b0 : decide ((wrap64 (a1 - a0_3)) < t208) = false := decide_eq_false c7
   clear c7
   replace H := Option.bind_eq_some_iff.mp H
   obtain ⟨t210, A190, H⟩ := H
   replace H : ((num_Shl.f a2_0 a2_1 (wrap64 (t210 - a1))).bind fun bt211 => ((num_Or.f a0_1 a0_2 bt211.1 bt211.2).bind fun bt213 => (some (a0_0, bt213.1, bt213.2, a1, 0)))) = some (r1, r2, r3, r4, r5) := H
   have A19 := Aside0.mk A190
   clear A190
   replace H := Option.bind_eq_some_iff.mp H
   obtain ⟨⟨t211, t212⟩, A200, H⟩ := H
   replace H : ((num_Or.f a0_1 a0_2 t211 t212).bind fun bt213 => (some (a0_0, bt213.1, bt213.2, a1, 0))) = some (r1, r2, r3, r4, r5) := H
   have A20 := Aside0.mk A200
   clear A200
   replace H := Option.bind_eq_some_iff.mp H
   obtain ⟨⟨t213, t214⟩, A210, H⟩ := H
   replace H : (some (a0_0, t213, t214, a1, 0)) = some (r1, r2, r3, r4, r5) := H
   have A21 := Aside0.mk A210
   clear A210
   simp only [Option.some.injEq, Prod.mk.injEq] at H
   obtain ⟨rfl, rfl, rfl, rfl, rfl⟩ := H
   go_enter Tryz.func49, Tryz.ntmps49
   try go_wp2_with (first | ((with_reducible refine gate_dst (N := 3) rfl ?_); refine bx_ 3 #[.bool a0_0, .int .u64 a0_1, .int .u64 a0_2, .int .i64 a0_3] 38 ?_; intro gb204 hg w22 hbox hb; have BK204 := Aside0.mk (hbox); have GW204 := gw_ HB hg; have GE204 := gw_ HB hg; replace HB := bs_ HB hb; clear hb hbox hg) | ((with_reducible refine gate_dst (N := 5) rfl ?_); refine bx_ 5 #[.int .u64 a2_0, .int .u64 a2_1] 24 ?_; intro gb205 hg w23 hbox hb; have BK205 := Aside0.mk (hbox); have GW205 := gw_ HB hg; have GE205 := gw_ HB hg; have NB204_205 := nl_ BK204 hg; have NB205_204 := ng_ BK204 hg; replace BK204 := bb_ BK204 hb; replace HB := bs_ HB hb; clear hb hbox hg) | ((with_reducible refine gate_dst (N := 6) rfl ?_); refine bx_ 6 #[.bool false, .int .u64 0, .int .u64 0, .int .i64 0] 38 ?_; intro gb206 hg w24 hbox hb; have BK206 := Aside0.mk (hbox); have GW206 := gw_ HB hg; have GE206 := gw_ HB hg; have NB204_206 := nl_ BK204 hg; have NB206_204 := ng_ BK204 hg; have NB205_206 := nl_ BK205 hg; have NB206_205 := ng_ BK205 hg; replace BK204 := bb_ BK204 hb; replace BK205 := bb_ BK205 hb; replace HB := bs_ HB hb; clear hb hbox hg; have hnb25 := NB204_205.out; have hnc25 := NB205_204.out; have hnb26 := NB204_206.out; have hnc26 := NB206_204.out; obtain ⟨hcz27_0, hcz27_1, hcz27_2, hcz27_3, hfz27_0, hfz27_1, hfz27_2, hfz27_3⟩ := c4_ BK204) | ((with_reducible refine gate_callee (f := 89) rfl ?_); refine gl_ (some 12) Tryz.func89 #[.agg #[.bool a0_0, .int .u64 a0_1, .int .u64 a0_2, .int .i64 a0_3], .int .i64 a1] ?_; (with_reducible refine (carve_cuts.calls a0_0 a0_1 a0_2 a0_3 a1 true _ A4.out).mono ?_); rintro e w28 ⟨rfl, hb⟩; refine ⟨_, rfl, ?_⟩; replace BK204 := bb_ BK204 hb; replace BK205 := bb_ BK205 hb; replace BK206 := bb_ BK206 hb; replace HB := bs_ HB hb; (try clear hb); (try clear hb2); (try clear hk); (try clear hi)))
   replace BK204 := Aside0.mk (blk_drew BK204.out)
   replace BK205 := Aside0.mk (blk_drew BK205.out)
   replace BK206 := Aside0.mk (blk_drew BK206.out)
   replace HB := Aside0.mk (below_drew1 HB.out)
   refine start_ (n := 8) (S := fun w' => w'.cell? ⟨gb205, 0, none⟩ = some (.int .u64 a2_0) ∧ w'.cell? ⟨gb205, 1, none⟩ = some (.int .u64 a2_1) ∧ w'.cell? ⟨gb204, 0, none⟩ = some (.bool a0_0) ∧ w'.cell? ⟨gb204, 1, none⟩ = some (.int .u64 a0_1) ∧ w'.cell? ⟨gb204, 2, none⟩ = some (.int .u64 a0_2) ∧ w'.cell? ⟨gb204, 3, none⟩ = some (.int .i64 a0_3)) (ds := []) (bm_ 8 0) (by kernel_rfl) rfl rfl ⟨kc_ BK205 0, kc_ BK205 1, kc_ BK204 0, kc_ BK204 1, kc_ BK204 2, kc_ BK204 3⟩ (fun hHeld => ?_); refine with_tabW carve_Block.tab3 carve_Block.bits3 (fun HT_ HW_ => ?_)
   generalize w28.drew = w29 at BK204 BK205 BK206 HB hHeld ⊢
   refine pu_ 2 (some 18) (bm_ 8 4) rfl HT_ ⟨by rfl, by intro w'; go_simp; with_reducible rfl⟩ ?_
   refine pu_ 3 (some 19) (bm_ 8 12) rfl HT_ ⟨by rfl, by intro w'; go_simp; with_reducible rfl⟩ ?_
   refine ta_ 0 (some 16) (bm_ 8 13) rfl HT_ HW_ ⟨by rfl, by rintro w' ⟨s0, s1, s2, s3, s4, s5⟩; go_simp; with_reducible rfl⟩ hHeld ?_
   refine ta_ 4 (some 20) (bm_ 8 29) rfl HT_ HW_ ⟨by rfl, by rintro w' ⟨s0, s1, s2, s3, s4, s5⟩; go_simp; with_reducible rfl⟩ hHeld ?_
   refine pu_ 5 (some 21) (bm_ 8 61) rfl HT_ ⟨by rfl, by intro w'; go_simp; with_reducible rfl⟩ ?_
   refine one_ (i := 1) (N := some 17) (bm_ 8 63) rfl rfl (one_of HT_.out (by kernel_rfl)) (by decide) (fun K hK => ?_)
   refine gr_ Tryz.func70 #[.agg #[.int .u64 a2_0, .int .u64 a2_1]] ?_
   with_reducible refine (num_Len.calls a2_0 a2_1 t208 _ A6.out).mono ?_
   rintro e w30 ⟨rfl, hb⟩
   refine ⟨_, rfl, ?_⟩
   replace BK204 := bb_ BK204 hb
   replace BK205 := bb_ BK205 hb
   replace BK206 := bb_ BK206 hb
   replace HB := bs_ HB hb
   (try clear hb)
   (try clear hb2)
   (try clear hk)
   (try clear hi)
   refine hK.out _ _ ⟨kc_ BK205 0, kc_ BK205 1, kc_ BK204 0, kc_ BK204 1, kc_ BK204 2, kc_ BK204 3⟩ (fun hHeld => ?_)
   clear hK K
   refine norm_ (a' := ?_) ?_ ?_
   rotate_left
   ·
    show Act.put _ (some 17) _ = _
    simp only [Act.put, List.setIfInBounds_toArray, List.set_cons_zero, List.set_cons_succ, i64_w, i32_w]
    rfl
   refine pu_ 6 (some 22) (bm_ 8 127) rfl HT_ ⟨by rfl, by intro w'; go_simp; with_reducible rfl⟩ ?_
   refine pu_ 7 (some 15) (bm_ 8 255) rfl HT_ ⟨by rfl, by intro w'; go_simp; with_reducible rfl⟩ ?_
   refine done_ (done_of HT_.out (by kernel_rfl)) ?_
   obtain ⟨hcz31_0, hcz31_1, hcz31_2, hcz31_3, hfz31_0, hfz31_1, hfz31_2, hfz31_3⟩ := c4_ BK204
   try go_wp2_with (first | ((with_reducible refine gate_dst (N := 8) rfl ?_); refine bx_ 8 #[.bool false, .int .u64 0, .int .u64 0] 26 ?_; intro gb209 hg w32 hbox hb; have BK209 := Aside0.mk (hbox); have GW209 := gw_ HB hg; have GE209 := gw_ HB hg; have NB204_209 := nl_ BK204 hg; have NB209_204 := ng_ BK204 hg; have NB205_209 := nl_ BK205 hg; have NB209_205 := ng_ BK205 hg; have NB206_209 := nl_ BK206 hg; have NB209_206 := ng_ BK206 hg; replace BK204 := bb_ BK204 hb; replace BK205 := bb_ BK205 hb; replace BK206 := bb_ BK206 hb; replace HB := bs_ HB hb; clear hb hbox hg; have hnb33 := NB209_204.out; have hnc33 := NB204_209.out; have hnb34 := NB209_205.out; have hnc34 := NB205_209.out; have hnb35 := NB209_206.out; have hnc35 := NB206_209.out; obtain ⟨hcz36_0, hcz36_1, hcz36_2, hfz36_0, hfz36_1, hfz36_2⟩ := c3_ BK209))
   have n0_ : Aside0 ((((w32.setCell ⟨gb209, 0, none⟩ (.bool a0_0)).setCell ⟨gb209, 1, none⟩ (.int .u64 a0_1)).setCell ⟨gb209, 2, none⟩ (.int .u64 a0_2)).heap[gb204]? = some (.cells #[.bool a0_0, .int .u64 a0_1, .int .u64 a0_2, .int .i64 a0_3] 38 (0, 0))) := ⟨by refine pw_ ?_; refine blk_far ?_ NB204_209.out _; refine pw_ ?_; refine blk_far ?_ NB204_209.out _; refine pw_ ?_; refine blk_far ?_ NB204_209.out _; refine pw_ ?_; exact BK204.out⟩
   have n1_ : Aside0 ((((w32.setCell ⟨gb209, 0, none⟩ (.bool a0_0)).setCell ⟨gb209, 1, none⟩ (.int .u64 a0_1)).setCell ⟨gb209, 2, none⟩ (.int .u64 a0_2)).heap[gb205]? = some (.cells #[.int .u64 a2_0, .int .u64 a2_1] 24 (0, 0))) := ⟨by refine pw_ ?_; refine blk_far ?_ NB205_209.out _; refine pw_ ?_; refine blk_far ?_ NB205_209.out _; refine pw_ ?_; refine blk_far ?_ NB205_209.out _; refine pw_ ?_; exact BK205.out⟩
   have n2_ : Aside0 ((((w32.setCell ⟨gb209, 0, none⟩ (.bool a0_0)).setCell ⟨gb209, 1, none⟩ (.int .u64 a0_1)).setCell ⟨gb209, 2, none⟩ (.int .u64 a0_2)).heap[gb206]? = some (.cells #[.bool false, .int .u64 0, .int .u64 0, .int .i64 0] 38 (0, 0))) := ⟨by refine pw_ ?_; refine blk_far ?_ NB206_209.out _; refine pw_ ?_; refine blk_far ?_ NB206_209.out _; refine pw_ ?_; refine blk_far ?_ NB206_209.out _; refine pw_ ?_; exact BK206.out⟩
   have n3_ : Aside0 ((((w32.setCell ⟨gb209, 0, none⟩ (.bool a0_0)).setCell ⟨gb209, 1, none⟩ (.int .u64 a0_1)).setCell ⟨gb209, 2, none⟩ (.int .u64 a0_2)).heap[gb209]? = some (.cells #[.bool a0_0, .int .u64 a0_1, .int .u64 a0_2] 26 (0, 0))) := ⟨by refine pw_ ?_; refine blk_put (cs := #[.bool a0_0, .int .u64 a0_1, .int .u64 0]) ?_ 2 _ rfl; refine pw_ ?_; refine blk_put (cs := #[.bool a0_0, .int .u64 0, .int .u64 0]) ?_ 1 _ rfl; refine pw_ ?_; refine blk_put (cs := #[.bool false, .int .u64 0, .int .u64 0]) ?_ 0 _ rfl; refine pw_ ?_; exact BK209.out⟩
   have n4_ : Aside0 (Below w.heap.size w (((w32.setCell ⟨gb209, 0, none⟩ (.bool a0_0)).setCell ⟨gb209, 1, none⟩ (.int .u64 a0_1)).setCell ⟨gb209, 2, none⟩ (.int .u64 a0_2))) := ⟨pb_ HB⟩
   (try clear BK204)
   (try clear BK205)
   (try clear BK206)
   (try clear BK209)
   (try clear HB)
   generalize (((w32.setCell ⟨gb209, 0, none⟩ (.bool a0_0)).setCell ⟨gb209, 1, none⟩ (.int .u64 a0_1)).setCell ⟨gb209, 2, none⟩ (.int .u64 a0_2)) = w37 at n0_ n1_ n2_ n3_ n4_ ⊢
   have BK204 := n0_
   have BK205 := n1_
   have BK206 := n2_
   have BK209 := n3_
   have HB := n4_
   clear n0_ n1_ n2_ n3_ n4_
   replace BK204 := Aside0.mk (blk_drew BK204.out)
   replace BK205 := Aside0.mk (blk_drew BK205.out)
   replace BK206 := Aside0.mk (blk_drew BK206.out)
   replace BK209 := Aside0.mk (blk_drew BK209.out)
   replace HB := Aside0.mk (below_drew1 HB.out)
   refine start_ (n := 11) (S := fun w' => w'.cell? ⟨gb209, 0, none⟩ = some (.bool a0_0) ∧ w'.cell? ⟨gb209, 1, none⟩ = some (.int .u64 a0_1) ∧ w'.cell? ⟨gb209, 2, none⟩ = some (.int .u64 a0_2) ∧ w'.cell? ⟨gb205, 0, none⟩ = some (.int .u64 a2_0) ∧ w'.cell? ⟨gb205, 1, none⟩ = some (.int .u64 a2_1)) (ds := [10]) (bm_ 11 0) (by kernel_rfl) rfl rfl ⟨kc_ BK209 0, kc_ BK209 1, kc_ BK209 2, kc_ BK205 0, kc_ BK205 1⟩ (fun hHeld => ?_); refine with_tabW carve_Block.tab6 carve_Block.bits6 (fun HT_ HW_ => ?_)
   generalize w37.drew = w38 at BK204 BK205 BK206 BK209 HB hHeld ⊢
   refine pu_ 0 (some 26) (bm_ 11 1) rfl HT_ ⟨by rfl, by intro w'; go_simp; with_reducible rfl⟩ ?_
   refine pu_ 5 (some 31) (bm_ 11 33) rfl HT_ ⟨by rfl, by intro w'; go_simp; with_reducible rfl⟩ ?_
   refine ta_ 1 (some 27) (bm_ 11 35) rfl HT_ HW_ ⟨by rfl, by rintro w' ⟨s0, s1, s2, s3, s4⟩; go_simp; with_reducible rfl⟩ hHeld ?_
   refine ta_ 2 (some 28) (bm_ 11 39) rfl HT_ HW_ ⟨by rfl, by rintro w' ⟨s0, s1, s2, s3, s4⟩; go_simp; with_reducible rfl⟩ hHeld ?_
   refine ta_ 3 (some 29) (bm_ 11 47) rfl HT_ HW_ ⟨by rfl, by rintro w' ⟨s0, s1, s2, s3, s4⟩; go_simp; with_reducible rfl⟩ hHeld ?_
   refine one_ (i := 4) (N := some 30) (bm_ 11 63) rfl rfl (one_of HT_.out (by kernel_rfl)) (by decide) (fun K hK => ?_)
   refine gr_ Tryz.func22 #[.agg #[.bool a0_0, .int .u64 a0_1, .int .u64 a0_2]] ?_
   with_reducible refine (addr_Width.calls a0_0 a0_1 a0_2 t210 _ A19.out).mono ?_
   rintro e w39 ⟨rfl, hb⟩
   refine ⟨_, rfl, ?_⟩
   replace BK204 := bb_ BK204 hb
   replace BK205 := bb_ BK205 hb
   replace BK206 := bb_ BK206 hb
   replace BK209 := bb_ BK209 hb
   replace HB := bs_ HB hb
   (try clear hb)
   (try clear hb2)
   (try clear hk)
   (try clear hi)
   refine hK.out _ _ ⟨kc_ BK209 0, kc_ BK209 1, kc_ BK209 2, kc_ BK205 0, kc_ BK205 1⟩ (fun hHeld => ?_)
   clear hK K
   refine norm_ (a' := ?_) ?_ ?_
   rotate_left
   ·
    show Act.put _ (some 30) _ = _
    simp only [Act.put, List.setIfInBounds_toArray, List.set_cons_zero, List.set_cons_succ, i64_w, i32_w]
    rfl
   refine pu_ 6 (some 32) (bm_ 11 127) rfl HT_ ⟨by rfl, by intro w'; go_simp; with_reducible rfl⟩ ?_
   refine one_ (i := 7) (N := some 33) (bm_ 11 255) rfl rfl (one_of HT_.out (by kernel_rfl)) (by decide) (fun K hK => ?_)
   refine gr_ Tryz.func84 #[.agg #[.int .u64 a2_0, .int .u64 a2_1], .int .i64 (wrap64 (t210 - a1))] ?_
   with_reducible refine (num_Shl.calls a2_0 a2_1 (wrap64 (t210 - a1)) t211 t212 _ A20.out).mono ?_
   rintro e w40 ⟨rfl, hb⟩
   refine ⟨_, rfl, ?_⟩
   replace BK204 := bb_ BK204 hb
   replace BK205 := bb_ BK205 hb
   replace BK206 := bb_ BK206 hb
   replace BK209 := bb_ BK209 hb
   replace HB := bs_ HB hb
   (try clear hb)
   (try clear hb2)
   (try clear hk)
   (try clear hi)
   refine hK.out _ _ ⟨kc_ BK209 0, kc_ BK209 1, kc_ BK209 2, kc_ BK205 0, kc_ BK205 1⟩ (fun hHeld => ?_)
   clear hK K
   refine norm_ (a' := ?_) ?_ ?_
   rotate_left
   ·
    show Act.put _ (some 33) _ = _
    simp only [Act.put, List.setIfInBounds_toArray, List.set_cons_zero, List.set_cons_succ, i64_w, i32_w]
    rfl
   refine one_ (i := 8) (N := some 34) (bm_ 11 511) rfl rfl (one_of HT_.out (by kernel_rfl)) (by decide) (fun K hK => ?_)
   refine gr_ Tryz.func80 #[.agg #[.int .u64 a0_1, .int .u64 a0_2], .agg #[.int .u64 t211, .int .u64 t212]] ?_
   with_reducible refine (num_Or.calls a0_1 a0_2 t211 t212 t213 t214 _ A21.out).mono ?_
   rintro e w41 ⟨rfl, hb⟩
   refine ⟨_, rfl, ?_⟩
   replace BK204 := bb_ BK204 hb
   replace BK205 := bb_ BK205 hb
   replace BK206 := bb_ BK206 hb
   replace BK209 := bb_ BK209 hb
   replace HB := bs_ HB hb
   (try clear hb)
   (try clear hb2)
   (try clear hk)
   (try clear hi)
   refine hK.out _ _ ⟨kc_ BK209 0, kc_ BK209 1, kc_ BK209 2, kc_ BK205 0, kc_ BK205 1⟩ (fun hHeld => ?_)
   clear hK K
   refine norm_ (a' := ?_) ?_ ?_
   rotate_left
   ·
    show Act.put _ (some 34) _ = _
    simp only [Act.put, List.setIfInBounds_toArray, List.set_cons_zero, List.set_cons_succ, i64_w, i32_w]
    rfl
   refine pu_ 9 (some 35) (bm_ 11 1023) rfl HT_ ⟨by rfl, by intro w'; go_simp; with_reducible rfl⟩ ?_
   refine last_ (i := 10) (N := none) (bm_ 11 2047) rfl rfl (one_of HT_.out (by kernel_rfl)) (by decide) (fun K hK => ?_)
   have hs42 : w41.cell? ⟨gb209, 1, none⟩ = some (.int .u64 a0_1) := kc_ BK209 1
   have hfs42 := blk_frozen BK209.out 1
   have hns42_0 := NB204_209.out
   have hns42_1 := NB205_209.out
   have hns42_2 := NB206_209.out
   have hms42_0 := NB209_204.out
   have hms42_1 := NB209_205.out
   have hms42_2 := NB209_206.out
   have hs43 : w41.cell? ⟨gb209, 2, none⟩ = some (.int .u64 a0_2) := kc_ BK209 2
   have hfs43 := blk_frozen BK209.out 2
   have hns43_0 := NB204_209.out
   have hns43_1 := NB205_209.out
   have hns43_2 := NB206_209.out
   have hms43_0 := NB209_204.out
   have hms43_1 := NB209_205.out
   have hms43_2 := NB209_206.out
   refine skip_ (w1 := ?_) (by rfl) rfl ?_ ?_
   rotate_left
   ·
    go_simp
    rfl
   refine hK.out _ _ ?_
   clear hK K
   refine done_ (done_of HT_.out (by kernel_rfl)) ?_
   obtain ⟨hcz44_0, hcz44_1, hcz44_2, hfz44_0, hfz44_1, hfz44_2⟩ := c3_ BK209
   have hnb45 := NB206_205.out
   have hnc45 := NB205_206.out
   obtain ⟨hcz46_0, hcz46_1, hcz46_2, hcz46_3, hfz46_0, hfz46_1, hfz46_2, hfz46_3⟩ := c4_ BK206
   try go_wp2
   refine bodyPost_ret (results_ct rfl _ _ gb206 38 #[.bool a0_0, .int .u64 t213, .int .u64 t214, .int .i64 a1] (0, 0) _ rfl (by refine pw_ ?_; refine blk_put (cs := #[.bool a0_0, .int .u64 t213, .int .u64 t214, .int .i64 0]) ?_ 3 _ rfl; refine pw_ ?_; refine blk_put (cs := #[.bool a0_0, .int .u64 t213, .int .u64 0, .int .i64 0]) ?_ 2 _ rfl; refine pw_ ?_; refine blk_put (cs := #[.bool a0_0, .int .u64 0, .int .u64 0, .int .i64 0]) ?_ 1 _ rfl; refine pw_ ?_; refine blk_put (cs := #[.bool false, .int .u64 0, .int .u64 0, .int .i64 0]) ?_ 0 _ rfl; refine pw_ ?_; refine blk_far ?_ NB206_209.out _; refine pw_ ?_; refine blk_far ?_ NB206_209.out _; refine pw_ ?_; exact BK206.out) Tryz.underlying38 rfl (by kernel_rfl)) rfl ?_
   exact ⟨by first | rfl | (simp [errW_none, errW_some] <;> rfl) | (simp [*, errW_none, errW_some] <;> rfl), pb_ HB⟩
 ·
  replace c5 := Bool.eq_false_iff.mpr c5
  subst c5
  have H1 : (some (false, 0, 0, 0, 1)) = some (r1, r2, r3, r4, r5) := by rw [if_neg (show ¬ (false = true) by decide)] at H; exact H
  clear H
  have H := H1
  clear H1
  simp only [Option.some.injEq, Prod.mk.injEq] at H
  obtain ⟨rfl, rfl, rfl, rfl, rfl⟩ := H
  go_enter Tryz.func49, Tryz.ntmps49
  go_wp2_with (first | ((with_reducible refine gate_dst (N := 3) rfl ?_); refine bx_ 3 #[.bool a0_0, .int .u64 a0_1, .int .u64 a0_2, .int .i64 a0_3] 38 ?_; intro gb204 hg w47 hbox hb; have BK204 := Aside0.mk (hbox); have GW204 := gw_ HB hg; have GE204 := gw_ HB hg; replace HB := bs_ HB hb; clear hb hbox hg) | ((with_reducible refine gate_dst (N := 5) rfl ?_); refine bx_ 5 #[.int .u64 a2_0, .int .u64 a2_1] 24 ?_; intro gb205 hg w48 hbox hb; have BK205 := Aside0.mk (hbox); have GW205 := gw_ HB hg; have GE205 := gw_ HB hg; have NB204_205 := nl_ BK204 hg; have NB205_204 := ng_ BK204 hg; replace BK204 := bb_ BK204 hb; replace HB := bs_ HB hb; clear hb hbox hg) | ((with_reducible refine gate_dst (N := 6) rfl ?_); refine bx_ 6 #[.bool false, .int .u64 0, .int .u64 0, .int .i64 0] 38 ?_; intro gb206 hg w49 hbox hb; have BK206 := Aside0.mk (hbox); have GW206 := gw_ HB hg; have GE206 := gw_ HB hg; have NB204_206 := nl_ BK204 hg; have NB206_204 := ng_ BK204 hg; have NB205_206 := nl_ BK205 hg; have NB206_205 := ng_ BK205 hg; replace BK204 := bb_ BK204 hb; replace BK205 := bb_ BK205 hb; replace HB := bs_ HB hb; clear hb hbox hg; have hnb50 := NB204_205.out; have hnc50 := NB205_204.out; have hnb51 := NB204_206.out; have hnc51 := NB206_204.out; obtain ⟨hcz52_0, hcz52_1, hcz52_2, hcz52_3, hfz52_0, hfz52_1, hfz52_2, hfz52_3⟩ := c4_ BK204) | ((with_reducible refine gate_callee (f := 89) rfl ?_); refine gl_ (some 12) Tryz.func89 #[.agg #[.bool a0_0, .int .u64 a0_1, .int .u64 a0_2, .int .i64 a0_3], .int .i64 a1] ?_; (with_reducible refine (carve_cuts.calls a0_0 a0_1 a0_2 a0_3 a1 false _ A4.out).mono ?_); rintro e w53 ⟨rfl, hb⟩; refine ⟨_, rfl, ?_⟩; replace BK204 := bb_ BK204 hb; replace BK205 := bb_ BK205 hb; replace BK206 := bb_ BK206 hb; replace HB := bs_ HB hb; (try clear hb); (try clear hb2); (try clear hk); (try clear hi); have hnb54 := NB206_205.out; have hnc54 := NB205_206.out; obtain ⟨hcz55_0, hcz55_1, hcz55_2, hcz55_3, hfz55_0, hfz55_1, hfz55_2, hfz55_3⟩ := c4_ BK206))
  refine bodyPost_ret (results_ct rfl _ _ gb206 38 #[.bool false, .int .u64 0, .int .u64 0, .int .i64 0] (0, 0) _ rfl (by refine pw_ ?_; refine blk_put (cs := #[.bool false, .int .u64 0, .int .u64 0, .int .i64 0]) ?_ 3 _ rfl; refine pw_ ?_; refine blk_put (cs := #[.bool false, .int .u64 0, .int .u64 0, .int .i64 0]) ?_ 2 _ rfl; refine pw_ ?_; refine blk_put (cs := #[.bool false, .int .u64 0, .int .u64 0, .int .i64 0]) ?_ 1 _ rfl; refine pw_ ?_; refine blk_put (cs := #[.bool false, .int .u64 0, .int .u64 0, .int .i64 0]) ?_ 0 _ rfl; refine pw_ ?_; exact BK206.out) Tryz.underlying38 rfl (by kernel_rfl)) rfl ?_
  exact ⟨by first | rfl | (simp [errW_none, errW_some] <;> rfl) | (simp [*, errW_none, errW_some] <;> rfl), pb_ HB⟩

end Go.Proofs.YtgdgklibilddgaaGreatDoor.PSp

namespace Go.Proofs.YtgdgklibilddgaaGreatDoor.PSp
open Go.RowKit Go.Proofs.YtgdgklibilddgaaGreatDoorW.PrintWords Go.Proofs.YtgdgklibilddgaaGreatDoorW.PrintLast Go.Proofs.YtgdgklibilddgaaGreatDoorW.PrintMore
attribute [local go_sem] max2_int min2_int max_two min_two max_three min_three max_four min_four   -- for this text's walks alone

def platbooklaw04_awake.f (k : Nat)  : Option (Bool) := (prefix_Parse.f (⟨#[49, 48, 46, 48, 46, 48, 46, 48, 47, 56]⟩ : ByteArray)).bind fun bt261 => ((num_Of.f 257).bind fun bt267 => ((carve_Block.f bt261.1 bt261.2.1 bt261.2.2.1 bt261.2.2.2.1 24 bt267.1 bt267.2).bind fun bt269 => ((addr_V4.f 167772161).bind fun bt275 => ((addr_V4.f 167772164).bind fun bt278 => ((carve_Spread.f k bt275.1 bt275.2.1 bt275.2.2 bt278.1 bt278.2.1 bt278.2.2).bind fun bt281 => (if bt269.2.2.2.2 = 0 then ((prefix_Print.f bt269.1 bt269.2.1 bt269.2.2.1 bt269.2.2.2.1).bind fun t285 => (if t285.toList = ([49, 48, 46, 49, 46, 49, 46, 48, 47, 50, 52] : List UInt8) then (if bt281.2 = 0 then (if (bt281.1.length : Int) = 3 then (if 1 < (bt281.1.length : Int) then ((prefix_Print.f ((rd_T38 bt281.1 1).f0.f0) ((rd_T38 bt281.1 1).f0.f1.f0) ((rd_T38 bt281.1 1).f0.f1.f1) ((rd_T38 bt281.1 1).f1)).bind fun t287 => (some (t287.toList == ([49, 48, 46, 48, 46, 48, 46, 50, 47, 51, 49] : List UInt8)))) else (none)) else (some false)) else (some false)) else (some false))) else (some false)))))))
def platbooklaw04_awake.T2 : Bool × List (List Nat × List Nat) := (true, [([], []), ([], []), ([0, 1, 1], [0, 1]), ([2], [2]), ([3], [3]), ([3], [3]), ([], []), ([6, 4, 2, 0, 1, 2, 3, 4, 6], [4, 6]), ([5, 7, 0, 1, 2, 3, 4, 5, 6, 7], [5])])
def platbooklaw04_awake.B2 : List Nat := [0, 0, 3, 7, 15, 15, 0, 95, 255]
theorem platbooklaw04_awake.tab2 : rtab .any (opsOf Tryz.f46 2) = platbooklaw04_awake.T2 := by kernel_rfl
theorem platbooklaw04_awake.bits2 : waitsOk platbooklaw04_awake.T2.2 platbooklaw04_awake.B2 = true := by kernel_rfl
set_option maxHeartbeats 8000000 in
set_option maxRecDepth 100000 in
theorem platbooklaw04_awake.calls (k : Nat)  (r : Bool) (w : World) (hG : Glob w) (hrt : r = true) (h : platbooklaw04_awake.f k  = some r) :
  Calls Tryz.prog 46 #[] w fun e w' => e = .returned (.bool r) ∧ Below w.heap.size w w' := by
 have hu38 := Tryz.underlying38
 have HGLB := Aside0.mk hG
 clear hG
 have HRT := Aside0.mk hrt
 clear hrt
 have HB := Aside0.mk (Below.refl w.heap.size w)
 have H : ((prefix_Parse.f (⟨#[49, 48, 46, 48, 46, 48, 46, 48, 47, 56]⟩ : ByteArray)).bind fun bt261 => ((num_Of.f 257).bind fun bt267 => ((carve_Block.f bt261.1 bt261.2.1 bt261.2.2.1 bt261.2.2.2.1 24 bt267.1 bt267.2).bind fun bt269 => ((addr_V4.f 167772161).bind fun bt275 => ((addr_V4.f 167772164).bind fun bt278 => ((carve_Spread.f k bt275.1 bt275.2.1 bt275.2.2 bt278.1 bt278.2.1 bt278.2.2).bind fun bt281 => (if bt269.2.2.2.2 = 0 then ((prefix_Print.f bt269.1 bt269.2.1 bt269.2.2.1 bt269.2.2.2.1).bind fun t285 => (if t285.toList = ([49, 48, 46, 49, 46, 49, 46, 48, 47, 50, 52] : List UInt8) then (if bt281.2 = 0 then (if (bt281.1.length : Int) = 3 then (if 1 < (bt281.1.length : Int) then ((prefix_Print.f ((rd_T38 bt281.1 1).f0.f0) ((rd_T38 bt281.1 1).f0.f1.f0) ((rd_T38 bt281.1 1).f0.f1.f1) ((rd_T38 bt281.1 1).f1)).bind fun t287 => (some (t287.toList == ([49, 48, 46, 48, 46, 48, 46, 50, 47, 51, 49] : List UInt8)))) else (none)) else (some false)) else (some false)) else (some false))) else (some false)))))))) = some r := h
 clear h
 replace H := Option.bind_eq_some_iff.mp H
 obtain ⟨⟨t261, t262, t263, t264, t265⟩, A10, H⟩ := H
 replace H : ((num_Of.f 257).bind fun bt267 => ((carve_Block.f t261 t262 t263 t264 24 bt267.1 bt267.2).bind fun bt269 => ((addr_V4.f 167772161).bind fun bt275 => ((addr_V4.f 167772164).bind fun bt278 => ((carve_Spread.f k bt275.1 bt275.2.1 bt275.2.2 bt278.1 bt278.2.1 bt278.2.2).bind fun bt281 => (if bt269.2.2.2.2 = 0 then ((prefix_Print.f bt269.1 bt269.2.1 bt269.2.2.1 bt269.2.2.2.1).bind fun t285 => (if t285.toList = ([49, 48, 46, 49, 46, 49, 46, 48, 47, 50, 52] : List UInt8) then (if bt281.2 = 0 then (if (bt281.1.length : Int) = 3 then (if 1 < (bt281.1.length : Int) then ((prefix_Print.f ((rd_T38 bt281.1 1).f0.f0) ((rd_T38 bt281.1 1).f0.f1.f0) ((rd_T38 bt281.1 1).f0.f1.f1) ((rd_T38 bt281.1 1).f1)).bind fun t287 => (some (t287.toList == ([49, 48, 46, 48, 46, 48, 46, 50, 47, 51, 49] : List UInt8)))) else (none)) else (some false)) else (some false)) else (some false))) else (some false))))))) = some r := H
 have A1 := Aside0.mk A10
 clear A10
 replace H := Option.bind_eq_some_iff.mp H
 obtain ⟨⟨t267, t268⟩, A20, H⟩ := H
 replace H : ((carve_Block.f t261 t262 t263 t264 24 t267 t268).bind fun bt269 => ((addr_V4.f 167772161).bind fun bt275 => ((addr_V4.f 167772164).bind fun bt278 => ((carve_Spread.f k bt275.1 bt275.2.1 bt275.2.2 bt278.1 bt278.2.1 bt278.2.2).bind fun bt281 => (if bt269.2.2.2.2 = 0 then ((prefix_Print.f bt269.1 bt269.2.1 bt269.2.2.1 bt269.2.2.2.1).bind fun t285 => (if t285.toList = ([49, 48, 46, 49, 46, 49, 46, 48, 47, 50, 52] : List UInt8) then (if bt281.2 = 0 then (if (bt281.1.length : Int) = 3 then (if 1 < (bt281.1.length : Int) then ((prefix_Print.f ((rd_T38 bt281.1 1).f0.f0) ((rd_T38 bt281.1 1).f0.f1.f0) ((rd_T38 bt281.1 1).f0.f1.f1) ((rd_T38 bt281.1 1).f1)).bind fun t287 => (some (t287.toList == ([49, 48, 46, 48, 46, 48, 46, 50, 47, 51, 49] : List UInt8)))) else (none)) else (some false)) else (some false)) else (some false))) else (some false)))))) = some r := H
 have A2 := Aside0.mk A20
 clear A20
 replace H := Option.bind_eq_some_iff.mp H
 obtain ⟨⟨t269, t270, t271, t272, t273⟩, A30, H⟩ := H
 replace H : ((addr_V4.f 167772161).bind fun bt275 => ((addr_V4.f 167772164).bind fun bt278 => ((carve_Spread.f k bt275.1 bt275.2.1 bt275.2.2 bt278.1 bt278.2.1 bt278.2.2).bind fun bt281 => (if t273 = 0 then ((prefix_Print.f t269 t270 t271 t272).bind fun t285 => (if t285.toList = ([49, 48, 46, 49, 46, 49, 46, 48, 47, 50, 52] : List UInt8) then (if bt281.2 = 0 then (if (bt281.1.length : Int) = 3 then (if 1 < (bt281.1.length : Int) then ((prefix_Print.f ((rd_T38 bt281.1 1).f0.f0) ((rd_T38 bt281.1 1).f0.f1.f0) ((rd_T38 bt281.1 1).f0.f1.f1) ((rd_T38 bt281.1 1).f1)).bind fun t287 => (some (t287.toList == ([49, 48, 46, 48, 46, 48, 46, 50, 47, 51, 49] : List UInt8)))) else (none)) else (some false)) else (some false)) else (some false))) else (some false))))) = some r := H
 have A3 := Aside0.mk A30
 clear A30
 replace H := Option.bind_eq_some_iff.mp H
 obtain ⟨⟨t275, t276, t277⟩, A40, H⟩ := H
 replace H : ((addr_V4.f 167772164).bind fun bt278 => ((carve_Spread.f k t275 t276 t277 bt278.1 bt278.2.1 bt278.2.2).bind fun bt281 => (if t273 = 0 then ((prefix_Print.f t269 t270 t271 t272).bind fun t285 => (if t285.toList = ([49, 48, 46, 49, 46, 49, 46, 48, 47, 50, 52] : List UInt8) then (if bt281.2 = 0 then (if (bt281.1.length : Int) = 3 then (if 1 < (bt281.1.length : Int) then ((prefix_Print.f ((rd_T38 bt281.1 1).f0.f0) ((rd_T38 bt281.1 1).f0.f1.f0) ((rd_T38 bt281.1 1).f0.f1.f1) ((rd_T38 bt281.1 1).f1)).bind fun t287 => (some (t287.toList == ([49, 48, 46, 48, 46, 48, 46, 50, 47, 51, 49] : List UInt8)))) else (none)) else (some false)) else (some false)) else (some false))) else (some false)))) = some r := H
 have A4 := Aside0.mk A40
 clear A40
 replace H := Option.bind_eq_some_iff.mp H
 obtain ⟨⟨t278, t279, t280⟩, A50, H⟩ := H
 replace H : ((carve_Spread.f k t275 t276 t277 t278 t279 t280).bind fun bt281 => (if t273 = 0 then ((prefix_Print.f t269 t270 t271 t272).bind fun t285 => (if t285.toList = ([49, 48, 46, 49, 46, 49, 46, 48, 47, 50, 52] : List UInt8) then (if bt281.2 = 0 then (if (bt281.1.length : Int) = 3 then (if 1 < (bt281.1.length : Int) then ((prefix_Print.f ((rd_T38 bt281.1 1).f0.f0) ((rd_T38 bt281.1 1).f0.f1.f0) ((rd_T38 bt281.1 1).f0.f1.f1) ((rd_T38 bt281.1 1).f1)).bind fun t287 => (some (t287.toList == ([49, 48, 46, 48, 46, 48, 46, 50, 47, 51, 49] : List UInt8)))) else (none)) else (some false)) else (some false)) else (some false))) else (some false))) = some r := H
 have A5 := Aside0.mk A50
 clear A50
 replace H := Option.bind_eq_some_iff.mp H
 obtain ⟨⟨t281, t284⟩, A60, H⟩ := H
 replace H : (if t273 = 0 then ((prefix_Print.f t269 t270 t271 t272).bind fun t285 => (if t285.toList = ([49, 48, 46, 49, 46, 49, 46, 48, 47, 50, 52] : List UInt8) then (if t284 = 0 then (if (t281.length : Int) = 3 then (if 1 < (t281.length : Int) then ((prefix_Print.f ((rd_T38 t281 1).f0.f0) ((rd_T38 t281 1).f0.f1.f0) ((rd_T38 t281 1).f0.f1.f1) ((rd_T38 t281 1).f1)).bind fun t287 => (some (t287.toList == ([49, 48, 46, 48, 46, 48, 46, 50, 47, 51, 49] : List UInt8)))) else (none)) else (some false)) else (some false)) else (some false))) else (some false)) = some r := H
 have A6 := Aside0.mk A60
 clear A60
 by_cases c7 : t273 = 0
 ·
  rw [if_pos c7] at H
  have c7b0 : (t273 == 0) = true := beq_iff_eq.mpr c7
  have c7b1 : (t273 != 0) = false := bne_eq_false_iff_eq.mpr c7
  clear c7
  replace H := Option.bind_eq_some_iff.mp H
  obtain ⟨t285, A80, H⟩ := H
  replace H : (if t285.toList = ([49, 48, 46, 49, 46, 49, 46, 48, 47, 50, 52] : List UInt8) then (if t284 = 0 then (if (t281.length : Int) = 3 then (if 1 < (t281.length : Int) then ((prefix_Print.f ((rd_T38 t281 1).f0.f0) ((rd_T38 t281 1).f0.f1.f0) ((rd_T38 t281 1).f0.f1.f1) ((rd_T38 t281 1).f1)).bind fun t287 => (some (t287.toList == ([49, 48, 46, 48, 46, 48, 46, 50, 47, 51, 49] : List UInt8)))) else (none)) else (some false)) else (some false)) else (some false)) = some r := H
  have A8 := Aside0.mk A80
  clear A80
  by_cases c9 : t285.toList = ([49, 48, 46, 49, 46, 49, 46, 48, 47, 50, 52] : List UInt8)
  ·
   rw [if_pos c9] at H
   have c9b0 : (t285.toList == ([49, 48, 46, 49, 46, 49, 46, 48, 47, 50, 52] : List UInt8)) = true := beq_iff_eq.mpr c9
   have c9b1 : (t285.toList != ([49, 48, 46, 49, 46, 49, 46, 48, 47, 50, 52] : List UInt8)) = false := bne_eq_false_iff_eq.mpr c9
   clear c9
   by_cases c10 : t284 = 0
   ·
    rw [if_pos c10] at H
    have c10b0 : (t284 == 0) = true := beq_iff_eq.mpr c10
    have c10b1 : (t284 != 0) = false := bne_eq_false_iff_eq.mpr c10
    clear c10
    by_cases c11 : (t281.length : Int) = 3
    ·
     rw [if_pos c11] at H
     have c11b0 : ((t281.length : Int) == 3) = true := beq_iff_eq.mpr c11
     have c11b1 : ((t281.length : Int) != 3) = false := bne_eq_false_iff_eq.mpr c11
     clear c11
     by_cases c12 : 1 < (t281.length : Int)
     ·
      rw [if_pos c12] at H
      have c12b0 : decide (1 < (t281.length : Int)) = true := decide_eq_true c12
      have c12b1 : decide (1 < t281.length) = true := decide_eq_true (by omega)
      clear c12
      replace H := Option.bind_eq_some_iff.mp H
      obtain ⟨t287, A130, H⟩ := H
      replace H : (some (t287.toList == ([49, 48, 46, 48, 46, 48, 46, 50, 47, 51, 49] : List UInt8))) = some r := H
      have A13 := Aside0.mk A130
      clear A130
      obtain rfl := Option.some.inj H
      go_enter Tryz.func46, Tryz.ntmps46
      try go_wp2_with (first | ((with_reducible refine gate_callee (f := 25) rfl ?_); refine gl_ (some 8) Tryz.func25 #[.string (⟨#[49, 48, 46, 48, 46, 48, 46, 48, 47, 56]⟩ : ByteArray)] ?_; (with_reducible refine (prefix_Parse.calls (⟨#[49, 48, 46, 48, 46, 48, 46, 48, 47, 56]⟩ : ByteArray) t261 t262 t263 t264 t265 _ ?side1 A1.out).mono ?_); (case side1 => exact glob_keep HGLB.out (pb_ HB)); rintro e w14 ⟨rfl, hb⟩; refine ⟨_, rfl, ?_⟩; replace HB := bs_ HB hb; (try clear hb); (try clear hb2); (try clear hk); (try clear hi)) | ((with_reducible refine gate_dst (N := 1) rfl ?_); (try (refine gate_guard (by rfl) ?_; dsimp only)); refine bx_ 1 #[.bool false, .int .u64 0, .int .u64 0, .int .i64 0] 38 ?_; intro gb266 hg w15 hbox hb; have BK266 := Aside0.mk (hbox); have GW266 := gw_ HB hg; have GE266 := gw_ HB hg; replace HB := bs_ HB hb; clear hb hbox hg; obtain ⟨hcz16_0, hcz16_1, hcz16_2, hcz16_3, hfz16_0, hfz16_1, hfz16_2, hfz16_3⟩ := c4_ BK266))
      have n0_ : Aside0 (((((w15.setCell ⟨gb266, 0, none⟩ (.bool t261)).setCell ⟨gb266, 1, none⟩ (.int .u64 t262)).setCell ⟨gb266, 2, none⟩ (.int .u64 t263)).setCell ⟨gb266, 3, none⟩ (.int .i64 t264)).heap[gb266]? = some (.cells #[.bool t261, .int .u64 t262, .int .u64 t263, .int .i64 t264] 38 (0, 0))) := ⟨by refine pw_ ?_; refine blk_put (cs := #[.bool t261, .int .u64 t262, .int .u64 t263, .int .i64 0]) ?_ 3 _ rfl; refine pw_ ?_; refine blk_put (cs := #[.bool t261, .int .u64 t262, .int .u64 0, .int .i64 0]) ?_ 2 _ rfl; refine pw_ ?_; refine blk_put (cs := #[.bool t261, .int .u64 0, .int .u64 0, .int .i64 0]) ?_ 1 _ rfl; refine pw_ ?_; refine blk_put (cs := #[.bool false, .int .u64 0, .int .u64 0, .int .i64 0]) ?_ 0 _ rfl; refine pw_ ?_; exact BK266.out⟩
      have n1_ : Aside0 (Below w.heap.size w ((((w15.setCell ⟨gb266, 0, none⟩ (.bool t261)).setCell ⟨gb266, 1, none⟩ (.int .u64 t262)).setCell ⟨gb266, 2, none⟩ (.int .u64 t263)).setCell ⟨gb266, 3, none⟩ (.int .i64 t264))) := ⟨pb_ HB⟩
      (try clear BK266)
      (try clear HB)
      generalize ((((w15.setCell ⟨gb266, 0, none⟩ (.bool t261)).setCell ⟨gb266, 1, none⟩ (.int .u64 t262)).setCell ⟨gb266, 2, none⟩ (.int .u64 t263)).setCell ⟨gb266, 3, none⟩ (.int .i64 t264)) = w17 at n0_ n1_ ⊢
      have BK266 := n0_
      have HB := n1_
      clear n0_ n1_
      replace BK266 := Aside0.mk (blk_drew BK266.out)
      replace HB := Aside0.mk (below_drew1 HB.out)
      refine start_ (n := 9) (S := fun w' => w'.cell? ⟨gb266, 0, none⟩ = some (.bool t261) ∧ w'.cell? ⟨gb266, 1, none⟩ = some (.int .u64 t262) ∧ w'.cell? ⟨gb266, 2, none⟩ = some (.int .u64 t263) ∧ w'.cell? ⟨gb266, 3, none⟩ = some (.int .i64 t264)) (ds := []) (bm_ 9 0) (by kernel_rfl) rfl rfl ⟨kc_ BK266 0, kc_ BK266 1, kc_ BK266 2, kc_ BK266 3⟩ (fun hHeld => ?_); refine with_tabW platbooklaw04_awake.tab2 platbooklaw04_awake.bits2 (fun HT_ HW_ => ?_)
      generalize w17.drew = w18 at BK266 HB hHeld ⊢
      refine ta_ 0 (some 12) (bm_ 9 1) rfl HT_ HW_ ⟨by rfl, by rintro w' ⟨s0, s1, s2, s3⟩; go_simp; with_reducible rfl⟩ hHeld ?_
      refine join_ (σ := Nat) 2 (bm_ 9 127) (fun s_ => [(13, .agg #[.int .u64 t267, .int .u64 t268]), (14, .tuple #[.agg #[.bool t269, .int .u64 t270, .int .u64 t271, .int .i64 t272], .int .i64 t273]), (3, .pointer (some ⟨s_, 0, none⟩)), (11, .tuple #[.agg #[.bool t269, .int .u64 t270, .int .u64 t271, .int .i64 t272], .int .i64 t273]), (15, .agg #[.bool t269, .int .u64 t270, .int .u64 t271, .int .i64 t272]), (16, .int .i64 t273)]) (fun s_ w' => (w'.cell? ⟨gb266, 0, none⟩ = some (.bool t261) ∧ w'.cell? ⟨gb266, 1, none⟩ = some (.int .u64 t262) ∧ w'.cell? ⟨gb266, 2, none⟩ = some (.int .u64 t263) ∧ w'.cell? ⟨gb266, 3, none⟩ = some (.int .i64 t264)) ∧ (w'.heap[gb266]? = some (.cells #[.bool t261, .int .u64 t262, .int .u64 t263, .int .i64 t264] 38 (0, 0))) ∧ (w'.heap[s_]? = some (.cells #[.bool false, .int .u64 0, .int .u64 0, .int .i64 0] 38 (0, 0))) ∧ (w.heap.size ≤ s_) ∧ (w.heap.size ≤ s_) ∧ (gb266 ≠ s_) ∧ (s_ ≠ gb266) ∧ (Below w.heap.size w w')) ?_ ?_
      rotate_left
      ·
       intro hCont
       refine two_ (i := 1) (j := 6) (Ni := some 13) (Nj := some 3) (bm_ 9 3) (bm_ 9 65) rfl rfl rfl rfl (two_of HT_.out (by kernel_rfl)) (by decide) (by decide) (fun K hK => ?_) (fun K hK => ?_)
       ·
        skip
        refine gr_ Tryz.func59 #[.int .u64 257] ?_
        with_reducible refine (num_Of.calls 257 t267 t268 _ A2.out).mono ?_
        rintro e w19 ⟨rfl, hb⟩
        refine ⟨_, rfl, ?_⟩
        replace BK266 := bb_ BK266 hb
        replace HB := bs_ HB hb
        (try clear hb)
        (try clear hb2)
        (try clear hk)
        (try clear hi)
        refine hK.out _ _ ⟨kc_ BK266 0, kc_ BK266 1, kc_ BK266 2, kc_ BK266 3⟩ (fun hHeld => ?_)
        clear hK K
        refine norm_ (a' := ?_) ?_ ?_
        rotate_left
        ·
         show Act.put _ (some 13) _ = _
         simp only [Act.put, List.setIfInBounds_toArray, List.set_cons_zero, List.set_cons_succ, i64_w, i32_w]
         rfl
        refine two_ (i := 2) (j := 6) (Ni := some 14) (Nj := some 3) (bm_ 9 7) (bm_ 9 67) rfl rfl rfl rfl (two_of HT_.out (by kernel_rfl)) (by decide) (by decide) (fun K hK => ?_) (fun K hK => ?_)
        ·
         skip
         refine gr_ Tryz.func49 #[.agg #[.bool t261, .int .u64 t262, .int .u64 t263, .int .i64 t264], .int .i64 24, .agg #[.int .u64 t267, .int .u64 t268]] ?_
         with_reducible refine (carve_Block.calls t261 t262 t263 t264 24 t267 t268 t269 t270 t271 t272 t273 _ A3.out).mono ?_
         rintro e w20 ⟨rfl, hb⟩
         refine ⟨_, rfl, ?_⟩
         replace BK266 := bb_ BK266 hb
         replace HB := bs_ HB hb
         (try clear hb)
         (try clear hb2)
         (try clear hk)
         (try clear hi)
         refine hK.out _ _ ⟨kc_ BK266 0, kc_ BK266 1, kc_ BK266 2, kc_ BK266 3⟩ (fun hHeld => ?_)
         clear hK K
         refine norm_ (a' := ?_) ?_ ?_
         rotate_left
         ·
          show Act.put _ (some 14) _ = _
          simp only [Act.put, List.setIfInBounds_toArray, List.set_cons_zero, List.set_cons_succ, i64_w, i32_w]
          rfl
         refine pu_ 3 (some 11) (bm_ 9 15) rfl HT_ ⟨by rfl, by intro w'; go_simp; with_reducible rfl⟩ ?_
         refine pu_ 4 (some 15) (bm_ 9 31) rfl HT_ ⟨by rfl, by intro w'; go_simp; with_reducible rfl⟩ ?_
         refine pu_ 5 (some 16) (bm_ 9 63) rfl HT_ ⟨by rfl, by intro w'; go_simp; with_reducible rfl⟩ ?_
         refine one_ (i := 6) (N := some 3) (bm_ 9 127) rfl rfl (one_of HT_.out (by kernel_rfl)) (by decide) (fun K hK => ?_)
         refine box_step ?hg (N := 3) ?hd (cs := #[.bool false, .int .u64 0, .int .u64 0, .int .i64 0]) (t := 38) ?hr ?_; (case hd => rfl); (case hg => rfl); (case hr => first | (go_simp; done) | (go_simp; rfl))
         intro gb274 hg w21 hbox hb
         have BK274 := Aside0.mk (hbox)
         have GW274 := gw_ HB hg
         have GE274 := gw_ HB hg
         have NB266_274 := nl_ BK266 hg
         have NB274_266 := ng_ BK266 hg
         replace BK266 := bb_ BK266 hb
         replace HB := bs_ HB hb
         clear hb hbox hg
         refine hK.out _ _ ⟨kc_ BK266 0, kc_ BK266 1, kc_ BK266 2, kc_ BK266 3⟩ (fun hHeld => ?_)
         clear hK K
         refine norm_ (a' := ?_) ?_ ?_
         rotate_left
         ·
          show Act.put _ (some 3) _ = _
          simp only [Act.put, List.setIfInBounds_toArray, List.set_cons_zero, List.set_cons_succ, i64_w, i32_w]
          rfl
         exact norm_ (by simp only [putAll, Act.put, List.setIfInBounds_toArray, List.set_cons_zero, List.set_cons_succ]) (hCont (gb274) _ ⟨hHeld, (pk_ BK266), (pk_ BK274), GW274.out, GE274.out, NB266_274.out, NB274_266.out, (pb_ HB)⟩)
        ·
         skip
         refine box_step ?hg (N := 3) ?hd (cs := #[.bool false, .int .u64 0, .int .u64 0, .int .i64 0]) (t := 38) ?hr ?_; (case hd => rfl); (case hg => rfl); (case hr => first | (go_simp; done) | (go_simp; rfl))
         intro gb274 hg w20 hbox hb
         have BK274 := Aside0.mk (hbox)
         have GW274 := gw_ HB hg
         have GE274 := gw_ HB hg
         have NB266_274 := nl_ BK266 hg
         have NB274_266 := ng_ BK266 hg
         replace BK266 := bb_ BK266 hb
         replace HB := bs_ HB hb
         clear hb hbox hg
         refine hK.out _ _ ⟨kc_ BK266 0, kc_ BK266 1, kc_ BK266 2, kc_ BK266 3⟩ (fun hHeld => ?_)
         clear hK K
         refine norm_ (a' := ?_) ?_ ?_
         rotate_left
         ·
          show Act.put _ (some 3) _ = _
          simp only [Act.put, List.setIfInBounds_toArray, List.set_cons_zero, List.set_cons_succ, i64_w, i32_w]
          rfl
         refine one_ (i := 2) (N := some 14) (bm_ 9 71) rfl rfl (one_of HT_.out (by kernel_rfl)) (by decide) (fun K hK => ?_)
         refine gr_ Tryz.func49 #[.agg #[.bool t261, .int .u64 t262, .int .u64 t263, .int .i64 t264], .int .i64 24, .agg #[.int .u64 t267, .int .u64 t268]] ?_
         with_reducible refine (carve_Block.calls t261 t262 t263 t264 24 t267 t268 t269 t270 t271 t272 t273 _ A3.out).mono ?_
         rintro e w21 ⟨rfl, hb⟩
         refine ⟨_, rfl, ?_⟩
         replace BK266 := bb_ BK266 hb
         replace BK274 := bb_ BK274 hb
         replace HB := bs_ HB hb
         (try clear hb)
         (try clear hb2)
         (try clear hk)
         (try clear hi)
         refine hK.out _ _ ⟨kc_ BK266 0, kc_ BK266 1, kc_ BK266 2, kc_ BK266 3⟩ (fun hHeld => ?_)
         clear hK K
         refine norm_ (a' := ?_) ?_ ?_
         rotate_left
         ·
          show Act.put _ (some 14) _ = _
          simp only [Act.put, List.setIfInBounds_toArray, List.set_cons_zero, List.set_cons_succ, i64_w, i32_w]
          rfl
         refine pu_ 3 (some 11) (bm_ 9 79) rfl HT_ ⟨by rfl, by intro w'; go_simp; with_reducible rfl⟩ ?_
         refine pu_ 4 (some 15) (bm_ 9 95) rfl HT_ ⟨by rfl, by intro w'; go_simp; with_reducible rfl⟩ ?_
         refine pu_ 5 (some 16) (bm_ 9 127) rfl HT_ ⟨by rfl, by intro w'; go_simp; with_reducible rfl⟩ ?_
         exact norm_ (by simp only [putAll, Act.put, List.setIfInBounds_toArray, List.set_cons_zero, List.set_cons_succ]) (hCont (gb274) _ ⟨hHeld, (pk_ BK266), (pk_ BK274), GW274.out, GE274.out, NB266_274.out, NB274_266.out, (pb_ HB)⟩)
       ·
        skip
        refine box_step ?hg (N := 3) ?hd (cs := #[.bool false, .int .u64 0, .int .u64 0, .int .i64 0]) (t := 38) ?hr ?_; (case hd => rfl); (case hg => rfl); (case hr => first | (go_simp; done) | (go_simp; rfl))
        intro gb274 hg w19 hbox hb
        have BK274 := Aside0.mk (hbox)
        have GW274 := gw_ HB hg
        have GE274 := gw_ HB hg
        have NB266_274 := nl_ BK266 hg
        have NB274_266 := ng_ BK266 hg
        replace BK266 := bb_ BK266 hb
        replace HB := bs_ HB hb
        clear hb hbox hg
        refine hK.out _ _ ⟨kc_ BK266 0, kc_ BK266 1, kc_ BK266 2, kc_ BK266 3⟩ (fun hHeld => ?_)
        clear hK K
        refine norm_ (a' := ?_) ?_ ?_
        rotate_left
        ·
         show Act.put _ (some 3) _ = _
         simp only [Act.put, List.setIfInBounds_toArray, List.set_cons_zero, List.set_cons_succ, i64_w, i32_w]
         rfl
        refine one_ (i := 1) (N := some 13) (bm_ 9 67) rfl rfl (one_of HT_.out (by kernel_rfl)) (by decide) (fun K hK => ?_)
        refine gr_ Tryz.func59 #[.int .u64 257] ?_
        with_reducible refine (num_Of.calls 257 t267 t268 _ A2.out).mono ?_
        rintro e w20 ⟨rfl, hb⟩
        refine ⟨_, rfl, ?_⟩
        replace BK266 := bb_ BK266 hb
        replace BK274 := bb_ BK274 hb
        replace HB := bs_ HB hb
        (try clear hb)
        (try clear hb2)
        (try clear hk)
        (try clear hi)
        refine hK.out _ _ ⟨kc_ BK266 0, kc_ BK266 1, kc_ BK266 2, kc_ BK266 3⟩ (fun hHeld => ?_)
        clear hK K
        refine norm_ (a' := ?_) ?_ ?_
        rotate_left
        ·
         show Act.put _ (some 13) _ = _
         simp only [Act.put, List.setIfInBounds_toArray, List.set_cons_zero, List.set_cons_succ, i64_w, i32_w]
         rfl
        refine one_ (i := 2) (N := some 14) (bm_ 9 71) rfl rfl (one_of HT_.out (by kernel_rfl)) (by decide) (fun K hK => ?_)
        refine gr_ Tryz.func49 #[.agg #[.bool t261, .int .u64 t262, .int .u64 t263, .int .i64 t264], .int .i64 24, .agg #[.int .u64 t267, .int .u64 t268]] ?_
        with_reducible refine (carve_Block.calls t261 t262 t263 t264 24 t267 t268 t269 t270 t271 t272 t273 _ A3.out).mono ?_
        rintro e w21 ⟨rfl, hb⟩
        refine ⟨_, rfl, ?_⟩
        replace BK266 := bb_ BK266 hb
        replace BK274 := bb_ BK274 hb
        replace HB := bs_ HB hb
        (try clear hb)
        (try clear hb2)
        (try clear hk)
        (try clear hi)
        refine hK.out _ _ ⟨kc_ BK266 0, kc_ BK266 1, kc_ BK266 2, kc_ BK266 3⟩ (fun hHeld => ?_)
        clear hK K
        refine norm_ (a' := ?_) ?_ ?_
        rotate_left
        ·
         show Act.put _ (some 14) _ = _
         simp only [Act.put, List.setIfInBounds_toArray, List.set_cons_zero, List.set_cons_succ, i64_w, i32_w]
         rfl
        refine pu_ 3 (some 11) (bm_ 9 79) rfl HT_ ⟨by rfl, by intro w'; go_simp; with_reducible rfl⟩ ?_
        refine pu_ 4 (some 15) (bm_ 9 95) rfl HT_ ⟨by rfl, by intro w'; go_simp; with_reducible rfl⟩ ?_
        refine pu_ 5 (some 16) (bm_ 9 127) rfl HT_ ⟨by rfl, by intro w'; go_simp; with_reducible rfl⟩ ?_
        exact norm_ (by simp only [putAll, Act.put, List.setIfInBounds_toArray, List.set_cons_zero, List.set_cons_succ]) (hCont (gb274) _ ⟨hHeld, (pk_ BK266), (pk_ BK274), GW274.out, GE274.out, NB266_274.out, NB274_266.out, (pb_ HB)⟩)
      rintro gb274 w22 ⟨hS_, h0_, h1_, h2_, h3_, h4_, h5_, h6_⟩
      have n0_ : Aside0 (w22.heap[gb266]? = some (.cells #[.bool t261, .int .u64 t262, .int .u64 t263, .int .i64 t264] 38 (0, 0))) := ⟨h0_⟩
      have n1_ : Aside0 (w22.heap[gb274]? = some (.cells #[.bool false, .int .u64 0, .int .u64 0, .int .i64 0] 38 (0, 0))) := ⟨h1_⟩
      have n2_ : Aside0 (w.heap.size ≤ gb274) := ⟨h2_⟩
      have n3_ : Aside0 (w.heap.size ≤ gb274) := ⟨h3_⟩
      have n4_ : Aside0 (gb266 ≠ gb274) := ⟨h4_⟩
      have n5_ : Aside0 (gb274 ≠ gb266) := ⟨h5_⟩
      have n6_ : Aside0 (Below w.heap.size w w22) := ⟨h6_⟩
      clear BK266
      clear HB
      clear h0_ h1_ h2_ h3_ h4_ h5_ h6_
      have BK266 := n0_
      have BK274 := n1_
      have GW274 := n2_
      have GE274 := n3_
      have NB266_274 := n4_
      have NB274_266 := n5_
      have HB := n6_
      clear n0_ n1_ n2_ n3_ n4_ n5_ n6_
      have hHeld : w22.cell? ⟨gb266, 0, none⟩ = some (.bool t261) ∧ w22.cell? ⟨gb266, 1, none⟩ = some (.int .u64 t262) ∧ w22.cell? ⟨gb266, 2, none⟩ = some (.int .u64 t263) ∧ w22.cell? ⟨gb266, 3, none⟩ = some (.int .i64 t264) := hS_
      refine norm_ (a' := ?_) ?_ ?_
      rotate_left
      ·
       simp only [putAll, Act.put, List.setIfInBounds_toArray, List.set_cons_zero, List.set_cons_succ]
       rfl
      refine one_ (i := 7) (N := none) (bm_ 9 255) rfl rfl (one_of HT_.out (by kernel_rfl)) (by decide) (fun K hK => ?_)
      have hs23 : w22.cell? ⟨gb274, 0, none⟩ = some (.bool false) := kc_ BK274 0
      have hfs23 := blk_frozen BK274.out 0
      have hns23_0 := NB266_274.out
      have hms23_0 := NB274_266.out
      have hs24 : w22.cell? ⟨gb274, 1, none⟩ = some (.int .u64 0) := kc_ BK274 1
      have hfs24 := blk_frozen BK274.out 1
      have hns24_0 := NB266_274.out
      have hms24_0 := NB274_266.out
      have hs25 : w22.cell? ⟨gb274, 2, none⟩ = some (.int .u64 0) := kc_ BK274 2
      have hfs25 := blk_frozen BK274.out 2
      have hns25_0 := NB266_274.out
      have hms25_0 := NB274_266.out
      have hs26 : w22.cell? ⟨gb274, 3, none⟩ = some (.int .i64 0) := kc_ BK274 3
      have hfs26 := blk_frozen BK274.out 3
      have hns26_0 := NB266_274.out
      have hms26_0 := NB274_266.out
      refine skip_ (w1 := ?_) (by rfl) rfl ?_ ?_
      rotate_left
      ·
       go_simp
       rfl
      refine hK.out _ _ ⟨((cell_far (p := ⟨gb274, _, none⟩) NB266_274.out _).trans (((cell_far (p := ⟨gb274, _, none⟩) NB266_274.out _).trans (((cell_far (p := ⟨gb274, _, none⟩) NB266_274.out _).trans (((cell_far (p := ⟨gb274, _, none⟩) NB266_274.out _).trans (hHeld.1)))))))), ((cell_far (p := ⟨gb274, _, none⟩) NB266_274.out _).trans (((cell_far (p := ⟨gb274, _, none⟩) NB266_274.out _).trans (((cell_far (p := ⟨gb274, _, none⟩) NB266_274.out _).trans (((cell_far (p := ⟨gb274, _, none⟩) NB266_274.out _).trans (hHeld.2.1)))))))), ((cell_far (p := ⟨gb274, _, none⟩) NB266_274.out _).trans (((cell_far (p := ⟨gb274, _, none⟩) NB266_274.out _).trans (((cell_far (p := ⟨gb274, _, none⟩) NB266_274.out _).trans (((cell_far (p := ⟨gb274, _, none⟩) NB266_274.out _).trans (hHeld.2.2.1)))))))), ((cell_far (p := ⟨gb274, _, none⟩) NB266_274.out _).trans (((cell_far (p := ⟨gb274, _, none⟩) NB266_274.out _).trans (((cell_far (p := ⟨gb274, _, none⟩) NB266_274.out _).trans (((cell_far (p := ⟨gb274, _, none⟩) NB266_274.out _).trans (hHeld.2.2.2))))))))⟩ (fun hHeld => ?_)
      clear hK K
      refine pu_ 8 (some 4) (bm_ 9 511) rfl HT_ ⟨by rfl, by intro w'; go_simp; with_reducible rfl⟩ ?_
      refine done_ (done_of HT_.out (by kernel_rfl)) ?_
      try go_wp2_with (first | ((with_reducible refine gate_callee (f := 88) rfl ?_); refine gl_ (some 18) Tryz.func88 #[.int .u32 167772161] ?_; (with_reducible refine (addr_V4.calls 167772161 t275 t276 t277 _ A4.out).mono ?_); rintro e w27 ⟨rfl, hb⟩; refine ⟨_, rfl, ?_⟩; replace BK266 := Aside0.mk (blk_below (g := gb266) (o := .cells #[.bool t261, .int .u64 t262, .int .u64 t263, .int .i64 t264] 38 (0, 0)) (by refine pw_ ?_; refine blk_far ?_ NB266_274.out _; refine pw_ ?_; refine blk_far ?_ NB266_274.out _; refine pw_ ?_; refine blk_far ?_ NB266_274.out _; refine pw_ ?_; refine blk_far ?_ NB266_274.out _; refine pw_ ?_; exact BK266.out) hb); replace BK274 := Aside0.mk (blk_below (g := gb274) (o := .cells #[.bool t269, .int .u64 t270, .int .u64 t271, .int .i64 t272] 38 (0, 0)) (by refine pw_ ?_; refine blk_put (cs := #[.bool t269, .int .u64 t270, .int .u64 t271, .int .i64 0]) ?_ 3 _ rfl; refine pw_ ?_; refine blk_put (cs := #[.bool t269, .int .u64 t270, .int .u64 0, .int .i64 0]) ?_ 2 _ rfl; refine pw_ ?_; refine blk_put (cs := #[.bool t269, .int .u64 0, .int .u64 0, .int .i64 0]) ?_ 1 _ rfl; refine pw_ ?_; refine blk_put (cs := #[.bool false, .int .u64 0, .int .u64 0, .int .i64 0]) ?_ 0 _ rfl; refine pw_ ?_; exact BK274.out) hb); replace HB := bs_ HB hb; (try clear hb); (try clear hb2); (try clear hk); (try clear hi)) | ((with_reducible refine gate_callee (f := 88) rfl ?_); refine gl_ (some 19) Tryz.func88 #[.int .u32 167772164] ?_; (with_reducible refine (addr_V4.calls 167772164 t278 t279 t280 _ A5.out).mono ?_); rintro e w28 ⟨rfl, hb⟩; refine ⟨_, rfl, ?_⟩; replace BK266 := bb_ BK266 hb; replace BK274 := bb_ BK274 hb; replace HB := bs_ HB hb; (try clear hb); (try clear hb2); (try clear hk); (try clear hi)) | ((with_reducible refine gate_callee (f := 58) rfl ?_); refine gl_ (some 20) Tryz.func58 #[.agg #[.bool t275, .int .u64 t276, .int .u64 t277], .agg #[.bool t278, .int .u64 t279, .int .u64 t280]] ?_; (with_reducible refine (carve_Spread.calls k t275 t276 t277 t278 t279 t280 t281 t284 _ A6.out).mono ?_); rintro e w29 ⟨v282, rfl, ho0, hb⟩; refine ⟨_, rfl, ?_⟩; have HO283 := Aside0.mk (Kd.R_lower (Kd.R_newB (Kd.R_newB ho0 (g := gb266) (o := .cells #[.bool t261, .int .u64 t262, .int .u64 t263, .int .i64 t264] 38 (0, 0)) (pk_ BK266)) (g := gb274) (o := .cells #[.bool t269, .int .u64 t270, .int .u64 t271, .int .i64 t272] 38 (0, 0)) (pk_ BK274)) (below_size (pb_ HB))); replace BK266 := bb_ BK266 hb; replace BK274 := bb_ BK274 hb; replace HB := bs_ HB hb; (try clear hb); (try clear hb2); (try clear hk); (try clear hi); (try clear ho0); have hnb30 := NB274_266.out; have hnc30 := NB266_274.out; obtain ⟨hcz31_0, hcz31_1, hcz31_2, hcz31_3, hfz31_0, hfz31_1, hfz31_2, hfz31_3⟩ := c4_ BK274) | (go_at_call 27; (with_reducible refine (prefix_Print.calls t269 t270 t271 t272 t285 _ ?side1 A8.out).mono ?_); (case side1 => exact glob_keep HGLB.out (pb_ HB)); rintro e w32 ⟨rfl, hb⟩; replace HO283 := Aside0.mk (Kd.R_below (by (with_reducible repeat (first | apply Kd.R_alloc | apply Kd.R_drewN | apply Kd.R_drew)); exact HO283.out) hb); replace BK266 := bb_ BK266 hb; replace BK274 := bb_ BK274 hb; replace HB := bs_ HB hb; (try clear hb); (try clear hb2); (try clear hk); (try clear hi); obtain ⟨Ao33, co33, eo33⟩ := Kd.R_slice HO283.out; subst eo33; have p286 : 0 ≤ (1 : Int) := (by omega); have q286 : 1 < (t281.length : Int) := of_decide_eq_true (by first | (with_reducible assumption) | assumption); obtain ⟨ad286, e286, hx286_0, hx286_1, hx286_2, hx286_3⟩ := at_T38 (Kd.R_reads' HO283.out).2.2 1 p286 q286; cases e286; (try simp only [show (1 : Int).toNat = 1 from rfl, Nat.reduceMul, Nat.reduceEqDiff, Go.Addr.add, ↓reduceIte] at hx286_0); (try simp only [show (1 : Int).toNat = 1 from rfl, Nat.reduceMul, Nat.reduceEqDiff, Go.Addr.add, ↓reduceIte] at hx286_1); (try simp only [show (1 : Int).toNat = 1 from rfl, Nat.reduceMul, Nat.reduceEqDiff, Go.Addr.add, ↓reduceIte] at hx286_2); (try simp only [show (1 : Int).toNat = 1 from rfl, Nat.reduceMul, Nat.reduceEqDiff, Go.Addr.add, ↓reduceIte] at hx286_3); have qi286 : (1 < t281.length) = True := eq_true (by omega); (try rw [show ((1 : Int)).toNat = 1 from rfl] at hx286_0); (try rw [show 1 * 4 = 4 from rfl] at hx286_0); (try rw [show ((1 : Int)).toNat = 1 from rfl] at hx286_1); (try rw [show 1 * 4 = 4 from rfl] at hx286_1); (try rw [show ((1 : Int)).toNat = 1 from rfl] at hx286_2); (try rw [show 1 * 4 = 4 from rfl] at hx286_2); (try rw [show ((1 : Int)).toNat = 1 from rfl] at hx286_3); (try rw [show 1 * 4 = 4 from rfl] at hx286_3); replace p286 := eq_true p286; replace q286 := eq_true q286) | (go_at_call 27; (with_reducible refine (prefix_Print.calls ((rd_T38 t281 1).f0.f0) ((rd_T38 t281 1).f0.f1.f0) ((rd_T38 t281 1).f0.f1.f1) ((rd_T38 t281 1).f1) t287 _ ?side1 A13.out).mono ?_); (case side1 => exact glob_keep HGLB.out (pb_ HB)); rintro e w34 ⟨rfl, hb⟩; replace HO283 := Aside0.mk (Kd.R_below (by (with_reducible repeat (first | apply Kd.R_alloc | apply Kd.R_drewN | apply Kd.R_drew)); exact HO283.out) hb); replace BK266 := bb_ BK266 hb; replace BK274 := bb_ BK274 hb; replace HB := bs_ HB hb; (try clear hb); (try clear hb2); (try clear hk); (try clear hi)))
      go_ret
      exact ⟨by first | rfl | (simp [errW_none, errW_some] <;> rfl) | (simp [*, errW_none, errW_some] <;> rfl), pb_ HB⟩
     ·
      rw [if_neg c12] at H
      exact absurd H (by simp)
    ·
     rw [if_neg c11] at H
     have c11b0 : ((t281.length : Int) == 3) = false := beq_eq_false_iff_ne.mpr c11
     have c11b1 : ((t281.length : Int) != 3) = true := bne_iff_ne.mpr c11
     obtain rfl := Option.some.inj H
     exact absurd HRT.out (by decide)
   ·
    rw [if_neg c10] at H
    have c10b0 : (t284 == 0) = false := beq_eq_false_iff_ne.mpr c10
    have c10b1 : (t284 != 0) = true := bne_iff_ne.mpr c10
    obtain rfl := Option.some.inj H
    exact absurd HRT.out (by decide)
  ·
   rw [if_neg c9] at H
   have c9b0 : (t285.toList == ([49, 48, 46, 49, 46, 49, 46, 48, 47, 50, 52] : List UInt8)) = false := beq_eq_false_iff_ne.mpr c9
   have c9b1 : (t285.toList != ([49, 48, 46, 49, 46, 49, 46, 48, 47, 50, 52] : List UInt8)) = true := bne_iff_ne.mpr c9
   obtain rfl := Option.some.inj H
   exact absurd HRT.out (by decide)
 ·
  rw [if_neg c7] at H
  have c7b0 : (t273 == 0) = false := beq_eq_false_iff_ne.mpr c7
  have c7b1 : (t273 != 0) = true := bne_iff_ne.mpr c7
  obtain rfl := Option.some.inj H
  exact absurd HRT.out (by decide)

end Go.Proofs.YtgdgklibilddgaaGreatDoor.PSp

