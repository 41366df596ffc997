/-
A part of the proof of carveParts_card: its lemmas and walks, part 3. No condition.
-/
import Derived.Test.YtgdgklibilddgaaGreatDoorPaoM2
set_option linter.unusedVariables false
set_option linter.unusedSimpArgs false
namespace Go.Proofs.YtgdgklibilddgaaGreatDoor.PPr
open Go.RowKit Go.Proofs.YtgdgklibilddgaaGreatDoorW.PrintWords Go.Proofs.YtgdgklibilddgaaGreatDoorW.PrintLast Go.Proofs.YtgdgklibilddgaaGreatDoorW.PrintMore
attribute [local go_sem] max2_int min2_int max_two min_two max_three min_three max_four min_four   -- for this text's walks alone

attribute [local go_sem high] eqA26
def platbookref03_Filled.l0 : Nat → Int → List Int → Int → Bool → Int → Int → Option (Bool × Int × Int)
 | 0, _, _, _, _, _, _ => none
 | k + 1, x2, x7, x8, x181000, x181001, x181002 => if x8 < (x7.length : Int) then (if 0 ≤ x8 then (platbookref03_Filled.l0 k x2 (x7.set (x8 : Int).toNat x2) (wrap64 (x8 + 1)) x181000 x181001 x181002) else (none)) else ((platbookref03_Addr.f k x181000 x7).bind fun bt186 => (some (bt186.1, bt186.2.1, bt186.2.2)))
def platbookref03_Filled.f (k : Nat) (a0_0 : Bool) (a0_1 : Int) (a0_2 : Int) (a1 : Int) (a2 : Int) : Option (Bool × Int × Int) := (platbookref03_Row.f k a0_0 a0_1 a0_2).bind fun t182 => (platbookref03_Filled.l0 k a2 t182 a1 a0_0 a0_1 a0_2)
set_option maxHeartbeats 8000000 in
set_option maxRecDepth 100000 in
theorem platbookref03_Filled.calls (k : Nat) (a0_0 : Bool) (a0_1 : Int) (a0_2 : Int) (a1 : Int) (a2 : Int) (r1 : Bool) (r2 : Int) (r3 : Int) (w : World) (h : platbookref03_Filled.f k a0_0 a0_1 a0_2 a1 a2 = some (r1, r2, r3)) :
  Calls Tryz.prog 78 #[.agg #[.bool a0_0, .int .u64 a0_1, .int .u64 a0_2], .int .i64 a1, .int .i64 a2] w fun e w' => e = .returned (.agg #[.bool r1, .int .u64 r2, .int .u64 r3]) ∧ Below w.heap.size w w' := by
 have hu26 := Tryz.underlying26
 have HB := Aside0.mk (Below.refl w.heap.size w)
 have H : ((platbookref03_Row.f k a0_0 a0_1 a0_2).bind fun t182 => (platbookref03_Filled.l0 k a2 t182 a1 a0_0 a0_1 a0_2)) = some (r1, r2, r3) := h
 clear h
 replace H := Option.bind_eq_some_iff.mp H
 obtain ⟨t182, A40, H⟩ := H
 replace H : (platbookref03_Filled.l0 k a2 t182 a1 a0_0 a0_1 a0_2) = some (r1, r2, r3) := H
 have A4 := Aside0.mk A40
 clear A40
 have H' := Aside0.mk H
 clear H
 go_enter Tryz.func78, Tryz.ntmps78
 go_wp2_with (first | ((with_reducible refine gate_dst (N := 3) rfl ?_); refine bx_ 3 #[.bool a0_0, .int .u64 a0_1, .int .u64 a0_2] 26 ?_; intro gb180 hg w5 hbox hb; have BK180 := Aside0.mk (hbox); have GW180 := gw_ HB hg; have GE180 := gw_ HB hg; replace HB := bs_ HB hb; clear hb hbox hg) | ((with_reducible refine gate_dst (N := 6) rfl ?_); refine bx_ 6 #[.bool false, .int .u64 0, .int .u64 0] 26 ?_; intro gb181 hg w6 hbox hb; have BK181 := Aside0.mk (hbox); have GW181 := gw_ HB hg; have GE181 := gw_ HB hg; have NB180_181 := nl_ BK180 hg; have NB181_180 := ng_ BK180 hg; replace BK180 := bb_ BK180 hb; replace HB := bs_ HB hb; clear hb hbox hg; have hnb7 := NB180_181.out; have hnc7 := NB181_180.out; obtain ⟨hcz8_0, hcz8_1, hcz8_2, hfz8_0, hfz8_1, hfz8_2⟩ := c3_ BK180) | ((with_reducible refine gate_callee (f := 83) rfl ?_); refine gl_ (some 10) Tryz.func83 #[.agg #[.bool a0_0, .int .u64 a0_1, .int .u64 a0_2]] ?_; (with_reducible refine (platbookref03_Row.calls k a0_0 a0_1 a0_2 t182 _ A4.out).mono ?_); rintro e w9 ⟨v183, rfl, ho0, hb⟩; refine ⟨_, rfl, ?_⟩; have HO184 := Aside0.mk (Kd.R_lower ho0 (below_size (pb_ HB))); replace BK180 := bb_ BK180 hb; replace BK181 := bb_ BK181 hb; replace HB := bs_ HB hb; (try clear hb); (try clear hb2); (try clear hk); (try clear hi); (try clear ho0)))
 go_loopg [8] k (fun kq v8 w' => ∃ (x7_1 : List Int) (x8_1 : Int), v8 = .int .i64 x8_1 ∧ Aside0 (platbookref03_Filled.l0 kq a2 x7_1 x8_1 a0_0 a0_1 a0_2 = some (r1, r2, r3)) ∧ Aside0 (kq ≤ k) ∧ Aside0 (Kd.R (Kd.int .i64) 3 w' w.heap.size (fun _ => True) v183 x7_1) ∧ Aside0 (w'.heap[gb180]? = some (.cells #[.bool a0_0, .int .u64 a0_1, .int .u64 a0_2] 26 (0, 0))) ∧ Aside0 (w'.heap[gb181]? = some (.cells #[.bool false, .int .u64 0, .int .u64 0] 26 (0, 0))) ∧ Aside0 (Below w.heap.size w w'))
 case atStart => exact ⟨(t182), (a1), (by first | rfl | (simp; done) | (simp [*]; done)), H', ⟨Nat.le_refl _⟩, ⟨by (with_reducible repeat (first | apply Kd.R_alloc | apply Kd.R_drewN | apply Kd.R_drew)); exact HO184.out⟩, ⟨by refine pw_ ?_; exact BK180.out⟩, ⟨by refine pw_ ?_; exact BK181.out⟩, ⟨pb_ HB⟩⟩
 case round =>
  clear H'
  try clear p2
  try clear c7
  try clear c8
  try clear hcz8_0
  try clear hcz8_1
  try clear hcz8_2
  try clear hfz8_0
  try clear hfz8_1
  try clear hfz8_2
  obtain ⟨x7_1, x8_1, rfl, HA, HK1, HO_7, BK180, BK181, HB⟩ := hrel
  cases gk with
  | zero => exact absurd HA.out (by simp [platbookref03_Filled.l0])
  | succ k1 =>
   have H := HA.out
   clear HA
   simp only [platbookref03_Filled.l0] at H
   by_cases c10 : x8_1 < (x7_1.length : Int)
   ·
    rw [if_pos c10] at H
    have c10b0 : decide (x8_1 < (x7_1.length : Int)) = true := decide_eq_true c10
    clear c10
    by_cases c11 : 0 ≤ x8_1
    ·
     rw [if_pos c11] at H
     have c11b0 : decide (0 ≤ x8_1) = true := decide_eq_true c11
     clear c11
     obtain ⟨y185, hy185⟩ : ∃ y_ : List Int, y_ = (x7_1.set (x8_1 : Int).toNat a2) := ⟨_, rfl⟩
     replace H : (platbookref03_Filled.l0 k1 a2 y185 (wrap64 (x8_1 + 1)) a0_0 a0_1 a0_2) = some (r1, r2, r3) := by first | (rw [hy185]; with_reducible exact H) | (have H2_ := (Option.bind_some _ _).symm.trans H; rw [hy185]; with_reducible exact H2_) | (have H2_ := (Option.bind_some _ _).symm.trans H; with_reducible exact H2_) | with_reducible exact H | (rw [hy185]; exact H) | exact H
     have Ny185 := Aside0.mk hy185
     clear hy185
     have H' := Aside0.mk H
     clear H
     obtain ⟨Ao13, co13, eo13⟩ := Kd.R_slice HO_7.out
     subst eo13
     have p12 : 0 ≤ (x8_1 : Int) := of_decide_eq_true (by first | (with_reducible assumption) | assumption)
     have q12 : (x8_1 : Int) < ((x7_1.length : Int) : Int) := of_decide_eq_true (by first | (with_reducible assumption) | assumption)
     obtain ⟨go12, co12, eo12, gb12, gl12, cl12, HG12⟩ := Kd.R_form HO_7.out (by omega)
     (first | cases eo12 | (injection eo12 with ea_ en_ ec_; (first | subst ea_ | (injection ea_ with ea_; subst ea_)); subst ec_; clear en_))
     have GB12 := Aside0.mk gb12
     have GG12 := Aside0.mk HG12
     clear gb12 gl12 HG12
     obtain ⟨hx12_0, hf12_0⟩ := Kd.R_celln 0 HO_7.out (x8_1 : Int) p12 q12
     replace p12 := eq_true p12
     replace q12 := eq_true q12
     have HP14 := Kd.R_putg HO_7.out (x8_1 : Int) a2
     go_wp2_with (first | ((with_reducible refine gate_store (t := 3) (p := 21) rfl ?_); refine store_event (t := 3) (p := 21) (v := ?vo_w15) (w1 := (wr.setCell ⟨go12, (x8_1 : Int).toNat, none⟩ (.int .i64 a2))) ?hg ?ho ?hn ?hr ?_; (case ho => rfl); (case hg => rfl); (case hn => rfl); (case hr => first | (go_simp; done) | (go_simp; rfl)); intro w15 hw; have hg : wr.grownBy w15 (some go12) := (by rw [hw]; exact HP14.2); have hp_ : Kd.R (Kd.int .i64) 3 w15 w.heap.size (fun _ => True) (.slice (some ⟨go12, 0, none⟩) x7_1.length co13) y185 := (by rw [hw, Ny185.out]; exact HP14.1); clear HP14; have n0_ := Aside0.mk (hp_); have n1_ := Aside0.mk (blk_grown (g := gb180) (o := .cells #[.bool a0_0, .int .u64 a0_1, .int .u64 a0_2] 26 (0, 0)) (pk_ BK180) hg (Kd.R_ne HO_7.out BK180.out (by decide))); have n2_ := Aside0.mk (blk_grown (g := gb181) (o := .cells #[.bool false, .int .u64 0, .int .u64 0] 26 (0, 0)) (pk_ BK181) hg (Kd.R_ne HO_7.out BK181.out (by decide))); have n3_ := Aside0.mk ((by rw [hw]; exact below_set (HB.out) GB12.out : Below w.heap.size w w15)); clear HO_7; clear BK180; clear BK181; clear HB; have HO_7 := n0_; have BK180 := n1_; have BK181 := n2_; have HB := n3_; clear n0_ n1_ n2_ n3_; clear hg hw hp_))
     go_roundg k1
     case measure => have := HK1.out; omega
     case rel => exact ⟨(y185), (wrap64 (x8_1 + 1)), (by first | rfl | (simp; done) | (simp [*]; done)), H', ⟨by have := HK1.out; omega⟩, ⟨by (with_reducible repeat (first | apply Kd.R_alloc | apply Kd.R_drewN | apply Kd.R_drew)); exact HO_7.out⟩, ⟨by refine pw_ ?_; exact BK180.out⟩, ⟨by refine pw_ ?_; exact BK181.out⟩, ⟨pb_ HB⟩⟩
    ·
     rw [if_neg c11] at H
     exact absurd H (by simp)
   ·
    rw [if_neg c10] at H
    have c10b0 : decide (x8_1 < (x7_1.length : Int)) = false := decide_eq_false c10
    clear c10
    replace H := Option.bind_eq_some_iff.mp H
    obtain ⟨⟨t186, t187, t188⟩, A160, H⟩ := H
    replace H : (some (t186, t187, t188)) = some (r1, r2, r3) := H
    have A16 := Aside0.mk A160
    clear A160
    simp only [Option.some.injEq, Prod.mk.injEq] at H
    obtain ⟨rfl, rfl, rfl⟩ := H
    obtain ⟨Ao17, co17, eo17⟩ := Kd.R_slice HO_7.out
    subst eo17
    have hnb18 := NB180_181.out
    have hnc18 := NB181_180.out
    obtain ⟨hcz19_0, hcz19_1, hcz19_2, hfz19_0, hfz19_1, hfz19_2⟩ := c3_ BK180
    go_wp2_with (first | ((with_reducible refine gate_callee (f := 93) rfl ?_); refine gl_ (some 25) Tryz.func93 #[.bool a0_0, .slice Ao17 x7_1.length co17] ?_; (with_reducible refine (platbookref03_Addr.calls k1 a0_0 _ _ x7_1 t186 t187 t188 _ ?side1 ?side2 A16.out).mono ?_); (case side1 => repeat (first | exact (Kd.R_reads' HO_7.out).2.2 | (with_reducible refine Kd.C_alloc ?_ _) | (with_reducible refine Kd.C_drewN ?_ _) | (with_reducible refine Kd.C_drew ?_))); (case side2 => exact (Kd.R_reads' HO_7.out).2.1); rintro e w20 ⟨rfl, hb⟩; refine ⟨_, rfl, ?_⟩; replace HO_7 := Aside0.mk (Kd.R_below (by (with_reducible repeat (first | apply Kd.R_alloc | apply Kd.R_drewN | apply Kd.R_drew)); exact HO_7.out) hb); replace BK180 := bb_ BK180 hb; replace BK181 := bb_ BK181 hb; replace HB := bs_ HB hb; (try clear hb); (try clear hb2); (try clear hk); (try clear hi); obtain ⟨hcz21_0, hcz21_1, hcz21_2, hfz21_0, hfz21_1, hfz21_2⟩ := c3_ BK181))
    refine bodyPost_ret (results_cell_row rfl _ _ gb181 26 #[.bool t186, .int .u64 t187, .int .u64 t188] (0, 0) _ rfl (by refine pw_ ?_; refine blk_put (cs := #[.bool t186, .int .u64 t187, .int .u64 0]) ?_ 2 _ rfl; refine pw_ ?_; refine blk_put (cs := #[.bool t186, .int .u64 0, .int .u64 0]) ?_ 1 _ rfl; refine pw_ ?_; refine blk_put (cs := #[.bool false, .int .u64 0, .int .u64 0]) ?_ 0 _ rfl; refine pw_ ?_; exact BK181.out) Tryz.underlying26 rfl (by kernel_rfl)) rfl ?_
    exact ⟨by first | rfl | (simp [errW_none, errW_some] <;> rfl) | (simp [*, errW_none, errW_some] <;> rfl), pb_ HB⟩

def platbookref03_Right.f (k : Nat) (a0_0 : Bool) (a0_1 : Int) (a0_2 : Int) (a0_3 : Int) : Option (Bool) := (platbookref02_Right.f a0_0 a0_1 a0_2).bind fun t190 => (if t190 = true then (if a0_3 < 0 then (some false) else ((platbookref02_Width.f a0_0 a0_1 a0_2).bind fun t191 => (if a0_3 > t191 then (some false) else ((platbookref03_Filled.f k a0_0 a0_1 a0_2 a0_3 0).bind fun bt192 => (some (bt192.1 == a0_0 && ((bt192.2.1 == a0_1 && (bt192.2.2 == a0_2))))))))) else (some false))
def platbookref03_Right.T1 : Bool × List (List Nat × List Nat) := (true, [([], []), ([0], [0]), ([1], [1]), ([2], [2]), ([3, 2], [3]), ([4], [4]), ([5, 4], [4, 5]), ([6, 4], [4, 6]), ([4, 7], [4, 7]), ([8, 4], [8]), ([9], [9]), ([10, 9], [9, 10]), ([9], [9]), ([12, 9], [9, 12]), ([13, 9, 9], [9, 13]), ([11, 14, 9], [9, 11, 14]), ([9, 15], [9, 15])])
def platbookref03_Right.B1 : List Nat := [0, 1, 3, 7, 15, 31, 63, 127, 255, 511, 1023, 2047, 1023, 5119, 13311, 32767, 65535]
theorem platbookref03_Right.tab1 : rtab .any (opsOf Tryz.f29 1) = platbookref03_Right.T1 := by kernel_rfl
theorem platbookref03_Right.bits1 : waitsOk platbookref03_Right.T1.2 platbookref03_Right.B1 = true := by kernel_rfl
def platbookref03_Right.T3 : Bool × List (List Nat × List Nat) := (true, [([], []), ([0], [0]), ([], []), ([2], [2]), ([1, 3], [1, 3]), ([], []), ([5], [5]), ([4, 6], [4, 6]), ([7, 4, 0, 1, 2, 3, 4, 5, 6, 7], [7])])
def platbookref03_Right.B3 : List Nat := [0, 1, 0, 4, 15, 0, 32, 127, 255]
theorem platbookref03_Right.tab3 : rtab .any (opsOf Tryz.f29 3) = platbookref03_Right.T3 := by kernel_rfl
theorem platbookref03_Right.bits3 : waitsOk platbookref03_Right.T3.2 platbookref03_Right.B3 = true := by kernel_rfl
set_option maxHeartbeats 8000000 in
set_option maxRecDepth 100000 in
theorem platbookref03_Right.calls (k : Nat) (a0_0 : Bool) (a0_1 : Int) (a0_2 : Int) (a0_3 : Int) (r : Bool) (w : World) (h : platbookref03_Right.f k a0_0 a0_1 a0_2 a0_3 = some r) :
  Calls Tryz.prog 29 #[.agg #[.bool a0_0, .int .u64 a0_1, .int .u64 a0_2, .int .i64 a0_3]] w fun e w' => e = .returned (.bool r) ∧ Below w.heap.size w w' := by
 have hu38 := Tryz.underlying38
 have hu26 := Tryz.underlying26
 have HB := Aside0.mk (Below.refl w.heap.size w)
 have H : ((platbookref02_Right.f a0_0 a0_1 a0_2).bind fun t190 => (if t190 = true then (if a0_3 < 0 then (some false) else ((platbookref02_Width.f a0_0 a0_1 a0_2).bind fun t191 => (if a0_3 > t191 then (some false) else ((platbookref03_Filled.f k a0_0 a0_1 a0_2 a0_3 0).bind fun bt192 => (some (bt192.1 == a0_0 && ((bt192.2.1 == a0_1 && (bt192.2.2 == a0_2))))))))) else (some false))) = some r := h
 clear h
 replace H := Option.bind_eq_some_iff.mp H
 obtain ⟨t190, A20, H⟩ := H
 replace H : (if t190 = true then (if a0_3 < 0 then (some false) else ((platbookref02_Width.f a0_0 a0_1 a0_2).bind fun t191 => (if a0_3 > t191 then (some false) else ((platbookref03_Filled.f k a0_0 a0_1 a0_2 a0_3 0).bind fun bt192 => (some (bt192.1 == a0_0 && ((bt192.2.1 == a0_1 && (bt192.2.2 == a0_2))))))))) else (some false)) = some r := H
 have A2 := Aside0.mk A20
 clear A20
 by_cases c3 : t190 = true
 ·
  subst c3
  rw [if_pos rfl] at H
  by_cases c4 : a0_3 < 0
  ·
   rw [if_pos c4] at H
   have c4b0 : decide (a0_3 < 0) = true := decide_eq_true c4
   clear c4
   obtain rfl := Option.some.inj H
   go_enter Tryz.func29, Tryz.ntmps29
   try go_wp2_with (first | ((with_reducible refine gate_dst (N := 1) rfl ?_); refine bx_ 1 #[.bool a0_0, .int .u64 a0_1, .int .u64 a0_2, .int .i64 a0_3] 38 ?_; intro gb189 hg w5 hbox hb; have BK189 := Aside0.mk (hbox); have GW189 := gw_ HB hg; have GE189 := gw_ HB hg; replace HB := bs_ HB hb; clear hb hbox hg))
   replace BK189 := Aside0.mk (blk_drew BK189.out)
   replace HB := Aside0.mk (below_drew1 HB.out)
   refine start_ (n := 17) (S := fun w' => w'.cell? ⟨gb189, 0, none⟩ = some (.bool a0_0) ∧ w'.cell? ⟨gb189, 1, none⟩ = some (.int .u64 a0_1) ∧ w'.cell? ⟨gb189, 2, none⟩ = some (.int .u64 a0_2) ∧ w'.cell? ⟨gb189, 3, none⟩ = some (.int .i64 a0_3)) (ds := []) (bm_ 17 0) (by kernel_rfl) rfl rfl ⟨kc_ BK189 0, kc_ BK189 1, kc_ BK189 2, kc_ BK189 3⟩ (fun hHeld => ?_); refine with_tabW platbookref03_Right.tab1 platbookref03_Right.bits1 (fun HT_ HW_ => ?_)
   generalize w5.drew = w6 at BK189 HB hHeld ⊢
   refine pu_ 0 (some 3) (bm_ 17 1) rfl HT_ ⟨by rfl, by intro w'; go_simp; with_reducible rfl⟩ ?_
   refine ta_ 1 (some 4) (bm_ 17 3) rfl HT_ HW_ ⟨by rfl, by rintro w' ⟨s0, s1, s2, s3⟩; go_simp; with_reducible rfl⟩ hHeld ?_
   refine one_ (i := 2) (N := some 5) (bm_ 17 7) rfl rfl (one_of HT_.out (by kernel_rfl)) (by decide) (fun K hK => ?_)
   refine gr_ Tryz.func19 #[.agg #[.bool a0_0, .int .u64 a0_1, .int .u64 a0_2]] ?_
   with_reducible refine (platbookref02_Right.calls a0_0 a0_1 a0_2 true _ A2.out).mono ?_
   rintro e w7 ⟨rfl, hb⟩
   refine ⟨_, rfl, ?_⟩
   replace BK189 := bb_ BK189 hb
   replace HB := bs_ HB hb
   (try clear hb)
   (try clear hb2)
   (try clear hk)
   (try clear hi)
   refine hK.out _ _ ⟨kc_ BK189 0, kc_ BK189 1, kc_ BK189 2, kc_ BK189 3⟩ (fun hHeld => ?_)
   clear hK K
   refine norm_ (a' := ?_) ?_ ?_
   rotate_left
   ·
    show Act.put _ (some 5) _ = _
    simp only [Act.put, List.setIfInBounds_toArray, List.set_cons_zero, List.set_cons_succ, i64_w, i32_w]
    rfl
   refine pu_ 3 (some 6) (bm_ 17 15) rfl HT_ ⟨by rfl, by intro w'; go_simp; with_reducible rfl⟩ ?_
   refine pu_ 4 (some 7) (bm_ 17 31) rfl HT_ ⟨by rfl, by intro w'; go_simp; with_reducible rfl⟩ ?_
   refine pu_ 5 (some 8) (bm_ 17 63) rfl HT_ ⟨by rfl, by intro w'; go_simp; with_reducible rfl⟩ ?_
   refine ta_ 6 (some 9) (bm_ 17 127) rfl HT_ HW_ ⟨by rfl, by rintro w' ⟨s0, s1, s2, s3⟩; go_simp; with_reducible rfl⟩ hHeld ?_
   refine pu_ 7 (some 10) (bm_ 17 255) rfl HT_ ⟨by rfl, by intro w'; go_simp; with_reducible rfl⟩ ?_
   refine pu_ 8 (some 11) (bm_ 17 511) rfl HT_ ⟨by rfl, by intro w'; go_simp; with_reducible rfl⟩ ?_
   refine pu_ 9 (some 12) (bm_ 17 1023) rfl HT_ ⟨by rfl, by intro w'; go_simp; with_reducible rfl⟩ ?_
   refine pure_ (i := 10) (N := some 13) (v := undef) (a' := ?_) (bm_ 17 2047) rfl rfl (any_of HT_.out (by kernel_rfl)) (fun _ _ _ h => h) (Or.inr ⟨by rfl, rfl⟩) ?_ ?_
   rotate_left
   ·
    simp only [Act.put, List.setIfInBounds_toArray, List.set_cons_zero, List.set_cons_succ, i64_w, i32_w]
    rfl
   refine pure_ (i := 11) (N := some 14) (v := undef) (a' := ?_) (bm_ 17 4095) rfl rfl (any_of HT_.out (by kernel_rfl)) (fun _ _ _ h => h) (Or.inr ⟨by rfl, rfl⟩) ?_ ?_
   rotate_left
   ·
    simp only [Act.put, List.setIfInBounds_toArray, List.set_cons_zero, List.set_cons_succ, i64_w, i32_w]
    rfl
   refine pure_ (i := 12) (N := some 15) (v := undef) (a' := ?_) (bm_ 17 8191) rfl rfl (any_of HT_.out (by kernel_rfl)) (fun _ _ _ h => h) (Or.inr ⟨by rfl, rfl⟩) ?_ ?_
   rotate_left
   ·
    simp only [Act.put, List.setIfInBounds_toArray, List.set_cons_zero, List.set_cons_succ, i64_w, i32_w]
    rfl
   refine pure_ (i := 13) (N := some 16) (v := undef) (a' := ?_) (bm_ 17 16383) rfl rfl (any_of HT_.out (by kernel_rfl)) (fun _ _ _ h => h) (Or.inr ⟨by rfl, rfl⟩) ?_ ?_
   rotate_left
   ·
    simp only [Act.put, List.setIfInBounds_toArray, List.set_cons_zero, List.set_cons_succ, i64_w, i32_w]
    rfl
   refine pure_ (i := 14) (N := some 17) (v := undef) (a' := ?_) (bm_ 17 32767) rfl rfl (any_of HT_.out (by kernel_rfl)) (fun _ _ _ h => h) (Or.inr ⟨by rfl, rfl⟩) ?_ ?_
   rotate_left
   ·
    simp only [Act.put, List.setIfInBounds_toArray, List.set_cons_zero, List.set_cons_succ, i64_w, i32_w]
    rfl
   refine pure_ (i := 15) (N := some 18) (v := undef) (a' := ?_) (bm_ 17 65535) rfl rfl (any_of HT_.out (by kernel_rfl)) (fun _ _ _ h => h) (Or.inr ⟨by rfl, rfl⟩) ?_ ?_
   rotate_left
   ·
    simp only [Act.put, List.setIfInBounds_toArray, List.set_cons_zero, List.set_cons_succ, i64_w, i32_w]
    rfl
   refine pu_ 16 (some 19) (bm_ 17 131071) rfl HT_ ⟨by rfl, by intro w'; go_simp; with_reducible rfl⟩ ?_
   refine done_ (done_of HT_.out (by kernel_rfl)) ?_
   try go_wp2
   go_ret
   exact ⟨by first | rfl | (simp [errW_none, errW_some] <;> rfl) | (simp [*, errW_none, errW_some] <;> rfl), pb_ HB⟩
  ·
   rw [if_neg c4] at H
   have c4b0 : decide (a0_3 < 0) = false := decide_eq_false c4
   clear c4
   replace H := Option.bind_eq_some_iff.mp H
   obtain ⟨t191, A80, H⟩ := H
   replace H : (if a0_3 > t191 then (some false) else ((platbookref03_Filled.f k a0_0 a0_1 a0_2 a0_3 0).bind fun bt192 => (some (bt192.1 == a0_0 && ((bt192.2.1 == a0_1 && (bt192.2.2 == a0_2))))))) = some r := H
   have A8 := Aside0.mk A80
   clear A80
   by_cases c9 : a0_3 > t191
   ·
    rw [if_pos c9] at H
    have c9b0 : decide (t191 < a0_3) = true := decide_eq_true c9
    clear c9
    obtain rfl := Option.some.inj H
    go_enter Tryz.func29, Tryz.ntmps29
    try go_wp2_with (first | ((with_reducible refine gate_dst (N := 1) rfl ?_); refine bx_ 1 #[.bool a0_0, .int .u64 a0_1, .int .u64 a0_2, .int .i64 a0_3] 38 ?_; intro gb189 hg w10 hbox hb; have BK189 := Aside0.mk (hbox); have GW189 := gw_ HB hg; have GE189 := gw_ HB hg; replace HB := bs_ HB hb; clear hb hbox hg))
    replace BK189 := Aside0.mk (blk_drew BK189.out)
    replace HB := Aside0.mk (below_drew1 HB.out)
    refine start_ (n := 17) (S := fun w' => w'.cell? ⟨gb189, 0, none⟩ = some (.bool a0_0) ∧ w'.cell? ⟨gb189, 1, none⟩ = some (.int .u64 a0_1) ∧ w'.cell? ⟨gb189, 2, none⟩ = some (.int .u64 a0_2) ∧ w'.cell? ⟨gb189, 3, none⟩ = some (.int .i64 a0_3)) (ds := []) (bm_ 17 0) (by kernel_rfl) rfl rfl ⟨kc_ BK189 0, kc_ BK189 1, kc_ BK189 2, kc_ BK189 3⟩ (fun hHeld => ?_); refine with_tabW platbookref03_Right.tab1 platbookref03_Right.bits1 (fun HT_ HW_ => ?_)
    generalize w10.drew = w11 at BK189 HB hHeld ⊢
    refine pu_ 0 (some 3) (bm_ 17 1) rfl HT_ ⟨by rfl, by intro w'; go_simp; with_reducible rfl⟩ ?_
    refine ta_ 1 (some 4) (bm_ 17 3) rfl HT_ HW_ ⟨by rfl, by rintro w' ⟨s0, s1, s2, s3⟩; go_simp; with_reducible rfl⟩ hHeld ?_
    refine one_ (i := 2) (N := some 5) (bm_ 17 7) rfl rfl (one_of HT_.out (by kernel_rfl)) (by decide) (fun K hK => ?_)
    refine gr_ Tryz.func19 #[.agg #[.bool a0_0, .int .u64 a0_1, .int .u64 a0_2]] ?_
    with_reducible refine (platbookref02_Right.calls a0_0 a0_1 a0_2 true _ A2.out).mono ?_
    rintro e w12 ⟨rfl, hb⟩
    refine ⟨_, rfl, ?_⟩
    replace BK189 := bb_ BK189 hb
    replace HB := bs_ HB hb
    (try clear hb)
    (try clear hb2)
    (try clear hk)
    (try clear hi)
    refine hK.out _ _ ⟨kc_ BK189 0, kc_ BK189 1, kc_ BK189 2, kc_ BK189 3⟩ (fun hHeld => ?_)
    clear hK K
    refine norm_ (a' := ?_) ?_ ?_
    rotate_left
    ·
     show Act.put _ (some 5) _ = _
     simp only [Act.put, List.setIfInBounds_toArray, List.set_cons_zero, List.set_cons_succ, i64_w, i32_w]
     rfl
    refine pu_ 3 (some 6) (bm_ 17 15) rfl HT_ ⟨by rfl, by intro w'; go_simp; with_reducible rfl⟩ ?_
    refine pu_ 4 (some 7) (bm_ 17 31) rfl HT_ ⟨by rfl, by intro w'; go_simp; with_reducible rfl⟩ ?_
    refine pu_ 5 (some 8) (bm_ 17 63) rfl HT_ ⟨by rfl, by intro w'; go_simp; with_reducible rfl⟩ ?_
    refine ta_ 6 (some 9) (bm_ 17 127) rfl HT_ HW_ ⟨by rfl, by rintro w' ⟨s0, s1, s2, s3⟩; go_simp; with_reducible rfl⟩ hHeld ?_
    refine pu_ 7 (some 10) (bm_ 17 255) rfl HT_ ⟨by rfl, by intro w'; go_simp; with_reducible rfl⟩ ?_
    refine pu_ 8 (some 11) (bm_ 17 511) rfl HT_ ⟨by rfl, by intro w'; go_simp; with_reducible rfl⟩ ?_
    refine pu_ 9 (some 12) (bm_ 17 1023) rfl HT_ ⟨by rfl, by intro w'; go_simp; with_reducible rfl⟩ ?_
    refine pu_ 10 (some 13) (bm_ 17 2047) rfl HT_ ⟨by rfl, by intro w'; go_simp; with_reducible rfl⟩ ?_
    refine pu_ 12 (some 15) (bm_ 17 6143) rfl HT_ ⟨by rfl, by intro w'; go_simp; with_reducible rfl⟩ ?_
    refine ta_ 11 (some 14) (bm_ 17 8191) rfl HT_ HW_ ⟨by rfl, by rintro w' ⟨s0, s1, s2, s3⟩; go_simp; with_reducible rfl⟩ hHeld ?_
    refine ta_ 13 (some 16) (bm_ 17 16383) rfl HT_ HW_ ⟨by rfl, by rintro w' ⟨s0, s1, s2, s3⟩; go_simp; with_reducible rfl⟩ hHeld ?_
    refine one_ (i := 14) (N := some 17) (bm_ 17 32767) rfl rfl (one_of HT_.out (by kernel_rfl)) (by decide) (fun K hK => ?_)
    refine gr_ Tryz.func23 #[.agg #[.bool a0_0, .int .u64 a0_1, .int .u64 a0_2]] ?_
    with_reducible refine (platbookref02_Width.calls a0_0 a0_1 a0_2 t191 _ A8.out).mono ?_
    rintro e w13 ⟨rfl, hb⟩
    refine ⟨_, rfl, ?_⟩
    replace BK189 := bb_ BK189 hb
    replace HB := bs_ HB hb
    (try clear hb)
    (try clear hb2)
    (try clear hk)
    (try clear hi)
    refine hK.out _ _ ⟨kc_ BK189 0, kc_ BK189 1, kc_ BK189 2, kc_ BK189 3⟩ (fun hHeld => ?_)
    clear hK K
    refine norm_ (a' := ?_) ?_ ?_
    rotate_left
    ·
     show Act.put _ (some 17) _ = _
     simp only [Act.put, List.setIfInBounds_toArray, List.set_cons_zero, List.set_cons_succ, i64_w, i32_w]
     rfl
    refine pu_ 15 (some 18) (bm_ 17 65535) rfl HT_ ⟨by rfl, by intro w'; go_simp; with_reducible rfl⟩ ?_
    refine pu_ 16 (some 19) (bm_ 17 131071) rfl HT_ ⟨by rfl, by intro w'; go_simp; with_reducible rfl⟩ ?_
    refine done_ (done_of HT_.out (by kernel_rfl)) ?_
    try go_wp2
    go_ret
    exact ⟨by first | rfl | (simp [errW_none, errW_some] <;> rfl) | (simp [*, errW_none, errW_some] <;> rfl), pb_ HB⟩
   ·
    rw [if_neg c9] at H
    have c9b0 : decide (t191 < a0_3) = false := decide_eq_false c9
    clear c9
    replace H := Option.bind_eq_some_iff.mp H
    obtain ⟨⟨t192, t193, t194⟩, A140, H⟩ := H
    replace H : (some (t192 == a0_0 && ((t193 == a0_1 && (t194 == a0_2))))) = some r := H
    have A14 := Aside0.mk A140
    clear A140
    obtain rfl := Option.some.inj H
    go_enter Tryz.func29, Tryz.ntmps29
    try go_wp2_with (first | ((with_reducible refine gate_dst (N := 1) rfl ?_); refine bx_ 1 #[.bool a0_0, .int .u64 a0_1, .int .u64 a0_2, .int .i64 a0_3] 38 ?_; intro gb189 hg w15 hbox hb; have BK189 := Aside0.mk (hbox); have GW189 := gw_ HB hg; have GE189 := gw_ HB hg; replace HB := bs_ HB hb; clear hb hbox hg))
    replace BK189 := Aside0.mk (blk_drew BK189.out)
    replace HB := Aside0.mk (below_drew1 HB.out)
    refine start_ (n := 17) (S := fun w' => w'.cell? ⟨gb189, 0, none⟩ = some (.bool a0_0) ∧ w'.cell? ⟨gb189, 1, none⟩ = some (.int .u64 a0_1) ∧ w'.cell? ⟨gb189, 2, none⟩ = some (.int .u64 a0_2) ∧ w'.cell? ⟨gb189, 3, none⟩ = some (.int .i64 a0_3)) (ds := []) (bm_ 17 0) (by kernel_rfl) rfl rfl ⟨kc_ BK189 0, kc_ BK189 1, kc_ BK189 2, kc_ BK189 3⟩ (fun hHeld => ?_); refine with_tabW platbookref03_Right.tab1 platbookref03_Right.bits1 (fun HT_ HW_ => ?_)
    generalize w15.drew = w16 at BK189 HB hHeld ⊢
    refine pu_ 0 (some 3) (bm_ 17 1) rfl HT_ ⟨by rfl, by intro w'; go_simp; with_reducible rfl⟩ ?_
    refine ta_ 1 (some 4) (bm_ 17 3) rfl HT_ HW_ ⟨by rfl, by rintro w' ⟨s0, s1, s2, s3⟩; go_simp; with_reducible rfl⟩ hHeld ?_
    refine one_ (i := 2) (N := some 5) (bm_ 17 7) rfl rfl (one_of HT_.out (by kernel_rfl)) (by decide) (fun K hK => ?_)
    refine gr_ Tryz.func19 #[.agg #[.bool a0_0, .int .u64 a0_1, .int .u64 a0_2]] ?_
    with_reducible refine (platbookref02_Right.calls a0_0 a0_1 a0_2 true _ A2.out).mono ?_
    rintro e w17 ⟨rfl, hb⟩
    refine ⟨_, rfl, ?_⟩
    replace BK189 := bb_ BK189 hb
    replace HB := bs_ HB hb
    (try clear hb)
    (try clear hb2)
    (try clear hk)
    (try clear hi)
    refine hK.out _ _ ⟨kc_ BK189 0, kc_ BK189 1, kc_ BK189 2, kc_ BK189 3⟩ (fun hHeld => ?_)
    clear hK K
    refine norm_ (a' := ?_) ?_ ?_
    rotate_left
    ·
     show Act.put _ (some 5) _ = _
     simp only [Act.put, List.setIfInBounds_toArray, List.set_cons_zero, List.set_cons_succ, i64_w, i32_w]
     rfl
    refine pu_ 3 (some 6) (bm_ 17 15) rfl HT_ ⟨by rfl, by intro w'; go_simp; with_reducible rfl⟩ ?_
    refine pu_ 4 (some 7) (bm_ 17 31) rfl HT_ ⟨by rfl, by intro w'; go_simp; with_reducible rfl⟩ ?_
    refine pu_ 5 (some 8) (bm_ 17 63) rfl HT_ ⟨by rfl, by intro w'; go_simp; with_reducible rfl⟩ ?_
    refine ta_ 6 (some 9) (bm_ 17 127) rfl HT_ HW_ ⟨by rfl, by rintro w' ⟨s0, s1, s2, s3⟩; go_simp; with_reducible rfl⟩ hHeld ?_
    refine pu_ 7 (some 10) (bm_ 17 255) rfl HT_ ⟨by rfl, by intro w'; go_simp; with_reducible rfl⟩ ?_
    refine pu_ 8 (some 11) (bm_ 17 511) rfl HT_ ⟨by rfl, by intro w'; go_simp; with_reducible rfl⟩ ?_
    refine pu_ 9 (some 12) (bm_ 17 1023) rfl HT_ ⟨by rfl, by intro w'; go_simp; with_reducible rfl⟩ ?_
    refine pu_ 10 (some 13) (bm_ 17 2047) rfl HT_ ⟨by rfl, by intro w'; go_simp; with_reducible rfl⟩ ?_
    refine pu_ 12 (some 15) (bm_ 17 6143) rfl HT_ ⟨by rfl, by intro w'; go_simp; with_reducible rfl⟩ ?_
    refine ta_ 11 (some 14) (bm_ 17 8191) rfl HT_ HW_ ⟨by rfl, by rintro w' ⟨s0, s1, s2, s3⟩; go_simp; with_reducible rfl⟩ hHeld ?_
    refine ta_ 13 (some 16) (bm_ 17 16383) rfl HT_ HW_ ⟨by rfl, by rintro w' ⟨s0, s1, s2, s3⟩; go_simp; with_reducible rfl⟩ hHeld ?_
    refine one_ (i := 14) (N := some 17) (bm_ 17 32767) rfl rfl (one_of HT_.out (by kernel_rfl)) (by decide) (fun K hK => ?_)
    refine gr_ Tryz.func23 #[.agg #[.bool a0_0, .int .u64 a0_1, .int .u64 a0_2]] ?_
    with_reducible refine (platbookref02_Width.calls a0_0 a0_1 a0_2 t191 _ A8.out).mono ?_
    rintro e w18 ⟨rfl, hb⟩
    refine ⟨_, rfl, ?_⟩
    replace BK189 := bb_ BK189 hb
    replace HB := bs_ HB hb
    (try clear hb)
    (try clear hb2)
    (try clear hk)
    (try clear hi)
    refine hK.out _ _ ⟨kc_ BK189 0, kc_ BK189 1, kc_ BK189 2, kc_ BK189 3⟩ (fun hHeld => ?_)
    clear hK K
    refine norm_ (a' := ?_) ?_ ?_
    rotate_left
    ·
     show Act.put _ (some 17) _ = _
     simp only [Act.put, List.setIfInBounds_toArray, List.set_cons_zero, List.set_cons_succ, i64_w, i32_w]
     rfl
    refine pu_ 15 (some 18) (bm_ 17 65535) rfl HT_ ⟨by rfl, by intro w'; go_simp; with_reducible rfl⟩ ?_
    refine pu_ 16 (some 19) (bm_ 17 131071) rfl HT_ ⟨by rfl, by intro w'; go_simp; with_reducible rfl⟩ ?_
    refine done_ (done_of HT_.out (by kernel_rfl)) ?_
    try go_wp2
    replace BK189 := Aside0.mk (blk_drew BK189.out)
    replace HB := Aside0.mk (below_drew1 HB.out)
    refine start_ (n := 9) (S := fun w' => w'.cell? ⟨gb189, 0, none⟩ = some (.bool a0_0) ∧ w'.cell? ⟨gb189, 1, none⟩ = some (.int .u64 a0_1) ∧ w'.cell? ⟨gb189, 2, none⟩ = some (.int .u64 a0_2) ∧ w'.cell? ⟨gb189, 3, none⟩ = some (.int .i64 a0_3)) (ds := []) (bm_ 9 0) (by kernel_rfl) rfl rfl ⟨kc_ BK189 0, kc_ BK189 1, kc_ BK189 2, kc_ BK189 3⟩ (fun hHeld => ?_); refine with_tabW platbookref03_Right.tab3 platbookref03_Right.bits3 (fun HT_ HW_ => ?_)
    generalize w18.drew = w19 at BK189 HB hHeld ⊢
    refine pu_ 0 (some 20) (bm_ 9 1) rfl HT_ ⟨by rfl, by intro w'; go_simp; with_reducible rfl⟩ ?_
    refine pu_ 2 (some 22) (bm_ 9 5) rfl HT_ ⟨by rfl, by intro w'; go_simp; with_reducible rfl⟩ ?_
    refine pu_ 5 (some 25) (bm_ 9 37) rfl HT_ ⟨by rfl, by intro w'; go_simp; with_reducible rfl⟩ ?_
    refine ta_ 1 (some 21) (bm_ 9 39) rfl HT_ HW_ ⟨by rfl, by rintro w' ⟨s0, s1, s2, s3⟩; go_simp; with_reducible rfl⟩ hHeld ?_
    refine ta_ 3 (some 23) (bm_ 9 47) rfl HT_ HW_ ⟨by rfl, by rintro w' ⟨s0, s1, s2, s3⟩; go_simp; with_reducible rfl⟩ hHeld ?_
    refine ta_ 6 (some 26) (bm_ 9 111) rfl HT_ HW_ ⟨by rfl, by rintro w' ⟨s0, s1, s2, s3⟩; go_simp; with_reducible rfl⟩ hHeld ?_
    refine one_ (i := 4) (N := some 24) (bm_ 9 127) rfl rfl (one_of HT_.out (by kernel_rfl)) (by decide) (fun K hK => ?_)
    refine gr_ Tryz.func78 #[.agg #[.bool a0_0, .int .u64 a0_1, .int .u64 a0_2], .int .i64 a0_3, .int .i64 0] ?_
    with_reducible refine (platbookref03_Filled.calls k a0_0 a0_1 a0_2 a0_3 0 t192 t193 t194 _ A14.out).mono ?_
    rintro e w20 ⟨rfl, hb⟩
    refine ⟨_, rfl, ?_⟩
    replace BK189 := bb_ BK189 hb
    replace HB := bs_ HB hb
    (try clear hb)
    (try clear hb2)
    (try clear hk)
    (try clear hi)
    refine hK.out _ _ ⟨kc_ BK189 0, kc_ BK189 1, kc_ BK189 2, kc_ BK189 3⟩ (fun hHeld => ?_)
    clear hK K
    refine norm_ (a' := ?_) ?_ ?_
    rotate_left
    ·
     show Act.put _ (some 24) _ = _
     simp only [Act.put, List.setIfInBounds_toArray, List.set_cons_zero, List.set_cons_succ, i64_w, i32_w]
     rfl
    refine pu_ 7 (some 27) (bm_ 9 255) rfl HT_ ⟨by rfl, by intro w'; go_simp; with_reducible rfl⟩ ?_
    refine pu_ 8 (some 2) (bm_ 9 511) rfl HT_ ⟨by rfl, by intro w'; go_simp; with_reducible rfl⟩ ?_
    refine done_ (done_of HT_.out (by kernel_rfl)) ?_
    try go_wp2
    go_ret
    exact ⟨by first | rfl | (simp [errW_none, errW_some] <;> rfl) | (simp [*, errW_none, errW_some] <;> rfl), pb_ HB⟩
 ·
  replace c3 := Bool.eq_false_iff.mpr c3
  subst c3
  have H1 : (some false) = some r := by rw [if_neg (show ¬ (false = true) by decide)] at H; exact H
  clear H
  have H := H1
  clear H1
  obtain rfl := Option.some.inj H
  go_enter Tryz.func29, Tryz.ntmps29
  try go_wp2_with (first | ((with_reducible refine gate_dst (N := 1) rfl ?_); refine bx_ 1 #[.bool a0_0, .int .u64 a0_1, .int .u64 a0_2, .int .i64 a0_3] 38 ?_; intro gb189 hg w21 hbox hb; have BK189 := Aside0.mk (hbox); have GW189 := gw_ HB hg; have GE189 := gw_ HB hg; replace HB := bs_ HB hb; clear hb hbox hg))
  replace BK189 := Aside0.mk (blk_drew BK189.out)
  replace HB := Aside0.mk (below_drew1 HB.out)
  refine start_ (n := 17) (S := fun w' => w'.cell? ⟨gb189, 0, none⟩ = some (.bool a0_0) ∧ w'.cell? ⟨gb189, 1, none⟩ = some (.int .u64 a0_1) ∧ w'.cell? ⟨gb189, 2, none⟩ = some (.int .u64 a0_2) ∧ w'.cell? ⟨gb189, 3, none⟩ = some (.int .i64 a0_3)) (ds := []) (bm_ 17 0) (by kernel_rfl) rfl rfl ⟨kc_ BK189 0, kc_ BK189 1, kc_ BK189 2, kc_ BK189 3⟩ (fun hHeld => ?_); refine with_tabW platbookref03_Right.tab1 platbookref03_Right.bits1 (fun HT_ HW_ => ?_)
  generalize w21.drew = w22 at BK189 HB hHeld ⊢
  refine pu_ 0 (some 3) (bm_ 17 1) rfl HT_ ⟨by rfl, by intro w'; go_simp; with_reducible rfl⟩ ?_
  refine ta_ 1 (some 4) (bm_ 17 3) rfl HT_ HW_ ⟨by rfl, by rintro w' ⟨s0, s1, s2, s3⟩; go_simp; with_reducible rfl⟩ hHeld ?_
  refine one_ (i := 2) (N := some 5) (bm_ 17 7) rfl rfl (one_of HT_.out (by kernel_rfl)) (by decide) (fun K hK => ?_)
  refine gr_ Tryz.func19 #[.agg #[.bool a0_0, .int .u64 a0_1, .int .u64 a0_2]] ?_
  with_reducible refine (platbookref02_Right.calls a0_0 a0_1 a0_2 false _ A2.out).mono ?_
  rintro e w23 ⟨rfl, hb⟩
  refine ⟨_, rfl, ?_⟩
  replace BK189 := bb_ BK189 hb
  replace HB := bs_ HB hb
  (try clear hb)
  (try clear hb2)
  (try clear hk)
  (try clear hi)
  refine hK.out _ _ ⟨kc_ BK189 0, kc_ BK189 1, kc_ BK189 2, kc_ BK189 3⟩ (fun hHeld => ?_)
  clear hK K
  refine norm_ (a' := ?_) ?_ ?_
  rotate_left
  ·
   show Act.put _ (some 5) _ = _
   simp only [Act.put, List.setIfInBounds_toArray, List.set_cons_zero, List.set_cons_succ, i64_w, i32_w]
   rfl
  refine pu_ 3 (some 6) (bm_ 17 15) rfl HT_ ⟨by rfl, by intro w'; go_simp; with_reducible rfl⟩ ?_
  refine pu_ 4 (some 7) (bm_ 17 31) rfl HT_ ⟨by rfl, by intro w'; go_simp; with_reducible rfl⟩ ?_
  refine pure_ (i := 5) (N := some 8) (v := undef) (a' := ?_) (bm_ 17 63) rfl rfl (any_of HT_.out (by kernel_rfl)) (fun _ _ _ h => h) (Or.inr ⟨by rfl, rfl⟩) ?_ ?_
  rotate_left
  ·
   simp only [Act.put, List.setIfInBounds_toArray, List.set_cons_zero, List.set_cons_succ, i64_w, i32_w]
   rfl
  refine pure_ (i := 6) (N := some 9) (v := undef) (a' := ?_) (bm_ 17 127) rfl rfl (any_of HT_.out (by kernel_rfl)) (fun _ _ _ h => h) (Or.inr ⟨by rfl, rfl⟩) ?_ ?_
  rotate_left
  ·
   simp only [Act.put, List.setIfInBounds_toArray, List.set_cons_zero, List.set_cons_succ, i64_w, i32_w]
   rfl
  refine pure_ (i := 7) (N := some 10) (v := undef) (a' := ?_) (bm_ 17 255) rfl rfl (any_of HT_.out (by kernel_rfl)) (fun _ _ _ h => h) (Or.inr ⟨by rfl, rfl⟩) ?_ ?_
  rotate_left
  ·
   simp only [Act.put, List.setIfInBounds_toArray, List.set_cons_zero, List.set_cons_succ, i64_w, i32_w]
   rfl
  refine pu_ 8 (some 11) (bm_ 17 511) rfl HT_ ⟨by rfl, by intro w'; go_simp; with_reducible rfl⟩ ?_
  refine pu_ 9 (some 12) (bm_ 17 1023) rfl HT_ ⟨by rfl, by intro w'; go_simp; with_reducible rfl⟩ ?_
  refine pure_ (i := 10) (N := some 13) (v := undef) (a' := ?_) (bm_ 17 2047) rfl rfl (any_of HT_.out (by kernel_rfl)) (fun _ _ _ h => h) (Or.inr ⟨by rfl, rfl⟩) ?_ ?_
  rotate_left
  ·
   simp only [Act.put, List.setIfInBounds_toArray, List.set_cons_zero, List.set_cons_succ, i64_w, i32_w]
   rfl
  refine pure_ (i := 11) (N := some 14) (v := undef) (a' := ?_) (bm_ 17 4095) rfl rfl (any_of HT_.out (by kernel_rfl)) (fun _ _ _ h => h) (Or.inr ⟨by rfl, rfl⟩) ?_ ?_
  rotate_left
  ·
   simp only [Act.put, List.setIfInBounds_toArray, List.set_cons_zero, List.set_cons_succ, i64_w, i32_w]
   rfl
  refine pure_ (i := 12) (N := some 15) (v := undef) (a' := ?_) (bm_ 17 8191) rfl rfl (any_of HT_.out (by kernel_rfl)) (fun _ _ _ h => h) (Or.inr ⟨by rfl, rfl⟩) ?_ ?_
  rotate_left
  ·
   simp only [Act.put, List.setIfInBounds_toArray, List.set_cons_zero, List.set_cons_succ, i64_w, i32_w]
   rfl
  refine pure_ (i := 13) (N := some 16) (v := undef) (a' := ?_) (bm_ 17 16383) rfl rfl (any_of HT_.out (by kernel_rfl)) (fun _ _ _ h => h) (Or.inr ⟨by rfl, rfl⟩) ?_ ?_
  rotate_left
  ·
   simp only [Act.put, List.setIfInBounds_toArray, List.set_cons_zero, List.set_cons_succ, i64_w, i32_w]
   rfl
  refine pure_ (i := 14) (N := some 17) (v := undef) (a' := ?_) (bm_ 17 32767) rfl rfl (any_of HT_.out (by kernel_rfl)) (fun _ _ _ h => h) (Or.inr ⟨by rfl, rfl⟩) ?_ ?_
  rotate_left
  ·
   simp only [Act.put, List.setIfInBounds_toArray, List.set_cons_zero, List.set_cons_succ, i64_w, i32_w]
   rfl
  refine pure_ (i := 15) (N := some 18) (v := undef) (a' := ?_) (bm_ 17 65535) rfl rfl (any_of HT_.out (by kernel_rfl)) (fun _ _ _ h => h) (Or.inr ⟨by rfl, rfl⟩) ?_ ?_
  rotate_left
  ·
   simp only [Act.put, List.setIfInBounds_toArray, List.set_cons_zero, List.set_cons_succ, i64_w, i32_w]
   rfl
  refine pu_ 16 (some 19) (bm_ 17 131071) rfl HT_ ⟨by rfl, by intro w'; go_simp; with_reducible rfl⟩ ?_
  refine done_ (done_of HT_.out (by kernel_rfl)) ?_
  try go_wp2
  go_ret
  exact ⟨by first | rfl | (simp [errW_none, errW_some] <;> rfl) | (simp [*, errW_none, errW_some] <;> rfl), pb_ HB⟩

def prefix_Of.j0 : Nat → Int → Bool → Bool → Int → Int → Option (Bool × Int × Int × Int × Int)
 | 0, _, _, _, _, _ => none
 | k + 1, x1, x19, x196000, x196001, x196002 => if x19 = true then (some (false, 0, 0, 0, 1)) else ((prefix_free.f x196000 x196001 x196002 x1).bind fun bt200 => ((num_Not.f bt200.1 bt200.2).bind fun bt202 => ((num_And.f x196001 x196002 bt202.1 bt202.2).bind fun bt204 => (some (x196000, bt204.1, bt204.2, x1, 0)))))
def prefix_Of.f (k : Nat) (a0_0 : Bool) (a0_1 : Int) (a0_2 : Int) (a1 : Int) : Option (Bool × Int × Int × Int × Int) := (addr_Right.f a0_0 a0_1 a0_2).bind fun t197 => (if t197 = true then (if a1 < 0 then (prefix_Of.j0 k a1 true a0_0 a0_1 a0_2) else ((addr_Width.f a0_0 a0_1 a0_2).bind fun t198 => (prefix_Of.j0 k a1 (decide (a1 > t198)) a0_0 a0_1 a0_2))) else (prefix_Of.j0 k a1 true a0_0 a0_1 a0_2))
def prefix_Of.T4 : Bool × List (List Nat × List Nat) := (true, [([], []), ([0], [0]), ([], []), ([2], [2]), ([3, 3], [3]), ([1, 4, 4], [1, 4]), ([0, 1, 2, 3, 4, 5], []), ([6, 0, 1, 2, 3, 4, 5], [6]), ([7, 5, 5, 0, 1, 2, 3, 4, 5], [5, 7])])
def prefix_Of.B4 : List Nat := [0, 1, 0, 4, 12, 31, 63, 127, 255]
theorem prefix_Of.tab4 : rtab .any (opsOf Tryz.f34 4) = prefix_Of.T4 := by kernel_rfl
theorem prefix_Of.bits4 : waitsOk prefix_Of.T4.2 prefix_Of.B4 = true := by kernel_rfl
set_option maxHeartbeats 8000000 in
set_option maxRecDepth 100000 in
theorem prefix_Of.calls (k : Nat) (a0_0 : Bool) (a0_1 : Int) (a0_2 : Int) (a1 : Int) (r1 : Bool) (r2 : Int) (r3 : Int) (r4 : Int) (r5 : Int) (w : World) (h : prefix_Of.f k a0_0 a0_1 a0_2 a1 = some (r1, r2, r3, r4, r5)) :
  Calls Tryz.prog 34 #[.agg #[.bool a0_0, .int .u64 a0_1, .int .u64 a0_2], .int .i64 a1] w fun e w' => e = .returned (.tuple #[.agg #[.bool r1, .int .u64 r2, .int .u64 r3, .int .i64 r4], .int .i64 r5]) ∧ Below w.heap.size w w' := by
 have hu26 := Tryz.underlying26
 have hu38 := Tryz.underlying38
 have hu24 := Tryz.underlying24
 have HB := Aside0.mk (Below.refl w.heap.size w)
 have H : ((addr_Right.f a0_0 a0_1 a0_2).bind fun t197 => (if t197 = true then (if a1 < 0 then (prefix_Of.j0 k a1 true a0_0 a0_1 a0_2) else ((addr_Width.f a0_0 a0_1 a0_2).bind fun t198 => (prefix_Of.j0 k a1 (decide (a1 > t198)) a0_0 a0_1 a0_2))) else (prefix_Of.j0 k a1 true a0_0 a0_1 a0_2))) = some (r1, r2, r3, r4, r5) := h
 clear h
 have HC3 := Aside0.mk H
 clear H
 go_enter Tryz.func34, Tryz.ntmps34
 go_upto_region 1 with (first | ((with_reducible refine gate_dst (N := 2) rfl ?_); refine bx_ 2 #[.bool a0_0, .int .u64 a0_1, .int .u64 a0_2] 26 ?_; intro gb195 hg w4 hbox hb; have BK195 := Aside0.mk (hbox); have GW195 := gw_ HB hg; have GE195 := gw_ HB hg; replace HB := bs_ HB hb; clear hb hbox hg) | ((with_reducible refine gate_dst (N := 4) rfl ?_); refine bx_ 4 #[.bool false, .int .u64 0, .int .u64 0, .int .i64 0] 38 ?_; intro gb196 hg w5 hbox hb; have BK196 := Aside0.mk (hbox); have GW196 := gw_ HB hg; have GE196 := gw_ HB hg; have NB195_196 := nl_ BK195 hg; have NB196_195 := ng_ BK195 hg; replace BK195 := bb_ BK195 hb; replace HB := bs_ HB hb; clear hb hbox hg))
 (try simp only [Act.put, List.setIfInBounds_toArray, List.set_cons_zero, List.set_cons_succ])
 go_cut [19] (fun v19 wc => ∃ (kq : Nat) (x19_2 : Bool), v19 = .bool x19_2 ∧ Aside0 (prefix_Of.j0 kq a1 x19_2 a0_0 a0_1 a0_2 = some (r1, r2, r3, r4, r5)) ∧ Aside0 (kq ≤ k) ∧ Aside0 (wc.heap[gb195]? = some (.cells #[.bool a0_0, .int .u64 a0_1, .int .u64 a0_2] 26 (0, 0))) ∧ Aside0 (wc.heap[gb196]? = some (.cells #[.bool false, .int .u64 0, .int .u64 0, .int .i64 0] 38 (0, 0))) ∧ Aside0 (Below w.heap.size w wc))
 case first =>
  have H := HC3.out
  clear HC3
  replace H := Option.bind_eq_some_iff.mp H
  obtain ⟨t197, A60, H⟩ := H
  replace H : (if t197 = true then (if a1 < 0 then (prefix_Of.j0 k a1 true a0_0 a0_1 a0_2) else ((addr_Width.f a0_0 a0_1 a0_2).bind fun t198 => (prefix_Of.j0 k a1 (decide (a1 > t198)) a0_0 a0_1 a0_2))) else (prefix_Of.j0 k a1 true a0_0 a0_1 a0_2)) = some (r1, r2, r3, r4, r5) := H
  have A6 := Aside0.mk A60
  clear A60
  by_cases c7 : t197 = true
  ·
   subst c7
   rw [if_pos rfl] at H
   by_cases c8 : a1 < 0
   ·
    rw [if_pos c8] at H
    have c8b0 : decide (a1 < 0) = true := decide_eq_true c8
    clear c8
    (first | rw [c8b0] | (simp only [i64_w, i32_w]; rw [c8b0]) | skip)
    have H' := Aside0.mk H
    clear H
    have hnb9 := NB195_196.out
    have hnc9 := NB196_195.out
    obtain ⟨hcz10_0, hcz10_1, hcz10_2, hfz10_0, hfz10_1, hfz10_2⟩ := c3_ BK195
    go_wp2_with (first | ((with_reducible refine gate_callee (f := 18) rfl ?_); refine gl_ (some 8) Tryz.func18 #[.agg #[.bool a0_0, .int .u64 a0_1, .int .u64 a0_2]] ?_; (with_reducible refine (addr_Right.calls a0_0 a0_1 a0_2 true _ A6.out).mono ?_); rintro e w11 ⟨rfl, hb⟩; refine ⟨_, rfl, ?_⟩; replace BK195 := bb_ BK195 hb; replace BK196 := bb_ BK196 hb; replace HB := bs_ HB hb; (try clear hb); (try clear hb2); (try clear hk); (try clear hi)))
    go_meet
    case rel => exact ⟨_, (true), (by first | rfl | (simp; done) | (simp [*]; done)), H', ⟨by first | omega | exact Nat.le_refl _⟩, ⟨by refine pw_ ?_; exact BK195.out⟩, ⟨by refine pw_ ?_; exact BK196.out⟩, ⟨pb_ HB⟩⟩
   ·
    rw [if_neg c8] at H
    have c8b0 : decide (a1 < 0) = false := decide_eq_false c8
    clear c8
    (first | rw [c8b0] | (simp only [i64_w, i32_w]; rw [c8b0]) | skip)
    replace H := Option.bind_eq_some_iff.mp H
    obtain ⟨t198, A120, H⟩ := H
    replace H : (prefix_Of.j0 k a1 (decide (a1 > t198)) a0_0 a0_1 a0_2) = some (r1, r2, r3, r4, r5) := H
    have A12 := Aside0.mk A120
    clear A120
    have H' := Aside0.mk H
    clear H
    have hnb13 := NB195_196.out
    have hnc13 := NB196_195.out
    obtain ⟨hcz14_0, hcz14_1, hcz14_2, hfz14_0, hfz14_1, hfz14_2⟩ := c3_ BK195
    go_wp2_with (first | ((with_reducible refine gate_callee (f := 18) rfl ?_); refine gl_ (some 8) Tryz.func18 #[.agg #[.bool a0_0, .int .u64 a0_1, .int .u64 a0_2]] ?_; (with_reducible refine (addr_Right.calls a0_0 a0_1 a0_2 true _ A6.out).mono ?_); rintro e w15 ⟨rfl, hb⟩; refine ⟨_, rfl, ?_⟩; replace BK195 := bb_ BK195 hb; replace BK196 := bb_ BK196 hb; replace HB := bs_ HB hb; (try clear hb); (try clear hb2); (try clear hk); (try clear hi); obtain ⟨hcz16_0, hcz16_1, hcz16_2, hfz16_0, hfz16_1, hfz16_2⟩ := c3_ BK195) | (go_at_call 22; (with_reducible refine (addr_Width.calls a0_0 a0_1 a0_2 t198 _ A12.out).mono ?_); rintro e w17 ⟨rfl, hb⟩; replace BK195 := bb_ BK195 hb; replace BK196 := bb_ BK196 hb; replace HB := bs_ HB hb; (try clear hb); (try clear hb2); (try clear hk); (try clear hi)))
    go_meet
    case rel => exact ⟨_, (decide (a1 > t198)), (by first | rfl | (simp; done) | (simp [*]; done)), H', ⟨by first | omega | exact Nat.le_refl _⟩, ⟨by refine pw_ ?_; exact BK195.out⟩, ⟨by refine pw_ ?_; exact BK196.out⟩, ⟨pb_ HB⟩⟩
  ·
   replace c7 := Bool.eq_false_iff.mpr c7
   subst c7
   have H1 : (prefix_Of.j0 k a1 true a0_0 a0_1 a0_2) = some (r1, r2, r3, r4, r5) := by rw [if_neg (show ¬ (false = true) by decide)] at H; exact H
   clear H
   have H := H1
   clear H1
   have H' := Aside0.mk H
   clear H
   have hnb18 := NB195_196.out
   have hnc18 := NB196_195.out
   obtain ⟨hcz19_0, hcz19_1, hcz19_2, hfz19_0, hfz19_1, hfz19_2⟩ := c3_ BK195
   go_wp2_with (first | ((with_reducible refine gate_callee (f := 18) rfl ?_); refine gl_ (some 8) Tryz.func18 #[.agg #[.bool a0_0, .int .u64 a0_1, .int .u64 a0_2]] ?_; (with_reducible refine (addr_Right.calls a0_0 a0_1 a0_2 false _ A6.out).mono ?_); rintro e w20 ⟨rfl, hb⟩; refine ⟨_, rfl, ?_⟩; replace BK195 := bb_ BK195 hb; replace BK196 := bb_ BK196 hb; replace HB := bs_ HB hb; (try clear hb); (try clear hb2); (try clear hk); (try clear hi)))
   go_meet
   case rel => exact ⟨_, (true), (by first | rfl | (simp; done) | (simp [*]; done)), H', ⟨by first | omega | exact Nat.le_refl _⟩, ⟨by refine pw_ ?_; exact BK195.out⟩, ⟨by refine pw_ ?_; exact BK196.out⟩, ⟨pb_ HB⟩⟩
 case rest =>
  clear HC3
  try clear c1
  try clear p2
  try clear c3
  try clear c7
  try clear c8
  try clear c8b0
  try clear c9
  try clear c13
  try clear c18
  try clear hcz10_0
  try clear hcz10_1
  try clear hcz10_2
  try clear hcz14_0
  try clear hcz14_1
  try clear hcz14_2
  try clear hcz16_0
  try clear hcz16_1
  try clear hcz16_2
  try clear hcz19_0
  try clear hcz19_1
  try clear hcz19_2
  try clear hfz10_0
  try clear hfz10_1
  try clear hfz10_2
  try clear hfz14_0
  try clear hfz14_1
  try clear hfz14_2
  try clear hfz16_0
  try clear hfz16_1
  try clear hfz16_2
  try clear hfz19_0
  try clear hfz19_1
  try clear hfz19_2
  obtain ⟨kq, x19_2, rfl, HA, HJ2, BK195, BK196, HB⟩ := hcut
  cases kq with
  | zero => exact absurd HA.out (by simp [prefix_Of.j0])
  | succ kj2 =>
   have H := HA.out
   clear HA
   simp only [prefix_Of.j0] at H
   by_cases c21 : x19_2 = true
   ·
    subst c21
    rw [if_pos rfl] at H
    simp only [Option.some.injEq, Prod.mk.injEq] at H
    obtain ⟨rfl, rfl, rfl, rfl, rfl⟩ := H
    have hnb22 := NB196_195.out
    have hnc22 := NB195_196.out
    obtain ⟨hcz23_0, hcz23_1, hcz23_2, hcz23_3, hfz23_0, hfz23_1, hfz23_2, hfz23_3⟩ := c4_ BK196
    go_wp2
    refine bodyPost_ret (results_ct rfl _ _ gb196 38 #[.bool false, .int .u64 0, .int .u64 0, .int .i64 0] (0, 0) _ rfl (by refine pw_ ?_; refine blk_put (cs := #[.bool false, .int .u64 0, .int .u64 0, .int .i64 0]) ?_ 3 _ rfl; refine pw_ ?_; refine blk_put (cs := #[.bool false, .int .u64 0, .int .u64 0, .int .i64 0]) ?_ 2 _ rfl; refine pw_ ?_; refine blk_put (cs := #[.bool false, .int .u64 0, .int .u64 0, .int .i64 0]) ?_ 1 _ rfl; refine pw_ ?_; refine blk_put (cs := #[.bool false, .int .u64 0, .int .u64 0, .int .i64 0]) ?_ 0 _ rfl; refine pw_ ?_; exact BK196.out) Tryz.underlying38 rfl (by kernel_rfl)) rfl ?_
    exact ⟨by first | rfl | (simp [errW_none, errW_some] <;> rfl) | (simp [*, errW_none, errW_some] <;> rfl), pb_ HB⟩
   ·
    replace c21 := Bool.eq_false_iff.mpr c21
    subst c21
    have H1 : ((prefix_free.f a0_0 a0_1 a0_2 a1).bind fun bt200 => ((num_Not.f bt200.1 bt200.2).bind fun bt202 => ((num_And.f a0_1 a0_2 bt202.1 bt202.2).bind fun bt204 => (some (a0_0, bt204.1, bt204.2, a1, 0))))) = some (r1, r2, r3, r4, r5) := by rw [if_neg (show ¬ (false = true) by decide)] at H; exact H
    clear H
    have H := H1
    clear H1
    replace H := Option.bind_eq_some_iff.mp H
    obtain ⟨⟨t200, t201⟩, A240, H⟩ := H
    replace H : ((num_Not.f t200 t201).bind fun bt202 => ((num_And.f a0_1 a0_2 bt202.1 bt202.2).bind fun bt204 => (some (a0_0, bt204.1, bt204.2, a1, 0)))) = some (r1, r2, r3, r4, r5) := H
    have A24 := Aside0.mk A240
    clear A240
    replace H := Option.bind_eq_some_iff.mp H
    obtain ⟨⟨t202, t203⟩, A250, H⟩ := H
    replace H : ((num_And.f a0_1 a0_2 t202 t203).bind fun bt204 => (some (a0_0, bt204.1, bt204.2, a1, 0))) = some (r1, r2, r3, r4, r5) := H
    have A25 := Aside0.mk A250
    clear A250
    replace H := Option.bind_eq_some_iff.mp H
    obtain ⟨⟨t204, t205⟩, A260, H⟩ := H
    replace H : (some (a0_0, t204, t205, a1, 0)) = some (r1, r2, r3, r4, r5) := H
    have A26 := Aside0.mk A260
    clear A260
    simp only [Option.some.injEq, Prod.mk.injEq] at H
    obtain ⟨rfl, rfl, rfl, rfl, rfl⟩ := H
    have hnb27 := NB195_196.out
    have hnc27 := NB196_195.out
    obtain ⟨hcz28_0, hcz28_1, hcz28_2, hfz28_0, hfz28_1, hfz28_2⟩ := c3_ BK195
    try go_wp2_with (first | ((with_reducible refine gate_dst (N := 6) rfl ?_); refine bx_ 6 #[.bool false, .int .u64 0, .int .u64 0, .int .i64 0] 38 ?_; intro gb199 hg w29 hbox hb; have BK199 := Aside0.mk (hbox); have GW199 := gw_ HB hg; have GE199 := gw_ HB hg; have NB195_199 := nl_ BK195 hg; have NB199_195 := ng_ BK195 hg; have NB196_199 := nl_ BK196 hg; have NB199_196 := ng_ BK196 hg; replace BK195 := bb_ BK195 hb; replace BK196 := bb_ BK196 hb; replace HB := bs_ HB hb; clear hb hbox hg; have hnb30 := NB199_195.out; have hnc30 := NB195_199.out; have hnb31 := NB199_196.out; have hnc31 := NB196_199.out; obtain ⟨hcz32_0, hcz32_1, hcz32_2, hcz32_3, hfz32_0, hfz32_1, hfz32_2, hfz32_3⟩ := c4_ BK199))
    have n0_ : Aside0 (((((w29.setCell ⟨gb199, 0, none⟩ (.bool a0_0)).setCell ⟨gb199, 1, none⟩ (.int .u64 a0_1)).setCell ⟨gb199, 2, none⟩ (.int .u64 a0_2)).setCell ⟨gb199, 3, none⟩ (.int .i64 a1)).heap[gb195]? = some (.cells #[.bool a0_0, .int .u64 a0_1, .int .u64 a0_2] 26 (0, 0))) := ⟨by refine pw_ ?_; refine blk_far ?_ NB195_199.out _; refine pw_ ?_; refine blk_far ?_ NB195_199.out _; refine pw_ ?_; refine blk_far ?_ NB195_199.out _; refine pw_ ?_; refine blk_far ?_ NB195_199.out _; refine pw_ ?_; exact BK195.out⟩
    have n1_ : Aside0 (((((w29.setCell ⟨gb199, 0, none⟩ (.bool a0_0)).setCell ⟨gb199, 1, none⟩ (.int .u64 a0_1)).setCell ⟨gb199, 2, none⟩ (.int .u64 a0_2)).setCell ⟨gb199, 3, none⟩ (.int .i64 a1)).heap[gb196]? = some (.cells #[.bool false, .int .u64 0, .int .u64 0, .int .i64 0] 38 (0, 0))) := ⟨by refine pw_ ?_; refine blk_far ?_ NB196_199.out _; refine pw_ ?_; refine blk_far ?_ NB196_199.out _; refine pw_ ?_; refine blk_far ?_ NB196_199.out _; refine pw_ ?_; refine blk_far ?_ NB196_199.out _; refine pw_ ?_; exact BK196.out⟩
    have n2_ : Aside0 (((((w29.setCell ⟨gb199, 0, none⟩ (.bool a0_0)).setCell ⟨gb199, 1, none⟩ (.int .u64 a0_1)).setCell ⟨gb199, 2, none⟩ (.int .u64 a0_2)).setCell ⟨gb199, 3, none⟩ (.int .i64 a1)).heap[gb199]? = some (.cells #[.bool a0_0, .int .u64 a0_1, .int .u64 a0_2, .int .i64 a1] 38 (0, 0))) := ⟨by refine pw_ ?_; refine blk_put (cs := #[.bool a0_0, .int .u64 a0_1, .int .u64 a0_2, .int .i64 0]) ?_ 3 _ rfl; refine pw_ ?_; refine blk_put (cs := #[.bool a0_0, .int .u64 a0_1, .int .u64 0, .int .i64 0]) ?_ 2 _ rfl; refine pw_ ?_; refine blk_put (cs := #[.bool a0_0, .int .u64 0, .int .u64 0, .int .i64 0]) ?_ 1 _ rfl; refine pw_ ?_; refine blk_put (cs := #[.bool false, .int .u64 0, .int .u64 0, .int .i64 0]) ?_ 0 _ rfl; refine pw_ ?_; exact BK199.out⟩
    have n3_ : Aside0 (Below w.heap.size w ((((w29.setCell ⟨gb199, 0, none⟩ (.bool a0_0)).setCell ⟨gb199, 1, none⟩ (.int .u64 a0_1)).setCell ⟨gb199, 2, none⟩ (.int .u64 a0_2)).setCell ⟨gb199, 3, none⟩ (.int .i64 a1))) := ⟨pb_ HB⟩
    (try clear BK195)
    (try clear BK196)
    (try clear BK199)
    (try clear HB)
    generalize ((((w29.setCell ⟨gb199, 0, none⟩ (.bool a0_0)).setCell ⟨gb199, 1, none⟩ (.int .u64 a0_1)).setCell ⟨gb199, 2, none⟩ (.int .u64 a0_2)).setCell ⟨gb199, 3, none⟩ (.int .i64 a1)) = w33 at n0_ n1_ n2_ n3_ ⊢
    have BK195 := n0_
    have BK196 := n1_
    have BK199 := n2_
    have HB := n3_
    clear n0_ n1_ n2_ n3_
    replace BK195 := Aside0.mk (blk_drew BK195.out)
    replace BK196 := Aside0.mk (blk_drew BK196.out)
    replace BK199 := Aside0.mk (blk_drew BK199.out)
    replace HB := Aside0.mk (below_drew1 HB.out)
    refine start_ (n := 9) (S := fun w' => w'.cell? ⟨gb195, 0, none⟩ = some (.bool a0_0) ∧ w'.cell? ⟨gb195, 1, none⟩ = some (.int .u64 a0_1) ∧ w'.cell? ⟨gb195, 2, none⟩ = some (.int .u64 a0_2) ∧ w'.cell? ⟨gb199, 0, none⟩ = some (.bool a0_0) ∧ w'.cell? ⟨gb199, 1, none⟩ = some (.int .u64 a0_1) ∧ w'.cell? ⟨gb199, 2, none⟩ = some (.int .u64 a0_2) ∧ w'.cell? ⟨gb199, 3, none⟩ = some (.int .i64 a1)) (ds := [8]) (bm_ 9 0) (by kernel_rfl) rfl rfl ⟨kc_ BK195 0, kc_ BK195 1, kc_ BK195 2, kc_ BK199 0, kc_ BK199 1, kc_ BK199 2, kc_ BK199 3⟩ (fun hHeld => ?_); refine with_tabW prefix_Of.tab4 prefix_Of.bits4 (fun HT_ HW_ => ?_)
    generalize w33.drew = w34 at BK195 BK196 BK199 HB hHeld ⊢
    refine pu_ 0 (some 24) (bm_ 9 1) rfl HT_ ⟨by rfl, by intro w'; go_simp; with_reducible rfl⟩ ?_
    refine ta_ 1 (some 25) (bm_ 9 3) rfl HT_ HW_ ⟨by rfl, by rintro w' ⟨s0, s1, s2, s3, s4, s5, s6⟩; go_simp; with_reducible rfl⟩ hHeld ?_
    refine ta_ 2 (some 26) (bm_ 9 7) rfl HT_ HW_ ⟨by rfl, by rintro w' ⟨s0, s1, s2, s3, s4, s5, s6⟩; go_simp; with_reducible rfl⟩ hHeld ?_
    refine one_ (i := 3) (N := some 27) (bm_ 9 15) rfl rfl (one_of HT_.out (by kernel_rfl)) (by decide) (fun K hK => ?_)
    refine gr_ Tryz.func85 #[.agg #[.bool a0_0, .int .u64 a0_1, .int .u64 a0_2, .int .i64 a1]] ?_
    with_reducible refine (prefix_free.calls a0_0 a0_1 a0_2 a1 t200 t201 _ A24.out).mono ?_
    rintro e w35 ⟨rfl, hb⟩
    refine ⟨_, rfl, ?_⟩
    replace BK195 := bb_ BK195 hb
    replace BK196 := bb_ BK196 hb
    replace BK199 := bb_ BK199 hb
    replace HB := bs_ HB hb
    (try clear hb)
    (try clear hb2)
    (try clear hk)
    (try clear hi)
    refine hK.out _ _ ⟨kc_ BK195 0, kc_ BK195 1, kc_ BK195 2, kc_ BK199 0, kc_ BK199 1, kc_ BK199 2, kc_ BK199 3⟩ (fun hHeld => ?_)
    clear hK K
    refine norm_ (a' := ?_) ?_ ?_
    rotate_left
    ·
     show Act.put _ (some 27) _ = _
     simp only [Act.put, List.setIfInBounds_toArray, List.set_cons_zero, List.set_cons_succ, i64_w, i32_w]
     rfl
    refine one_ (i := 4) (N := some 28) (bm_ 9 31) rfl rfl (one_of HT_.out (by kernel_rfl)) (by decide) (fun K hK => ?_)
    refine gr_ Tryz.func81 #[.agg #[.int .u64 t200, .int .u64 t201]] ?_
    with_reducible refine (num_Not.calls t200 t201 t202 t203 _ A25.out).mono ?_
    rintro e w36 ⟨rfl, hb⟩
    refine ⟨_, rfl, ?_⟩
    replace BK195 := bb_ BK195 hb
    replace BK196 := bb_ BK196 hb
    replace BK199 := bb_ BK199 hb
    replace HB := bs_ HB hb
    (try clear hb)
    (try clear hb2)
    (try clear hk)
    (try clear hi)
    refine hK.out _ _ ⟨kc_ BK195 0, kc_ BK195 1, kc_ BK195 2, kc_ BK199 0, kc_ BK199 1, kc_ BK199 2, kc_ BK199 3⟩ (fun hHeld => ?_)
    clear hK K
    refine norm_ (a' := ?_) ?_ ?_
    rotate_left
    ·
     show Act.put _ (some 28) _ = _
     simp only [Act.put, List.setIfInBounds_toArray, List.set_cons_zero, List.set_cons_succ, i64_w, i32_w]
     rfl
    refine one_ (i := 5) (N := some 29) (bm_ 9 63) rfl rfl (one_of HT_.out (by kernel_rfl)) (by decide) (fun K hK => ?_)
    refine gr_ Tryz.func79 #[.agg #[.int .u64 a0_1, .int .u64 a0_2], .agg #[.int .u64 t202, .int .u64 t203]] ?_
    with_reducible refine (num_And.calls a0_1 a0_2 t202 t203 t204 t205 _ A26.out).mono ?_
    rintro e w37 ⟨rfl, hb⟩
    refine ⟨_, rfl, ?_⟩
    replace BK195 := bb_ BK195 hb
    replace BK196 := bb_ BK196 hb
    replace BK199 := bb_ BK199 hb
    replace HB := bs_ HB hb
    (try clear hb)
    (try clear hb2)
    (try clear hk)
    (try clear hi)
    refine hK.out _ _ ⟨kc_ BK195 0, kc_ BK195 1, kc_ BK195 2, kc_ BK199 0, kc_ BK199 1, kc_ BK199 2, kc_ BK199 3⟩ (fun hHeld => ?_)
    clear hK K
    refine norm_ (a' := ?_) ?_ ?_
    rotate_left
    ·
     show Act.put _ (some 29) _ = _
     simp only [Act.put, List.setIfInBounds_toArray, List.set_cons_zero, List.set_cons_succ, i64_w, i32_w]
     rfl
    refine pu_ 6 (some 30) (bm_ 9 127) rfl HT_ ⟨by rfl, by intro w'; go_simp; with_reducible rfl⟩ ?_
    refine pu_ 7 (some 31) (bm_ 9 255) rfl HT_ ⟨by rfl, by intro w'; go_simp; with_reducible rfl⟩ ?_
    refine last_ (i := 8) (N := none) (bm_ 9 511) rfl rfl (one_of HT_.out (by kernel_rfl)) (by decide) (fun K hK => ?_)
    have hs38 : w37.cell? ⟨gb199, 1, none⟩ = some (.int .u64 a0_1) := kc_ BK199 1
    have hfs38 := blk_frozen BK199.out 1
    have hns38_0 := NB195_199.out
    have hns38_1 := NB196_199.out
    have hms38_0 := NB199_195.out
    have hms38_1 := NB199_196.out
    have hs39 : w37.cell? ⟨gb199, 2, none⟩ = some (.int .u64 a0_2) := kc_ BK199 2
    have hfs39 := blk_frozen BK199.out 2
    have hns39_0 := NB195_199.out
    have hns39_1 := NB196_199.out
    have hms39_0 := NB199_195.out
    have hms39_1 := NB199_196.out
    refine skip_ (w1 := ?_) (by rfl) rfl ?_ ?_
    rotate_left
    ·
     go_simp
     rfl
    refine hK.out _ _ ?_
    clear hK K
    refine done_ (done_of HT_.out (by kernel_rfl)) ?_
    obtain ⟨hcz40_0, hcz40_1, hcz40_2, hcz40_3, hfz40_0, hfz40_1, hfz40_2, hfz40_3⟩ := c4_ BK199
    obtain ⟨hcz41_0, hcz41_1, hcz41_2, hcz41_3, hfz41_0, hfz41_1, hfz41_2, hfz41_3⟩ := c4_ BK196
    try go_wp2
    refine bodyPost_ret (results_ct rfl _ _ gb196 38 #[.bool a0_0, .int .u64 t204, .int .u64 t205, .int .i64 a1] (0, 0) _ rfl (by refine pw_ ?_; refine blk_put (cs := #[.bool a0_0, .int .u64 t204, .int .u64 t205, .int .i64 0]) ?_ 3 _ rfl; refine pw_ ?_; refine blk_put (cs := #[.bool a0_0, .int .u64 t204, .int .u64 0, .int .i64 0]) ?_ 2 _ rfl; refine pw_ ?_; refine blk_put (cs := #[.bool a0_0, .int .u64 0, .int .u64 0, .int .i64 0]) ?_ 1 _ rfl; refine pw_ ?_; refine blk_put (cs := #[.bool false, .int .u64 0, .int .u64 0, .int .i64 0]) ?_ 0 _ rfl; refine pw_ ?_; refine blk_far ?_ NB196_199.out _; refine pw_ ?_; refine blk_far ?_ NB196_199.out _; refine pw_ ?_; exact BK196.out) Tryz.underlying38 rfl (by kernel_rfl)) rfl ?_
    exact ⟨by first | rfl | (simp [errW_none, errW_some] <;> rfl) | (simp [*, errW_none, errW_some] <;> rfl), pb_ HB⟩

end Go.Proofs.YtgdgklibilddgaaGreatDoor.PPr

namespace Go.Proofs.YtgdgklibilddgaaGreatDoor.PPr
open Go.RowKit Go.Proofs.YtgdgklibilddgaaGreatDoorW.PrintWords Go.Proofs.YtgdgklibilddgaaGreatDoorW.PrintLast Go.Proofs.YtgdgklibilddgaaGreatDoorW.PrintMore
attribute [local go_sem] max2_int min2_int max_two min_two max_three min_three max_four min_four   -- for this text's walks alone

attribute [local go_sem high] eqA38
def prefix_Has.f (k : Nat) (a0_0 : Bool) (a0_1 : Int) (a0_2 : Int) (a0_3 : Int) (a1_0 : Bool) (a1_1 : Int) (a1_2 : Int) : Option (Bool) := (prefix_Right.f a0_0 a0_1 a0_2 a0_3).bind fun t208 => (if t208 = true then ((addr_Right.f a1_0 a1_1 a1_2).bind fun t209 => (if t209 = true then (if (a1_0 != a0_0) = true then (some false) else ((prefix_Of.f k a1_0 a1_1 a1_2 a0_3).bind fun bt210 => (some ((bt210.1 == a0_0 && ((bt210.2.1 == a0_1 && (bt210.2.2.1 == a0_2)))) && (bt210.2.2.2.1 == a0_3))))) else (some false))) else (some false))
set_option maxHeartbeats 8000000 in
set_option maxRecDepth 100000 in
theorem prefix_Has.calls (k : Nat) (a0_0 : Bool) (a0_1 : Int) (a0_2 : Int) (a0_3 : Int) (a1_0 : Bool) (a1_1 : Int) (a1_2 : Int) (r : Bool) (w : World) (h : prefix_Has.f k a0_0 a0_1 a0_2 a0_3 a1_0 a1_1 a1_2 = some r) :
  Calls Tryz.prog 40 #[.agg #[.bool a0_0, .int .u64 a0_1, .int .u64 a0_2, .int .i64 a0_3], .agg #[.bool a1_0, .int .u64 a1_1, .int .u64 a1_2]] w fun e w' => e = .returned (.bool r) ∧ Below w.heap.size w w' := by
 have hu38 := Tryz.underlying38
 have hu26 := Tryz.underlying26
 have HB := Aside0.mk (Below.refl w.heap.size w)
 have H : ((prefix_Right.f a0_0 a0_1 a0_2 a0_3).bind fun t208 => (if t208 = true then ((addr_Right.f a1_0 a1_1 a1_2).bind fun t209 => (if t209 = true then (if (a1_0 != a0_0) = true then (some false) else ((prefix_Of.f k a1_0 a1_1 a1_2 a0_3).bind fun bt210 => (some ((bt210.1 == a0_0 && ((bt210.2.1 == a0_1 && (bt210.2.2.1 == a0_2)))) && (bt210.2.2.2.1 == a0_3))))) else (some false))) else (some false))) = some r := h
 clear h
 replace H := Option.bind_eq_some_iff.mp H
 obtain ⟨t208, A30, H⟩ := H
 replace H : (if t208 = true then ((addr_Right.f a1_0 a1_1 a1_2).bind fun t209 => (if t209 = true then (if (a1_0 != a0_0) = true then (some false) else ((prefix_Of.f k a1_0 a1_1 a1_2 a0_3).bind fun bt210 => (some ((bt210.1 == a0_0 && ((bt210.2.1 == a0_1 && (bt210.2.2.1 == a0_2)))) && (bt210.2.2.2.1 == a0_3))))) else (some false))) else (some false)) = some r := H
 have A3 := Aside0.mk A30
 clear A30
 by_cases c4 : t208 = true
 ·
  subst c4
  rw [if_pos rfl] at H
  replace H := Option.bind_eq_some_iff.mp H
  obtain ⟨t209, A50, H⟩ := H
  replace H : (if t209 = true then (if (a1_0 != a0_0) = true then (some false) else ((prefix_Of.f k a1_0 a1_1 a1_2 a0_3).bind fun bt210 => (some ((bt210.1 == a0_0 && ((bt210.2.1 == a0_1 && (bt210.2.2.1 == a0_2)))) && (bt210.2.2.2.1 == a0_3))))) else (some false)) = some r := H
  have A5 := Aside0.mk A50
  clear A50
  by_cases c6 : t209 = true
  ·
   subst c6
   rw [if_pos rfl] at H
   by_cases c7 : (a1_0 != a0_0) = true
   ·
    rw [if_pos c7] at H
    have c7b0 : (a1_0 != a0_0) = true := c7
    (try (have c7b1 : decide (a1_0 = a0_0) = false := by simpa using c7))
    (try (have c7b2 : (a1_0 == a0_0) = false := by simpa using c7))
    (try (have c7b3 : ¬ (a1_0 = a0_0) := by simpa using c7))
    clear c7
    obtain rfl := Option.some.inj H
    go_enter Tryz.func40, Tryz.ntmps40
    go_wp2_with (first | ((with_reducible refine gate_dst (N := 2) rfl ?_); refine bx_ 2 #[.bool a0_0, .int .u64 a0_1, .int .u64 a0_2, .int .i64 a0_3] 38 ?_; intro gb206 hg w8 hbox hb; have BK206 := Aside0.mk (hbox); have GW206 := gw_ HB hg; have GE206 := gw_ HB hg; replace HB := bs_ HB hb; clear hb hbox hg) | ((with_reducible refine gate_dst (N := 3) rfl ?_); refine bx_ 3 #[.bool a1_0, .int .u64 a1_1, .int .u64 a1_2] 26 ?_; intro gb207 hg w9 hbox hb; have BK207 := Aside0.mk (hbox); have GW207 := gw_ HB hg; have GE207 := gw_ HB hg; have NB206_207 := nl_ BK206 hg; have NB207_206 := ng_ BK206 hg; replace BK206 := bb_ BK206 hb; replace HB := bs_ HB hb; clear hb hbox hg; have hnb10 := NB206_207.out; have hnc10 := NB207_206.out; obtain ⟨hcz11_0, hcz11_1, hcz11_2, hcz11_3, hfz11_0, hfz11_1, hfz11_2, hfz11_3⟩ := c4_ BK206) | ((with_reducible refine gate_callee (f := 36) rfl ?_); refine gl_ (some 8) Tryz.func36 #[.agg #[.bool a0_0, .int .u64 a0_1, .int .u64 a0_2, .int .i64 a0_3]] ?_; (with_reducible refine (prefix_Right.calls a0_0 a0_1 a0_2 a0_3 true _ A3.out).mono ?_); rintro e w12 ⟨rfl, hb⟩; refine ⟨_, rfl, ?_⟩; replace BK206 := bb_ BK206 hb; replace BK207 := bb_ BK207 hb; replace HB := bs_ HB hb; (try clear hb); (try clear hb2); (try clear hk); (try clear hi); obtain ⟨hcz13_0, hcz13_1, hcz13_2, hfz13_0, hfz13_1, hfz13_2⟩ := c3_ BK207) | (go_at_call 18; (with_reducible refine (addr_Right.calls a1_0 a1_1 a1_2 true _ A5.out).mono ?_); rintro e w14 ⟨rfl, hb⟩; replace BK206 := bb_ BK206 hb; replace BK207 := bb_ BK207 hb; replace HB := bs_ HB hb; (try clear hb); (try clear hb2); (try clear hk); (try clear hi); obtain ⟨hcz15_0, hcz15_1, hcz15_2, hfz15_0, hfz15_1, hfz15_2⟩ := c3_ BK207; obtain ⟨hcz16_0, hcz16_1, hcz16_2, hcz16_3, hfz16_0, hfz16_1, hfz16_2, hfz16_3⟩ := c4_ BK206))
    go_ret
    exact ⟨by first | rfl | (simp [errW_none, errW_some] <;> rfl) | (simp [*, errW_none, errW_some] <;> rfl), pb_ HB⟩
   ·
    rw [if_neg c7] at H
    have c7b0 : (a1_0 != a0_0) = false := by simpa using c7
    (try (have c7b1 : decide (a1_0 = a0_0) = true := by simpa using c7))
    (try (have c7b2 : (a1_0 == a0_0) = true := by simpa using c7))
    clear c7
    replace H := Option.bind_eq_some_iff.mp H
    obtain ⟨⟨t210, t211, t212, t213, t214⟩, A170, H⟩ := H
    replace H : (some ((t210 == a0_0 && ((t211 == a0_1 && (t212 == a0_2)))) && (t213 == a0_3))) = some r := H
    have A17 := Aside0.mk A170
    clear A170
    obtain rfl := Option.some.inj H
    go_enter Tryz.func40, Tryz.ntmps40
    go_wp2_with (first | ((with_reducible refine gate_dst (N := 2) rfl ?_); refine bx_ 2 #[.bool a0_0, .int .u64 a0_1, .int .u64 a0_2, .int .i64 a0_3] 38 ?_; intro gb206 hg w18 hbox hb; have BK206 := Aside0.mk (hbox); have GW206 := gw_ HB hg; have GE206 := gw_ HB hg; replace HB := bs_ HB hb; clear hb hbox hg) | ((with_reducible refine gate_dst (N := 3) rfl ?_); refine bx_ 3 #[.bool a1_0, .int .u64 a1_1, .int .u64 a1_2] 26 ?_; intro gb207 hg w19 hbox hb; have BK207 := Aside0.mk (hbox); have GW207 := gw_ HB hg; have GE207 := gw_ HB hg; have NB206_207 := nl_ BK206 hg; have NB207_206 := ng_ BK206 hg; replace BK206 := bb_ BK206 hb; replace HB := bs_ HB hb; clear hb hbox hg; have hnb20 := NB206_207.out; have hnc20 := NB207_206.out; obtain ⟨hcz21_0, hcz21_1, hcz21_2, hcz21_3, hfz21_0, hfz21_1, hfz21_2, hfz21_3⟩ := c4_ BK206) | ((with_reducible refine gate_callee (f := 36) rfl ?_); refine gl_ (some 8) Tryz.func36 #[.agg #[.bool a0_0, .int .u64 a0_1, .int .u64 a0_2, .int .i64 a0_3]] ?_; (with_reducible refine (prefix_Right.calls a0_0 a0_1 a0_2 a0_3 true _ A3.out).mono ?_); rintro e w22 ⟨rfl, hb⟩; refine ⟨_, rfl, ?_⟩; replace BK206 := bb_ BK206 hb; replace BK207 := bb_ BK207 hb; replace HB := bs_ HB hb; (try clear hb); (try clear hb2); (try clear hk); (try clear hi); obtain ⟨hcz23_0, hcz23_1, hcz23_2, hfz23_0, hfz23_1, hfz23_2⟩ := c3_ BK207) | (go_at_call 18; (with_reducible refine (addr_Right.calls a1_0 a1_1 a1_2 true _ A5.out).mono ?_); rintro e w24 ⟨rfl, hb⟩; replace BK206 := bb_ BK206 hb; replace BK207 := bb_ BK207 hb; replace HB := bs_ HB hb; (try clear hb); (try clear hb2); (try clear hk); (try clear hi); obtain ⟨hcz25_0, hcz25_1, hcz25_2, hfz25_0, hfz25_1, hfz25_2⟩ := c3_ BK207; obtain ⟨hcz26_0, hcz26_1, hcz26_2, hcz26_3, hfz26_0, hfz26_1, hfz26_2, hfz26_3⟩ := c4_ BK206) | ((with_reducible refine gate_callee (f := 34) rfl ?_); refine gl_ (some 27) Tryz.func34 #[.agg #[.bool a1_0, .int .u64 a1_1, .int .u64 a1_2], .int .i64 a0_3] ?_; (with_reducible refine (prefix_Of.calls k a1_0 a1_1 a1_2 a0_3 t210 t211 t212 t213 t214 _ A17.out).mono ?_); rintro e w27 ⟨rfl, hb⟩; refine ⟨_, rfl, ?_⟩; replace BK206 := bb_ BK206 hb; replace BK207 := bb_ BK207 hb; replace HB := bs_ HB hb; (try clear hb); (try clear hb2); (try clear hk); (try clear hi)) | ((with_reducible refine gate_dst (N := 5) rfl ?_); refine bx_ 5 #[.bool false, .int .u64 0, .int .u64 0, .int .i64 0] 38 ?_; intro gb215 hg w28 hbox hb; have BK215 := Aside0.mk (hbox); have GW215 := gw_ HB hg; have GE215 := gw_ HB hg; have NB206_215 := nl_ BK206 hg; have NB215_206 := ng_ BK206 hg; have NB207_215 := nl_ BK207 hg; have NB215_207 := ng_ BK207 hg; replace BK206 := bb_ BK206 hb; replace BK207 := bb_ BK207 hb; replace HB := bs_ HB hb; clear hb hbox hg; have hnb29 := NB215_206.out; have hnc29 := NB206_215.out; have hnb30 := NB215_207.out; have hnc30 := NB207_215.out; obtain ⟨hcz31_0, hcz31_1, hcz31_2, hcz31_3, hfz31_0, hfz31_1, hfz31_2, hfz31_3⟩ := c4_ BK215; obtain ⟨hcz32_0, hcz32_1, hcz32_2, hcz32_3, hfz32_0, hfz32_1, hfz32_2, hfz32_3⟩ := c4_ BK206))
    go_ret
    exact ⟨by first | rfl | (simp [errW_none, errW_some] <;> rfl) | (simp [*, errW_none, errW_some] <;> rfl), pb_ HB⟩
  ·
   replace c6 := Bool.eq_false_iff.mpr c6
   subst c6
   have H1 : (some false) = some r := by rw [if_neg (show ¬ (false = true) by decide)] at H; exact H
   clear H
   have H := H1
   clear H1
   obtain rfl := Option.some.inj H
   go_enter Tryz.func40, Tryz.ntmps40
   go_wp2_with (first | ((with_reducible refine gate_dst (N := 2) rfl ?_); refine bx_ 2 #[.bool a0_0, .int .u64 a0_1, .int .u64 a0_2, .int .i64 a0_3] 38 ?_; intro gb206 hg w33 hbox hb; have BK206 := Aside0.mk (hbox); have GW206 := gw_ HB hg; have GE206 := gw_ HB hg; replace HB := bs_ HB hb; clear hb hbox hg) | ((with_reducible refine gate_dst (N := 3) rfl ?_); refine bx_ 3 #[.bool a1_0, .int .u64 a1_1, .int .u64 a1_2] 26 ?_; intro gb207 hg w34 hbox hb; have BK207 := Aside0.mk (hbox); have GW207 := gw_ HB hg; have GE207 := gw_ HB hg; have NB206_207 := nl_ BK206 hg; have NB207_206 := ng_ BK206 hg; replace BK206 := bb_ BK206 hb; replace HB := bs_ HB hb; clear hb hbox hg; have hnb35 := NB206_207.out; have hnc35 := NB207_206.out; obtain ⟨hcz36_0, hcz36_1, hcz36_2, hcz36_3, hfz36_0, hfz36_1, hfz36_2, hfz36_3⟩ := c4_ BK206) | ((with_reducible refine gate_callee (f := 36) rfl ?_); refine gl_ (some 8) Tryz.func36 #[.agg #[.bool a0_0, .int .u64 a0_1, .int .u64 a0_2, .int .i64 a0_3]] ?_; (with_reducible refine (prefix_Right.calls a0_0 a0_1 a0_2 a0_3 true _ A3.out).mono ?_); rintro e w37 ⟨rfl, hb⟩; refine ⟨_, rfl, ?_⟩; replace BK206 := bb_ BK206 hb; replace BK207 := bb_ BK207 hb; replace HB := bs_ HB hb; (try clear hb); (try clear hb2); (try clear hk); (try clear hi); obtain ⟨hcz38_0, hcz38_1, hcz38_2, hfz38_0, hfz38_1, hfz38_2⟩ := c3_ BK207) | (go_at_call 18; (with_reducible refine (addr_Right.calls a1_0 a1_1 a1_2 false _ A5.out).mono ?_); rintro e w39 ⟨rfl, hb⟩; replace BK206 := bb_ BK206 hb; replace BK207 := bb_ BK207 hb; replace HB := bs_ HB hb; (try clear hb); (try clear hb2); (try clear hk); (try clear hi)))
   go_ret
   exact ⟨by first | rfl | (simp [errW_none, errW_some] <;> rfl) | (simp [*, errW_none, errW_some] <;> rfl), pb_ HB⟩
 ·
  replace c4 := Bool.eq_false_iff.mpr c4
  subst c4
  have H1 : (some false) = some r := by rw [if_neg (show ¬ (false = true) by decide)] at H; exact H
  clear H
  have H := H1
  clear H1
  obtain rfl := Option.some.inj H
  go_enter Tryz.func40, Tryz.ntmps40
  go_wp2_with (first | ((with_reducible refine gate_dst (N := 2) rfl ?_); refine bx_ 2 #[.bool a0_0, .int .u64 a0_1, .int .u64 a0_2, .int .i64 a0_3] 38 ?_; intro gb206 hg w40 hbox hb; have BK206 := Aside0.mk (hbox); have GW206 := gw_ HB hg; have GE206 := gw_ HB hg; replace HB := bs_ HB hb; clear hb hbox hg) | ((with_reducible refine gate_dst (N := 3) rfl ?_); refine bx_ 3 #[.bool a1_0, .int .u64 a1_1, .int .u64 a1_2] 26 ?_; intro gb207 hg w41 hbox hb; have BK207 := Aside0.mk (hbox); have GW207 := gw_ HB hg; have GE207 := gw_ HB hg; have NB206_207 := nl_ BK206 hg; have NB207_206 := ng_ BK206 hg; replace BK206 := bb_ BK206 hb; replace HB := bs_ HB hb; clear hb hbox hg; have hnb42 := NB206_207.out; have hnc42 := NB207_206.out; obtain ⟨hcz43_0, hcz43_1, hcz43_2, hcz43_3, hfz43_0, hfz43_1, hfz43_2, hfz43_3⟩ := c4_ BK206) | ((with_reducible refine gate_callee (f := 36) rfl ?_); refine gl_ (some 8) Tryz.func36 #[.agg #[.bool a0_0, .int .u64 a0_1, .int .u64 a0_2, .int .i64 a0_3]] ?_; (with_reducible refine (prefix_Right.calls a0_0 a0_1 a0_2 a0_3 false _ A3.out).mono ?_); rintro e w44 ⟨rfl, hb⟩; refine ⟨_, rfl, ?_⟩; replace BK206 := bb_ BK206 hb; replace BK207 := bb_ BK207 hb; replace HB := bs_ HB hb; (try clear hb); (try clear hb2); (try clear hk); (try clear hi)))
  go_ret
  exact ⟨by first | rfl | (simp [errW_none, errW_some] <;> rfl) | (simp [*, errW_none, errW_some] <;> rfl), pb_ HB⟩

def prefix_Within.f (k : Nat) (a0_0 : Bool) (a0_1 : Int) (a0_2 : Int) (a0_3 : Int) (a1_0 : Bool) (a1_1 : Int) (a1_2 : Int) (a1_3 : Int) : Option (Bool) := (prefix_Right.f a0_0 a0_1 a0_2 a0_3).bind fun t218 => (if t218 = true then ((prefix_Right.f a1_0 a1_1 a1_2 a1_3).bind fun t219 => (if t219 = true then (if a0_3 ≥ a1_3 then ((prefix_Has.f k a1_0 a1_1 a1_2 a1_3 a0_0 a0_1 a0_2).bind fun t220 => (some t220)) else (some false)) else (some false))) else (some false))
set_option maxHeartbeats 8000000 in
set_option maxRecDepth 100000 in
theorem prefix_Within.calls (k : Nat) (a0_0 : Bool) (a0_1 : Int) (a0_2 : Int) (a0_3 : Int) (a1_0 : Bool) (a1_1 : Int) (a1_2 : Int) (a1_3 : Int) (r : Bool) (w : World) (h : prefix_Within.f k a0_0 a0_1 a0_2 a0_3 a1_0 a1_1 a1_2 a1_3 = some r) :
  Calls Tryz.prog 32 #[.agg #[.bool a0_0, .int .u64 a0_1, .int .u64 a0_2, .int .i64 a0_3], .agg #[.bool a1_0, .int .u64 a1_1, .int .u64 a1_2, .int .i64 a1_3]] w fun e w' => e = .returned (.bool r) ∧ Below w.heap.size w w' := by
 have hu38 := Tryz.underlying38
 have hu26 := Tryz.underlying26
 have HB := Aside0.mk (Below.refl w.heap.size w)
 have H : ((prefix_Right.f a0_0 a0_1 a0_2 a0_3).bind fun t218 => (if t218 = true then ((prefix_Right.f a1_0 a1_1 a1_2 a1_3).bind fun t219 => (if t219 = true then (if a0_3 ≥ a1_3 then ((prefix_Has.f k a1_0 a1_1 a1_2 a1_3 a0_0 a0_1 a0_2).bind fun t220 => (some t220)) else (some false)) else (some false))) else (some false))) = some r := h
 clear h
 replace H := Option.bind_eq_some_iff.mp H
 obtain ⟨t218, A30, H⟩ := H
 replace H : (if t218 = true then ((prefix_Right.f a1_0 a1_1 a1_2 a1_3).bind fun t219 => (if t219 = true then (if a0_3 ≥ a1_3 then ((prefix_Has.f k a1_0 a1_1 a1_2 a1_3 a0_0 a0_1 a0_2).bind fun t220 => (some t220)) else (some false)) else (some false))) else (some false)) = some r := H
 have A3 := Aside0.mk A30
 clear A30
 by_cases c4 : t218 = true
 ·
  subst c4
  rw [if_pos rfl] at H
  replace H := Option.bind_eq_some_iff.mp H
  obtain ⟨t219, A50, H⟩ := H
  replace H : (if t219 = true then (if a0_3 ≥ a1_3 then ((prefix_Has.f k a1_0 a1_1 a1_2 a1_3 a0_0 a0_1 a0_2).bind fun t220 => (some t220)) else (some false)) else (some false)) = some r := H
  have A5 := Aside0.mk A50
  clear A50
  by_cases c6 : t219 = true
  ·
   subst c6
   rw [if_pos rfl] at H
   by_cases c7 : a0_3 ≥ a1_3
   ·
    rw [if_pos c7] at H
    have c7b0 : decide (a1_3 ≤ a0_3) = true := decide_eq_true c7
    clear c7
    replace H := Option.bind_eq_some_iff.mp H
    obtain ⟨t220, A80, H⟩ := H
    replace H : (some t220) = some r := H
    have A8 := Aside0.mk A80
    clear A80
    obtain rfl := Option.some.inj H
    go_enter Tryz.func32, Tryz.ntmps32
    go_wp2_with (first | ((with_reducible refine gate_dst (N := 2) rfl ?_); refine bx_ 2 #[.bool a0_0, .int .u64 a0_1, .int .u64 a0_2, .int .i64 a0_3] 38 ?_; intro gb216 hg w9 hbox hb; have BK216 := Aside0.mk (hbox); have GW216 := gw_ HB hg; have GE216 := gw_ HB hg; replace HB := bs_ HB hb; clear hb hbox hg) | ((with_reducible refine gate_dst (N := 3) rfl ?_); refine bx_ 3 #[.bool a1_0, .int .u64 a1_1, .int .u64 a1_2, .int .i64 a1_3] 38 ?_; intro gb217 hg w10 hbox hb; have BK217 := Aside0.mk (hbox); have GW217 := gw_ HB hg; have GE217 := gw_ HB hg; have NB216_217 := nl_ BK216 hg; have NB217_216 := ng_ BK216 hg; replace BK216 := bb_ BK216 hb; replace HB := bs_ HB hb; clear hb hbox hg; have hnb11 := NB216_217.out; have hnc11 := NB217_216.out; obtain ⟨hcz12_0, hcz12_1, hcz12_2, hcz12_3, hfz12_0, hfz12_1, hfz12_2, hfz12_3⟩ := c4_ BK216) | ((with_reducible refine gate_callee (f := 36) rfl ?_); refine gl_ (some 6) Tryz.func36 #[.agg #[.bool a0_0, .int .u64 a0_1, .int .u64 a0_2, .int .i64 a0_3]] ?_; (with_reducible refine (prefix_Right.calls a0_0 a0_1 a0_2 a0_3 true _ A3.out).mono ?_); rintro e w13 ⟨rfl, hb⟩; refine ⟨_, rfl, ?_⟩; replace BK216 := bb_ BK216 hb; replace BK217 := bb_ BK217 hb; replace HB := bs_ HB hb; (try clear hb); (try clear hb2); (try clear hk); (try clear hi); obtain ⟨hcz14_0, hcz14_1, hcz14_2, hcz14_3, hfz14_0, hfz14_1, hfz14_2, hfz14_3⟩ := c4_ BK217) | (go_at_call 36; (with_reducible refine (prefix_Right.calls a1_0 a1_1 a1_2 a1_3 true _ A5.out).mono ?_); rintro e w15 ⟨rfl, hb⟩; replace BK216 := bb_ BK216 hb; replace BK217 := bb_ BK217 hb; replace HB := bs_ HB hb; (try clear hb); (try clear hb2); (try clear hk); (try clear hi); obtain ⟨hcz16_0, hcz16_1, hcz16_2, hcz16_3, hfz16_0, hfz16_1, hfz16_2, hfz16_3⟩ := c4_ BK216; obtain ⟨hcz17_0, hcz17_1, hcz17_2, hcz17_3, hfz17_0, hfz17_1, hfz17_2, hfz17_3⟩ := c4_ BK217) | (go_at_call 40; (with_reducible refine (prefix_Has.calls k a1_0 a1_1 a1_2 a1_3 a0_0 a0_1 a0_2 t220 _ A8.out).mono ?_); rintro e w18 ⟨rfl, hb⟩; replace BK216 := bb_ BK216 hb; replace BK217 := bb_ BK217 hb; replace HB := bs_ HB hb; (try clear hb); (try clear hb2); (try clear hk); (try clear hi)))
    go_ret
    exact ⟨by first | rfl | (simp [errW_none, errW_some] <;> rfl) | (simp [*, errW_none, errW_some] <;> rfl), pb_ HB⟩
   ·
    rw [if_neg c7] at H
    have c7b0 : decide (a1_3 ≤ a0_3) = false := decide_eq_false c7
    clear c7
    obtain rfl := Option.some.inj H
    go_enter Tryz.func32, Tryz.ntmps32
    go_wp2_with (first | ((with_reducible refine gate_dst (N := 2) rfl ?_); refine bx_ 2 #[.bool a0_0, .int .u64 a0_1, .int .u64 a0_2, .int .i64 a0_3] 38 ?_; intro gb216 hg w19 hbox hb; have BK216 := Aside0.mk (hbox); have GW216 := gw_ HB hg; have GE216 := gw_ HB hg; replace HB := bs_ HB hb; clear hb hbox hg) | ((with_reducible refine gate_dst (N := 3) rfl ?_); refine bx_ 3 #[.bool a1_0, .int .u64 a1_1, .int .u64 a1_2, .int .i64 a1_3] 38 ?_; intro gb217 hg w20 hbox hb; have BK217 := Aside0.mk (hbox); have GW217 := gw_ HB hg; have GE217 := gw_ HB hg; have NB216_217 := nl_ BK216 hg; have NB217_216 := ng_ BK216 hg; replace BK216 := bb_ BK216 hb; replace HB := bs_ HB hb; clear hb hbox hg; have hnb21 := NB216_217.out; have hnc21 := NB217_216.out; obtain ⟨hcz22_0, hcz22_1, hcz22_2, hcz22_3, hfz22_0, hfz22_1, hfz22_2, hfz22_3⟩ := c4_ BK216) | ((with_reducible refine gate_callee (f := 36) rfl ?_); refine gl_ (some 6) Tryz.func36 #[.agg #[.bool a0_0, .int .u64 a0_1, .int .u64 a0_2, .int .i64 a0_3]] ?_; (with_reducible refine (prefix_Right.calls a0_0 a0_1 a0_2 a0_3 true _ A3.out).mono ?_); rintro e w23 ⟨rfl, hb⟩; refine ⟨_, rfl, ?_⟩; replace BK216 := bb_ BK216 hb; replace BK217 := bb_ BK217 hb; replace HB := bs_ HB hb; (try clear hb); (try clear hb2); (try clear hk); (try clear hi); obtain ⟨hcz24_0, hcz24_1, hcz24_2, hcz24_3, hfz24_0, hfz24_1, hfz24_2, hfz24_3⟩ := c4_ BK217) | (go_at_call 36; (with_reducible refine (prefix_Right.calls a1_0 a1_1 a1_2 a1_3 true _ A5.out).mono ?_); rintro e w25 ⟨rfl, hb⟩; replace BK216 := bb_ BK216 hb; replace BK217 := bb_ BK217 hb; replace HB := bs_ HB hb; (try clear hb); (try clear hb2); (try clear hk); (try clear hi); obtain ⟨hcz26_0, hcz26_1, hcz26_2, hcz26_3, hfz26_0, hfz26_1, hfz26_2, hfz26_3⟩ := c4_ BK216; obtain ⟨hcz27_0, hcz27_1, hcz27_2, hcz27_3, hfz27_0, hfz27_1, hfz27_2, hfz27_3⟩ := c4_ BK217))
    go_ret
    exact ⟨by first | rfl | (simp [errW_none, errW_some] <;> rfl) | (simp [*, errW_none, errW_some] <;> rfl), pb_ HB⟩
  ·
   replace c6 := Bool.eq_false_iff.mpr c6
   subst c6
   have H1 : (some false) = some r := by rw [if_neg (show ¬ (false = true) by decide)] at H; exact H
   clear H
   have H := H1
   clear H1
   obtain rfl := Option.some.inj H
   go_enter Tryz.func32, Tryz.ntmps32
   go_wp2_with (first | ((with_reducible refine gate_dst (N := 2) rfl ?_); refine bx_ 2 #[.bool a0_0, .int .u64 a0_1, .int .u64 a0_2, .int .i64 a0_3] 38 ?_; intro gb216 hg w28 hbox hb; have BK216 := Aside0.mk (hbox); have GW216 := gw_ HB hg; have GE216 := gw_ HB hg; replace HB := bs_ HB hb; clear hb hbox hg) | ((with_reducible refine gate_dst (N := 3) rfl ?_); refine bx_ 3 #[.bool a1_0, .int .u64 a1_1, .int .u64 a1_2, .int .i64 a1_3] 38 ?_; intro gb217 hg w29 hbox hb; have BK217 := Aside0.mk (hbox); have GW217 := gw_ HB hg; have GE217 := gw_ HB hg; have NB216_217 := nl_ BK216 hg; have NB217_216 := ng_ BK216 hg; replace BK216 := bb_ BK216 hb; replace HB := bs_ HB hb; clear hb hbox hg; have hnb30 := NB216_217.out; have hnc30 := NB217_216.out; obtain ⟨hcz31_0, hcz31_1, hcz31_2, hcz31_3, hfz31_0, hfz31_1, hfz31_2, hfz31_3⟩ := c4_ BK216) | ((with_reducible refine gate_callee (f := 36) rfl ?_); refine gl_ (some 6) Tryz.func36 #[.agg #[.bool a0_0, .int .u64 a0_1, .int .u64 a0_2, .int .i64 a0_3]] ?_; (with_reducible refine (prefix_Right.calls a0_0 a0_1 a0_2 a0_3 true _ A3.out).mono ?_); rintro e w32 ⟨rfl, hb⟩; refine ⟨_, rfl, ?_⟩; replace BK216 := bb_ BK216 hb; replace BK217 := bb_ BK217 hb; replace HB := bs_ HB hb; (try clear hb); (try clear hb2); (try clear hk); (try clear hi); obtain ⟨hcz33_0, hcz33_1, hcz33_2, hcz33_3, hfz33_0, hfz33_1, hfz33_2, hfz33_3⟩ := c4_ BK217) | (go_at_call 36; (with_reducible refine (prefix_Right.calls a1_0 a1_1 a1_2 a1_3 false _ A5.out).mono ?_); rintro e w34 ⟨rfl, hb⟩; replace BK216 := bb_ BK216 hb; replace BK217 := bb_ BK217 hb; replace HB := bs_ HB hb; (try clear hb); (try clear hb2); (try clear hk); (try clear hi)))
   go_ret
   exact ⟨by first | rfl | (simp [errW_none, errW_some] <;> rfl) | (simp [*, errW_none, errW_some] <;> rfl), pb_ HB⟩
 ·
  replace c4 := Bool.eq_false_iff.mpr c4
  subst c4
  have H1 : (some false) = some r := by rw [if_neg (show ¬ (false = true) by decide)] at H; exact H
  clear H
  have H := H1
  clear H1
  obtain rfl := Option.some.inj H
  go_enter Tryz.func32, Tryz.ntmps32
  go_wp2_with (first | ((with_reducible refine gate_dst (N := 2) rfl ?_); refine bx_ 2 #[.bool a0_0, .int .u64 a0_1, .int .u64 a0_2, .int .i64 a0_3] 38 ?_; intro gb216 hg w35 hbox hb; have BK216 := Aside0.mk (hbox); have GW216 := gw_ HB hg; have GE216 := gw_ HB hg; replace HB := bs_ HB hb; clear hb hbox hg) | ((with_reducible refine gate_dst (N := 3) rfl ?_); refine bx_ 3 #[.bool a1_0, .int .u64 a1_1, .int .u64 a1_2, .int .i64 a1_3] 38 ?_; intro gb217 hg w36 hbox hb; have BK217 := Aside0.mk (hbox); have GW217 := gw_ HB hg; have GE217 := gw_ HB hg; have NB216_217 := nl_ BK216 hg; have NB217_216 := ng_ BK216 hg; replace BK216 := bb_ BK216 hb; replace HB := bs_ HB hb; clear hb hbox hg; have hnb37 := NB216_217.out; have hnc37 := NB217_216.out; obtain ⟨hcz38_0, hcz38_1, hcz38_2, hcz38_3, hfz38_0, hfz38_1, hfz38_2, hfz38_3⟩ := c4_ BK216) | ((with_reducible refine gate_callee (f := 36) rfl ?_); refine gl_ (some 6) Tryz.func36 #[.agg #[.bool a0_0, .int .u64 a0_1, .int .u64 a0_2, .int .i64 a0_3]] ?_; (with_reducible refine (prefix_Right.calls a0_0 a0_1 a0_2 a0_3 false _ A3.out).mono ?_); rintro e w39 ⟨rfl, hb⟩; refine ⟨_, rfl, ?_⟩; replace BK216 := bb_ BK216 hb; replace BK217 := bb_ BK217 hb; replace HB := bs_ HB hb; (try clear hb); (try clear hb2); (try clear hk); (try clear hi)))
  go_ret
  exact ⟨by first | rfl | (simp [errW_none, errW_some] <;> rfl) | (simp [*, errW_none, errW_some] <;> rfl), pb_ HB⟩

def prefix_Last.f (a0_0 : Bool) (a0_1 : Int) (a0_2 : Int) (a0_3 : Int) : Option (Bool × Int × Int) := (prefix_Right.f a0_0 a0_1 a0_2 a0_3).bind fun t233 => (if t233 = true then ((prefix_free.f a0_0 a0_1 a0_2 a0_3).bind fun bt234 => ((num_Or.f a0_1 a0_2 bt234.1 bt234.2).bind fun bt236 => (some (a0_0, bt236.1, bt236.2)))) else (some (false, 0, 0)))
def prefix_Last.T3 : Bool × List (List Nat × List Nat) := (true, [([], []), ([0], [0]), ([1], [1]), ([], []), ([3], [3]), ([4], [4]), ([], []), ([6], [6]), ([5, 7, 7], [5, 7]), ([2, 8], [2, 8]), ([9, 8, 0, 1, 2, 3, 4, 5, 6, 7, 8, 9], [9])])
def prefix_Last.B3 : List Nat := [0, 1, 3, 0, 8, 24, 0, 64, 248, 511, 1023]
theorem prefix_Last.tab3 : rtab .any (opsOf Tryz.f38 3) = prefix_Last.T3 := by kernel_rfl
theorem prefix_Last.bits3 : waitsOk prefix_Last.T3.2 prefix_Last.B3 = true := by kernel_rfl
set_option maxHeartbeats 8000000 in
set_option maxRecDepth 100000 in
theorem prefix_Last.calls (a0_0 : Bool) (a0_1 : Int) (a0_2 : Int) (a0_3 : Int) (r1 : Bool) (r2 : Int) (r3 : Int) (w : World) (h : prefix_Last.f a0_0 a0_1 a0_2 a0_3 = some (r1, r2, r3)) :
  Calls Tryz.prog 38 #[.agg #[.bool a0_0, .int .u64 a0_1, .int .u64 a0_2, .int .i64 a0_3]] w fun e w' => e = .returned (.agg #[.bool r1, .int .u64 r2, .int .u64 r3]) ∧ Below w.heap.size w w' := by
 have hu38 := Tryz.underlying38
 have hu26 := Tryz.underlying26
 have hu24 := Tryz.underlying24
 have HB := Aside0.mk (Below.refl w.heap.size w)
 have H : ((prefix_Right.f a0_0 a0_1 a0_2 a0_3).bind fun t233 => (if t233 = true then ((prefix_free.f a0_0 a0_1 a0_2 a0_3).bind fun bt234 => ((num_Or.f a0_1 a0_2 bt234.1 bt234.2).bind fun bt236 => (some (a0_0, bt236.1, bt236.2)))) else (some (false, 0, 0)))) = some (r1, r2, r3) := h
 clear h
 replace H := Option.bind_eq_some_iff.mp H
 obtain ⟨t233, A20, H⟩ := H
 replace H : (if t233 = true then ((prefix_free.f a0_0 a0_1 a0_2 a0_3).bind fun bt234 => ((num_Or.f a0_1 a0_2 bt234.1 bt234.2).bind fun bt236 => (some (a0_0, bt236.1, bt236.2)))) else (some (false, 0, 0))) = some (r1, r2, r3) := H
 have A2 := Aside0.mk A20
 clear A20
 by_cases c3 : t233 = true
 ·
  subst c3
  rw [if_pos rfl] at H
  replace H := Option.bind_eq_some_iff.mp H
  obtain ⟨⟨t234, t235⟩, A40, H⟩ := H
  replace H : ((num_Or.f a0_1 a0_2 t234 t235).bind fun bt236 => (some (a0_0, bt236.1, bt236.2))) = some (r1, r2, r3) := H
  have A4 := Aside0.mk A40
  clear A40
  replace H := Option.bind_eq_some_iff.mp H
  obtain ⟨⟨t236, t237⟩, A50, H⟩ := H
  replace H : (some (a0_0, t236, t237)) = some (r1, r2, r3) := H
  have A5 := Aside0.mk A50
  clear A50
  simp only [Option.some.injEq, Prod.mk.injEq] at H
  obtain ⟨rfl, rfl, rfl⟩ := H
  go_enter Tryz.func38, Tryz.ntmps38
  try go_wp2_with (first | ((with_reducible refine gate_dst (N := 1) rfl ?_); refine bx_ 1 #[.bool a0_0, .int .u64 a0_1, .int .u64 a0_2, .int .i64 a0_3] 38 ?_; intro gb231 hg w6 hbox hb; have BK231 := Aside0.mk (hbox); have GW231 := gw_ HB hg; have GE231 := gw_ HB hg; replace HB := bs_ HB hb; clear hb hbox hg) | ((with_reducible refine gate_dst (N := 2) rfl ?_); refine bx_ 2 #[.bool false, .int .u64 0, .int .u64 0] 26 ?_; intro gb232 hg w7 hbox hb; have BK232 := Aside0.mk (hbox); have GW232 := gw_ HB hg; have GE232 := gw_ HB hg; have NB231_232 := nl_ BK231 hg; have NB232_231 := ng_ BK231 hg; replace BK231 := bb_ BK231 hb; replace HB := bs_ HB hb; clear hb hbox hg; have hnb8 := NB231_232.out; have hnc8 := NB232_231.out; obtain ⟨hcz9_0, hcz9_1, hcz9_2, hcz9_3, hfz9_0, hfz9_1, hfz9_2, hfz9_3⟩ := c4_ BK231) | ((with_reducible refine gate_callee (f := 36) rfl ?_); refine gl_ (some 4) Tryz.func36 #[.agg #[.bool a0_0, .int .u64 a0_1, .int .u64 a0_2, .int .i64 a0_3]] ?_; (with_reducible refine (prefix_Right.calls a0_0 a0_1 a0_2 a0_3 true _ A2.out).mono ?_); rintro e w10 ⟨rfl, hb⟩; refine ⟨_, rfl, ?_⟩; replace BK231 := bb_ BK231 hb; replace BK232 := bb_ BK232 hb; replace HB := bs_ HB hb; (try clear hb); (try clear hb2); (try clear hk); (try clear hi)))
  replace BK231 := Aside0.mk (blk_drew BK231.out)
  replace BK232 := Aside0.mk (blk_drew BK232.out)
  replace HB := Aside0.mk (below_drew1 HB.out)
  refine start_ (n := 11) (S := fun w' => w'.cell? ⟨gb231, 0, none⟩ = some (.bool a0_0) ∧ w'.cell? ⟨gb231, 1, none⟩ = some (.int .u64 a0_1) ∧ w'.cell? ⟨gb231, 2, none⟩ = some (.int .u64 a0_2) ∧ w'.cell? ⟨gb231, 3, none⟩ = some (.int .i64 a0_3)) (ds := []) (bm_ 11 0) (by kernel_rfl) rfl rfl ⟨kc_ BK231 0, kc_ BK231 1, kc_ BK231 2, kc_ BK231 3⟩ (fun hHeld => ?_); refine with_tabW prefix_Last.tab3 prefix_Last.bits3 (fun HT_ HW_ => ?_)
  generalize w10.drew = w11 at BK231 BK232 HB hHeld ⊢
  refine pu_ 0 (some 7) (bm_ 11 1) rfl HT_ ⟨by rfl, by intro w'; go_simp; with_reducible rfl⟩ ?_
  refine pu_ 1 (some 8) (bm_ 11 3) rfl HT_ ⟨by rfl, by intro w'; go_simp; with_reducible rfl⟩ ?_
  refine pu_ 3 (some 10) (bm_ 11 11) rfl HT_ ⟨by rfl, by intro w'; go_simp; with_reducible rfl⟩ ?_
  refine pu_ 4 (some 11) (bm_ 11 27) rfl HT_ ⟨by rfl, by intro w'; go_simp; with_reducible rfl⟩ ?_
  refine ta_ 2 (some 9) (bm_ 11 31) rfl HT_ HW_ ⟨by rfl, by rintro w' ⟨s0, s1, s2, s3⟩; go_simp; with_reducible rfl⟩ hHeld ?_
  refine ta_ 5 (some 12) (bm_ 11 63) rfl HT_ HW_ ⟨by rfl, by rintro w' ⟨s0, s1, s2, s3⟩; go_simp; with_reducible rfl⟩ hHeld ?_
  refine ta_ 6 (some 13) (bm_ 11 127) rfl HT_ HW_ ⟨by rfl, by rintro w' ⟨s0, s1, s2, s3⟩; go_simp; with_reducible rfl⟩ hHeld ?_
  refine one_ (i := 7) (N := some 14) (bm_ 11 255) rfl rfl (one_of HT_.out (by kernel_rfl)) (by decide) (fun K hK => ?_)
  refine gr_ Tryz.func85 #[.agg #[.bool a0_0, .int .u64 a0_1, .int .u64 a0_2, .int .i64 a0_3]] ?_
  with_reducible refine (prefix_free.calls a0_0 a0_1 a0_2 a0_3 t234 t235 _ A4.out).mono ?_
  rintro e w12 ⟨rfl, hb⟩
  refine ⟨_, rfl, ?_⟩
  replace BK231 := bb_ BK231 hb
  replace BK232 := bb_ BK232 hb
  replace HB := bs_ HB hb
  (try clear hb)
  (try clear hb2)
  (try clear hk)
  (try clear hi)
  refine hK.out _ _ ⟨kc_ BK231 0, kc_ BK231 1, kc_ BK231 2, kc_ BK231 3⟩ (fun hHeld => ?_)
  clear hK K
  refine norm_ (a' := ?_) ?_ ?_
  rotate_left
  ·
   show Act.put _ (some 14) _ = _
   simp only [Act.put, List.setIfInBounds_toArray, List.set_cons_zero, List.set_cons_succ, i64_w, i32_w]
   rfl
  refine one_ (i := 8) (N := some 15) (bm_ 11 511) rfl rfl (one_of HT_.out (by kernel_rfl)) (by decide) (fun K hK => ?_)
  refine gr_ Tryz.func80 #[.agg #[.int .u64 a0_1, .int .u64 a0_2], .agg #[.int .u64 t234, .int .u64 t235]] ?_
  with_reducible refine (num_Or.calls a0_1 a0_2 t234 t235 t236 t237 _ A5.out).mono ?_
  rintro e w13 ⟨rfl, hb⟩
  refine ⟨_, rfl, ?_⟩
  replace BK231 := bb_ BK231 hb
  replace BK232 := bb_ BK232 hb
  replace HB := bs_ HB hb
  (try clear hb)
  (try clear hb2)
  (try clear hk)
  (try clear hi)
  refine hK.out _ _ ⟨kc_ BK231 0, kc_ BK231 1, kc_ BK231 2, kc_ BK231 3⟩ (fun hHeld => ?_)
  clear hK K
  refine norm_ (a' := ?_) ?_ ?_
  rotate_left
  ·
   show Act.put _ (some 15) _ = _
   simp only [Act.put, List.setIfInBounds_toArray, List.set_cons_zero, List.set_cons_succ, i64_w, i32_w]
   rfl
  refine pu_ 9 (some 16) (bm_ 11 1023) rfl HT_ ⟨by rfl, by intro w'; go_simp; with_reducible rfl⟩ ?_
  refine one_ (i := 10) (N := none) (bm_ 11 2047) rfl rfl (one_of HT_.out (by kernel_rfl)) (by decide) (fun K hK => ?_)
  have hs14 : w13.cell? ⟨gb232, 0, none⟩ = some (.bool false) := kc_ BK232 0
  have hfs14 := blk_frozen BK232.out 0
  have hns14_0 := NB231_232.out
  have hms14_0 := NB232_231.out
  have hs15 : w13.cell? ⟨gb232, 1, none⟩ = some (.int .u64 0) := kc_ BK232 1
  have hfs15 := blk_frozen BK232.out 1
  have hns15_0 := NB231_232.out
  have hms15_0 := NB232_231.out
  have hs16 : w13.cell? ⟨gb232, 2, none⟩ = some (.int .u64 0) := kc_ BK232 2
  have hfs16 := blk_frozen BK232.out 2
  have hns16_0 := NB231_232.out
  have hms16_0 := NB232_231.out
  refine skip_ (w1 := ?_) (by rfl) rfl ?_ ?_
  rotate_left
  ·
   go_simp
   rfl
  refine hK.out _ _ ⟨((cell_far (p := ⟨gb232, _, none⟩) NB231_232.out _).trans (((cell_far (p := ⟨gb232, _, none⟩) NB231_232.out _).trans (((cell_far (p := ⟨gb232, _, none⟩) NB231_232.out _).trans (hHeld.1)))))), ((cell_far (p := ⟨gb232, _, none⟩) NB231_232.out _).trans (((cell_far (p := ⟨gb232, _, none⟩) NB231_232.out _).trans (((cell_far (p := ⟨gb232, _, none⟩) NB231_232.out _).trans (hHeld.2.1)))))), ((cell_far (p := ⟨gb232, _, none⟩) NB231_232.out _).trans (((cell_far (p := ⟨gb232, _, none⟩) NB231_232.out _).trans (((cell_far (p := ⟨gb232, _, none⟩) NB231_232.out _).trans (hHeld.2.2.1)))))), ((cell_far (p := ⟨gb232, _, none⟩) NB231_232.out _).trans (((cell_far (p := ⟨gb232, _, none⟩) NB231_232.out _).trans (((cell_far (p := ⟨gb232, _, none⟩) NB231_232.out _).trans (hHeld.2.2.2))))))⟩ (fun hHeld => ?_)
  clear hK K
  refine done_ (done_of HT_.out (by kernel_rfl)) ?_
  try go_wp2
  refine bodyPost_ret (results_cell_row rfl _ _ gb232 26 #[.bool a0_0, .int .u64 t236, .int .u64 t237] (0, 0) _ rfl (by refine pw_ ?_; refine blk_put (cs := #[.bool a0_0, .int .u64 t236, .int .u64 0]) ?_ 2 _ rfl; refine pw_ ?_; refine blk_put (cs := #[.bool a0_0, .int .u64 0, .int .u64 0]) ?_ 1 _ rfl; refine pw_ ?_; refine blk_put (cs := #[.bool false, .int .u64 0, .int .u64 0]) ?_ 0 _ rfl; refine pw_ ?_; exact BK232.out) Tryz.underlying26 rfl (by kernel_rfl)) rfl ?_
  exact ⟨by first | rfl | (simp [errW_none, errW_some] <;> rfl) | (simp [*, errW_none, errW_some] <;> rfl), pb_ HB⟩
 ·
  replace c3 := Bool.eq_false_iff.mpr c3
  subst c3
  have H1 : (some (false, 0, 0)) = some (r1, r2, r3) := by rw [if_neg (show ¬ (false = true) by decide)] at H; exact H
  clear H
  have H := H1
  clear H1
  simp only [Option.some.injEq, Prod.mk.injEq] at H
  obtain ⟨rfl, rfl, rfl⟩ := H
  go_enter Tryz.func38, Tryz.ntmps38
  go_wp2_with (first | ((with_reducible refine gate_dst (N := 1) rfl ?_); refine bx_ 1 #[.bool a0_0, .int .u64 a0_1, .int .u64 a0_2, .int .i64 a0_3] 38 ?_; intro gb231 hg w17 hbox hb; have BK231 := Aside0.mk (hbox); have GW231 := gw_ HB hg; have GE231 := gw_ HB hg; replace HB := bs_ HB hb; clear hb hbox hg) | ((with_reducible refine gate_dst (N := 2) rfl ?_); refine bx_ 2 #[.bool false, .int .u64 0, .int .u64 0] 26 ?_; intro gb232 hg w18 hbox hb; have BK232 := Aside0.mk (hbox); have GW232 := gw_ HB hg; have GE232 := gw_ HB hg; have NB231_232 := nl_ BK231 hg; have NB232_231 := ng_ BK231 hg; replace BK231 := bb_ BK231 hb; replace HB := bs_ HB hb; clear hb hbox hg; have hnb19 := NB231_232.out; have hnc19 := NB232_231.out; obtain ⟨hcz20_0, hcz20_1, hcz20_2, hcz20_3, hfz20_0, hfz20_1, hfz20_2, hfz20_3⟩ := c4_ BK231) | ((with_reducible refine gate_callee (f := 36) rfl ?_); refine gl_ (some 4) Tryz.func36 #[.agg #[.bool a0_0, .int .u64 a0_1, .int .u64 a0_2, .int .i64 a0_3]] ?_; (with_reducible refine (prefix_Right.calls a0_0 a0_1 a0_2 a0_3 false _ A2.out).mono ?_); rintro e w21 ⟨rfl, hb⟩; refine ⟨_, rfl, ?_⟩; replace BK231 := bb_ BK231 hb; replace BK232 := bb_ BK232 hb; replace HB := bs_ HB hb; (try clear hb); (try clear hb2); (try clear hk); (try clear hi); obtain ⟨hcz22_0, hcz22_1, hcz22_2, hfz22_0, hfz22_1, hfz22_2⟩ := c3_ BK232))
  refine bodyPost_ret (results_cell_row rfl _ _ gb232 26 #[.bool false, .int .u64 0, .int .u64 0] (0, 0) _ rfl (by refine pw_ ?_; refine blk_put (cs := #[.bool false, .int .u64 0, .int .u64 0]) ?_ 2 _ rfl; refine pw_ ?_; refine blk_put (cs := #[.bool false, .int .u64 0, .int .u64 0]) ?_ 1 _ rfl; refine pw_ ?_; refine blk_put (cs := #[.bool false, .int .u64 0, .int .u64 0]) ?_ 0 _ rfl; refine pw_ ?_; exact BK232.out) Tryz.underlying26 rfl (by kernel_rfl)) rfl ?_
  exact ⟨by first | rfl | (simp [errW_none, errW_some] <;> rfl) | (simp [*, errW_none, errW_some] <;> rfl), pb_ HB⟩

end Go.Proofs.YtgdgklibilddgaaGreatDoor.PPr

namespace Go.Proofs.YtgdgklibilddgaaGreatDoor.PPr
open Go.RowKit Go.Proofs.YtgdgklibilddgaaGreatDoorW.PrintWords Go.Proofs.YtgdgklibilddgaaGreatDoorW.PrintLast Go.Proofs.YtgdgklibilddgaaGreatDoorW.PrintMore
attribute [local go_sem] max2_int min2_int max_two min_two max_three min_three max_four min_four   -- for this text's walks alone

def prefix_Overlap.f (k : Nat) (a0_0 : Bool) (a0_1 : Int) (a0_2 : Int) (a0_3 : Int) (a1_0 : Bool) (a1_1 : Int) (a1_2 : Int) (a1_3 : Int) : Option (Bool) := (prefix_Within.f k a0_0 a0_1 a0_2 a0_3 a1_0 a1_1 a1_2 a1_3).bind fun t268 => (if t268 = true then (some true) else ((prefix_Within.f k a1_0 a1_1 a1_2 a1_3 a0_0 a0_1 a0_2 a0_3).bind fun t269 => (some t269)))
set_option maxHeartbeats 8000000 in
set_option maxRecDepth 100000 in
theorem prefix_Overlap.calls (k : Nat) (a0_0 : Bool) (a0_1 : Int) (a0_2 : Int) (a0_3 : Int) (a1_0 : Bool) (a1_1 : Int) (a1_2 : Int) (a1_3 : Int) (r : Bool) (w : World) (h : prefix_Overlap.f k a0_0 a0_1 a0_2 a0_3 a1_0 a1_1 a1_2 a1_3 = some r) :
  Calls Tryz.prog 43 #[.agg #[.bool a0_0, .int .u64 a0_1, .int .u64 a0_2, .int .i64 a0_3], .agg #[.bool a1_0, .int .u64 a1_1, .int .u64 a1_2, .int .i64 a1_3]] w fun e w' => e = .returned (.bool r) ∧ Below w.heap.size w w' := by
 have hu38 := Tryz.underlying38
 have HB := Aside0.mk (Below.refl w.heap.size w)
 have H : ((prefix_Within.f k a0_0 a0_1 a0_2 a0_3 a1_0 a1_1 a1_2 a1_3).bind fun t268 => (if t268 = true then (some true) else ((prefix_Within.f k a1_0 a1_1 a1_2 a1_3 a0_0 a0_1 a0_2 a0_3).bind fun t269 => (some t269)))) = some r := h
 clear h
 replace H := Option.bind_eq_some_iff.mp H
 obtain ⟨t268, A30, H⟩ := H
 replace H : (if t268 = true then (some true) else ((prefix_Within.f k a1_0 a1_1 a1_2 a1_3 a0_0 a0_1 a0_2 a0_3).bind fun t269 => (some t269))) = some r := H
 have A3 := Aside0.mk A30
 clear A30
 by_cases c4 : t268 = true
 ·
  subst c4
  rw [if_pos rfl] at H
  obtain rfl := Option.some.inj H
  go_enter Tryz.func43, Tryz.ntmps43
  go_wp2_with (first | ((with_reducible refine gate_dst (N := 2) rfl ?_); refine bx_ 2 #[.bool a0_0, .int .u64 a0_1, .int .u64 a0_2, .int .i64 a0_3] 38 ?_; intro gb266 hg w5 hbox hb; have BK266 := Aside0.mk (hbox); have GW266 := gw_ HB hg; have GE266 := gw_ HB hg; replace HB := bs_ HB hb; clear hb hbox hg) | ((with_reducible refine gate_dst (N := 3) rfl ?_); refine bx_ 3 #[.bool a1_0, .int .u64 a1_1, .int .u64 a1_2, .int .i64 a1_3] 38 ?_; intro gb267 hg w6 hbox hb; have BK267 := Aside0.mk (hbox); have GW267 := gw_ HB hg; have GE267 := gw_ HB hg; have NB266_267 := nl_ BK266 hg; have NB267_266 := ng_ BK266 hg; replace BK266 := bb_ BK266 hb; replace HB := bs_ HB hb; clear hb hbox hg; have hnb7 := NB266_267.out; have hnc7 := NB267_266.out; obtain ⟨hcz8_0, hcz8_1, hcz8_2, hcz8_3, hfz8_0, hfz8_1, hfz8_2, hfz8_3⟩ := c4_ BK266; obtain ⟨hcz9_0, hcz9_1, hcz9_2, hcz9_3, hfz9_0, hfz9_1, hfz9_2, hfz9_3⟩ := c4_ BK267) | ((with_reducible refine gate_callee (f := 32) rfl ?_); refine gl_ (some 7) Tryz.func32 #[.agg #[.bool a0_0, .int .u64 a0_1, .int .u64 a0_2, .int .i64 a0_3], .agg #[.bool a1_0, .int .u64 a1_1, .int .u64 a1_2, .int .i64 a1_3]] ?_; (with_reducible refine (prefix_Within.calls k a0_0 a0_1 a0_2 a0_3 a1_0 a1_1 a1_2 a1_3 true _ A3.out).mono ?_); rintro e w10 ⟨rfl, hb⟩; refine ⟨_, rfl, ?_⟩; replace BK266 := bb_ BK266 hb; replace BK267 := bb_ BK267 hb; replace HB := bs_ HB hb; (try clear hb); (try clear hb2); (try clear hk); (try clear hi)))
  go_ret
  exact ⟨by first | rfl | (simp [errW_none, errW_some] <;> rfl) | (simp [*, errW_none, errW_some] <;> rfl), pb_ HB⟩
 ·
  replace c4 := Bool.eq_false_iff.mpr c4
  subst c4
  have H1 : ((prefix_Within.f k a1_0 a1_1 a1_2 a1_3 a0_0 a0_1 a0_2 a0_3).bind fun t269 => (some t269)) = some r := by rw [if_neg (show ¬ (false = true) by decide)] at H; exact H
  clear H
  have H := H1
  clear H1
  replace H := Option.bind_eq_some_iff.mp H
  obtain ⟨t269, A110, H⟩ := H
  replace H : (some t269) = some r := H
  have A11 := Aside0.mk A110
  clear A110
  obtain rfl := Option.some.inj H
  go_enter Tryz.func43, Tryz.ntmps43
  go_wp2_with (first | ((with_reducible refine gate_dst (N := 2) rfl ?_); refine bx_ 2 #[.bool a0_0, .int .u64 a0_1, .int .u64 a0_2, .int .i64 a0_3] 38 ?_; intro gb266 hg w12 hbox hb; have BK266 := Aside0.mk (hbox); have GW266 := gw_ HB hg; have GE266 := gw_ HB hg; replace HB := bs_ HB hb; clear hb hbox hg) | ((with_reducible refine gate_dst (N := 3) rfl ?_); refine bx_ 3 #[.bool a1_0, .int .u64 a1_1, .int .u64 a1_2, .int .i64 a1_3] 38 ?_; intro gb267 hg w13 hbox hb; have BK267 := Aside0.mk (hbox); have GW267 := gw_ HB hg; have GE267 := gw_ HB hg; have NB266_267 := nl_ BK266 hg; have NB267_266 := ng_ BK266 hg; replace BK266 := bb_ BK266 hb; replace HB := bs_ HB hb; clear hb hbox hg; have hnb14 := NB266_267.out; have hnc14 := NB267_266.out; obtain ⟨hcz15_0, hcz15_1, hcz15_2, hcz15_3, hfz15_0, hfz15_1, hfz15_2, hfz15_3⟩ := c4_ BK266; obtain ⟨hcz16_0, hcz16_1, hcz16_2, hcz16_3, hfz16_0, hfz16_1, hfz16_2, hfz16_3⟩ := c4_ BK267) | ((with_reducible refine gate_callee (f := 32) rfl ?_); refine gl_ (some 7) Tryz.func32 #[.agg #[.bool a0_0, .int .u64 a0_1, .int .u64 a0_2, .int .i64 a0_3], .agg #[.bool a1_0, .int .u64 a1_1, .int .u64 a1_2, .int .i64 a1_3]] ?_; (with_reducible refine (prefix_Within.calls k a0_0 a0_1 a0_2 a0_3 a1_0 a1_1 a1_2 a1_3 false _ A3.out).mono ?_); rintro e w17 ⟨rfl, hb⟩; refine ⟨_, rfl, ?_⟩; replace BK266 := bb_ BK266 hb; replace BK267 := bb_ BK267 hb; replace HB := bs_ HB hb; (try clear hb); (try clear hb2); (try clear hk); (try clear hi); obtain ⟨hcz18_0, hcz18_1, hcz18_2, hcz18_3, hfz18_0, hfz18_1, hfz18_2, hfz18_3⟩ := c4_ BK267; obtain ⟨hcz19_0, hcz19_1, hcz19_2, hcz19_3, hfz19_0, hfz19_1, hfz19_2, hfz19_3⟩ := c4_ BK266) | (go_at_call 32; (with_reducible refine (prefix_Within.calls k a1_0 a1_1 a1_2 a1_3 a0_0 a0_1 a0_2 a0_3 t269 _ A11.out).mono ?_); rintro e w20 ⟨rfl, hb⟩; replace BK266 := bb_ BK266 hb; replace BK267 := bb_ BK267 hb; replace HB := bs_ HB hb; (try clear hb); (try clear hb2); (try clear hk); (try clear hi)))
  go_ret
  exact ⟨by first | rfl | (simp [errW_none, errW_some] <;> rfl) | (simp [*, errW_none, errW_some] <;> rfl), pb_ HB⟩

end Go.Proofs.YtgdgklibilddgaaGreatDoor.PPr

namespace Go.Proofs.YtgdgklibilddgaaGreatDoor.PPr
open Go.RowKit Go.Proofs.YtgdgklibilddgaaGreatDoorW.PrintWords Go.Proofs.YtgdgklibilddgaaGreatDoorW.PrintLast Go.Proofs.YtgdgklibilddgaaGreatDoorW.PrintMore
attribute [local go_sem] max2_int min2_int max_two min_two max_three min_three max_four min_four   -- for this text's walks alone

def cmp_Or_int.l0 : Nat → Int → List Int → Int → Int → Option (Int)
 | 0, _, _, _, _ => none
 | k + 1, x3, x6, x7, x8 => if x8 < x7 then (if 0 ≤ x8 then (if x8 < (x6.length : Int) then (if (rd x6 x8) = x3 then (cmp_Or_int.l0 k x3 x6 x7 (wrap64 (x8 + 1))) else (some (rd x6 x8))) else (none)) else (none)) else (some x3)
def cmp_Or_int.f (k : Nat) (l0 : List Int) : Option (Int) := cmp_Or_int.l0 k 0 l0 (l0.length : Int) 0
set_option maxHeartbeats 8000000 in
set_option maxRecDepth 100000 in
theorem cmp_Or_int.calls (k : Nat) (A0 : Option Addr) (c0 : Nat) (l0 : List Int) (r : Int) (w : World) (hr0 : Kd.C (Kd.int .i64) w A0 l0.length l0) (hc0 : l0.length ≤ c0) (h : cmp_Or_int.f k l0 = some r) :
  Calls Tryz.prog 86 #[.slice A0 l0.length c0] w fun e w' => e = .returned (.int .i64 r) ∧ Drawn0 w w' := by
 have HR0 := Aside0.mk hr0
 have HC0 := Aside0.mk hc0
 clear hr0 hc0
 have H : (cmp_Or_int.l0 k 0 l0 (l0.length : Int) 0) = some r := h
 clear h
 have H' := Aside0.mk H
 clear H
 go_enter Tryz.func86, Tryz.ntmps86
 go_wp2
 go_loopg [8] k (fun kq v8 w' => ∃ (x8_1 : Int), v8 = .int .i64 x8_1 ∧ Aside0 (cmp_Or_int.l0 kq 0 l0 (l0.length : Int) x8_1 = some r) ∧ Aside0 (kq ≤ k) ∧ Drawn0 w w')
 case atStart => exact ⟨(0), (by first | rfl | (simp; done) | (simp [*]; done)), H', ⟨Nat.le_refl _⟩, by repeat (first | exact Drawn0.refl _ | apply Drawn0.step)⟩
 case round =>
  clear H'
  obtain ⟨x8_1, rfl, HA, HK1, ⟨m1, rfl⟩⟩ := hrel
  cases gk with
  | zero => exact absurd HA.out (by simp [cmp_Or_int.l0])
  | succ k1 =>
   have H := HA.out
   clear HA
   simp only [cmp_Or_int.l0] at H
   by_cases c2 : x8_1 < (l0.length : Int)
   ·
    rw [if_pos c2] at H
    have c2b0 : decide (x8_1 < (l0.length : Int)) = true := decide_eq_true c2
    clear c2
    by_cases c3 : 0 ≤ x8_1
    ·
     rw [if_pos c3] at H
     have c3b0 : decide (0 ≤ x8_1) = true := decide_eq_true c3
     clear c3
     by_cases c4 : x8_1 < (l0.length : Int)
     ·
      rw [if_pos c4] at H
      have c4b0 : decide (x8_1 < (l0.length : Int)) = true := decide_eq_true c4
      clear c4
      by_cases c5 : (rd l0 x8_1) = 0
      ·
       rw [if_pos c5] at H
       have c5b0 : ((rd l0 x8_1) == 0) = true := beq_iff_eq.mpr c5
       have c5b1 : ((rd l0 x8_1) != 0) = false := bne_eq_false_iff_eq.mpr c5
       clear c5
       have H' := Aside0.mk H
       clear H
       have p311 : 0 ≤ (x8_1 : Int) := of_decide_eq_true (by first | (with_reducible assumption) | assumption)
       have q311 : x8_1 < (l0.length : Int) := of_decide_eq_true (by first | (with_reducible assumption) | assumption)
       obtain ⟨ad311, e311, hx311_0⟩ := Kd.at_int HR0.out x8_1 p311 q311
       cases e311
       replace p311 := eq_true p311
       replace q311 := eq_true q311
       go_wp2
       go_roundg k1
       case measure => have := HK1.out; omega
       case rel => exact ⟨(wrap64 (x8_1 + 1)), (by first | rfl | (simp; done) | (simp [*]; done)), H', ⟨by have := HK1.out; omega⟩, by repeat (first | exact Drawn0.refl _ | apply Drawn0.step)⟩
      ·
       rw [if_neg c5] at H
       have c5b0 : ((rd l0 x8_1) == 0) = false := beq_eq_false_iff_ne.mpr c5
       have c5b1 : ((rd l0 x8_1) != 0) = true := bne_iff_ne.mpr c5
       obtain rfl := Option.some.inj H
       have p311 : 0 ≤ (x8_1 : Int) := of_decide_eq_true (by first | (with_reducible assumption) | assumption)
       have q311 : x8_1 < (l0.length : Int) := of_decide_eq_true (by first | (with_reducible assumption) | assumption)
       obtain ⟨ad311, e311, hx311_0⟩ := Kd.at_int HR0.out x8_1 p311 q311
       cases e311
       replace p311 := eq_true p311
       replace q311 := eq_true q311
       go_wp2
       go_ret
       exact ⟨by first | rfl | (simp; done) | (simp [*]; done), by repeat (first | exact Drawn0.refl _ | apply Drawn0.step)⟩
     ·
      rw [if_neg c4] at H
      exact absurd H (by simp)
    ·
     rw [if_neg c3] at H
     exact absurd H (by simp)
   ·
    rw [if_neg c2] at H
    have c2b0 : decide (x8_1 < (l0.length : Int)) = false := decide_eq_false c2
    clear c2
    obtain rfl := Option.some.inj H
    go_wp2
    go_ret
    exact ⟨by first | rfl | (simp; done) | (simp [*]; done), by repeat (first | exact Drawn0.refl _ | apply Drawn0.step)⟩

def cmp_isNaN_int.f (a0 : Int) : Option (Bool) := some (a0 != a0)
set_option maxHeartbeats 8000000 in
set_option maxRecDepth 100000 in
theorem cmp_isNaN_int.calls (a0 : Int) (r : Bool) (w : World) (h : cmp_isNaN_int.f a0 = some r) :
  Calls Tryz.prog 120 #[.int .i64 a0] w fun e w' => e = .returned (.bool r) ∧ Drawn0 w w' := by
 have H : (some (a0 != a0)) = some r := h
 clear h
 obtain rfl := Option.some.inj H
 go_enter Tryz.func120, Tryz.ntmps120
 go_wp2
 go_ret
 exact ⟨by first | rfl | (simp; done) | (simp [*]; done), by repeat (first | exact Drawn0.refl _ | apply Drawn0.step)⟩

def cmp_Compare_int.f (a0 : Int) (a1 : Int) : Option (Int) := (cmp_isNaN_int.f a0).bind fun t312 => ((cmp_isNaN_int.f a1).bind fun t313 => (if t312 = true then (if t313 = true then (some 0) else (some (-1))) else (if t313 = true then (some 1) else (if a0 < a1 then (some (-1)) else (if a0 > a1 then (some 1) else (some 0))))))
set_option maxHeartbeats 8000000 in
set_option maxRecDepth 100000 in
theorem cmp_Compare_int.calls (a0 : Int) (a1 : Int) (r : Int) (w : World) (h : cmp_Compare_int.f a0 a1 = some r) :
  Calls Tryz.prog 87 #[.int .i64 a0, .int .i64 a1] w fun e w' => e = .returned (.int .i64 r) ∧ Drawn0 w w' := by
 have H : ((cmp_isNaN_int.f a0).bind fun t312 => ((cmp_isNaN_int.f a1).bind fun t313 => (if t312 = true then (if t313 = true then (some 0) else (some (-1))) else (if t313 = true then (some 1) else (if a0 < a1 then (some (-1)) else (if a0 > a1 then (some 1) else (some 0))))))) = some r := h
 clear h
 replace H := Option.bind_eq_some_iff.mp H
 obtain ⟨t312, A30, H⟩ := H
 replace H : ((cmp_isNaN_int.f a1).bind fun t313 => (if t312 = true then (if t313 = true then (some 0) else (some (-1))) else (if t313 = true then (some 1) else (if a0 < a1 then (some (-1)) else (if a0 > a1 then (some 1) else (some 0)))))) = some r := H
 have A3 := Aside0.mk A30
 clear A30
 replace H := Option.bind_eq_some_iff.mp H
 obtain ⟨t313, A40, H⟩ := H
 replace H : (if t312 = true then (if t313 = true then (some 0) else (some (-1))) else (if t313 = true then (some 1) else (if a0 < a1 then (some (-1)) else (if a0 > a1 then (some 1) else (some 0))))) = some r := H
 have A4 := Aside0.mk A40
 clear A40
 by_cases c5 : t312 = true
 ·
  subst c5
  rw [if_pos rfl] at H
  by_cases c6 : t313 = true
  ·
   subst c6
   rw [if_pos rfl] at H
   obtain rfl := Option.some.inj H
   go_enter Tryz.func87, Tryz.ntmps87
   go_wp2_with (first | ((with_reducible refine gate_callee (f := 120) rfl ?_); refine gl_ (some 8) Tryz.func120 #[.int .i64 a0] ?_; (with_reducible refine (cmp_isNaN_int.calls a0 true _ A3.out).mono ?_); rintro e w' ⟨rfl, ⟨nd, rfl⟩⟩; refine ⟨_, rfl, ?_⟩) | ((with_reducible refine gate_callee (f := 120) rfl ?_); refine gl_ (some 10) Tryz.func120 #[.int .i64 a1] ?_; (with_reducible refine (cmp_isNaN_int.calls a1 true _ A4.out).mono ?_); rintro e w' ⟨rfl, ⟨nd, rfl⟩⟩; refine ⟨_, rfl, ?_⟩))
   go_ret
   exact ⟨by first | rfl | (simp; done) | (simp [*]; done), by repeat (first | exact Drawn0.refl _ | apply Drawn0.step)⟩
  ·
   replace c6 := Bool.eq_false_iff.mpr c6
   subst c6
   have H1 : (some (-1)) = some r := by rw [if_neg (show ¬ (false = true) by decide)] at H; exact H
   clear H
   have H := H1
   clear H1
   obtain rfl := Option.some.inj H
   go_enter Tryz.func87, Tryz.ntmps87
   go_wp2_with (first | ((with_reducible refine gate_callee (f := 120) rfl ?_); refine gl_ (some 8) Tryz.func120 #[.int .i64 a0] ?_; (with_reducible refine (cmp_isNaN_int.calls a0 true _ A3.out).mono ?_); rintro e w' ⟨rfl, ⟨nd, rfl⟩⟩; refine ⟨_, rfl, ?_⟩) | ((with_reducible refine gate_callee (f := 120) rfl ?_); refine gl_ (some 10) Tryz.func120 #[.int .i64 a1] ?_; (with_reducible refine (cmp_isNaN_int.calls a1 false _ A4.out).mono ?_); rintro e w' ⟨rfl, ⟨nd, rfl⟩⟩; refine ⟨_, rfl, ?_⟩))
   go_ret
   exact ⟨by first | rfl | (simp; done) | (simp [*]; done), by repeat (first | exact Drawn0.refl _ | apply Drawn0.step)⟩
 ·
  replace c5 := Bool.eq_false_iff.mpr c5
  subst c5
  have H1 : (if t313 = true then (some 1) else (if a0 < a1 then (some (-1)) else (if a0 > a1 then (some 1) else (some 0)))) = some r := by rw [if_neg (show ¬ (false = true) by decide)] at H; exact H
  clear H
  have H := H1
  clear H1
  by_cases c7 : t313 = true
  ·
   subst c7
   rw [if_pos rfl] at H
   obtain rfl := Option.some.inj H
   go_enter Tryz.func87, Tryz.ntmps87
   go_wp2_with (first | ((with_reducible refine gate_callee (f := 120) rfl ?_); refine gl_ (some 8) Tryz.func120 #[.int .i64 a0] ?_; (with_reducible refine (cmp_isNaN_int.calls a0 false _ A3.out).mono ?_); rintro e w' ⟨rfl, ⟨nd, rfl⟩⟩; refine ⟨_, rfl, ?_⟩) | ((with_reducible refine gate_callee (f := 120) rfl ?_); refine gl_ (some 10) Tryz.func120 #[.int .i64 a1] ?_; (with_reducible refine (cmp_isNaN_int.calls a1 true _ A4.out).mono ?_); rintro e w' ⟨rfl, ⟨nd, rfl⟩⟩; refine ⟨_, rfl, ?_⟩))
   go_ret
   exact ⟨by first | rfl | (simp; done) | (simp [*]; done), by repeat (first | exact Drawn0.refl _ | apply Drawn0.step)⟩
  ·
   replace c7 := Bool.eq_false_iff.mpr c7
   subst c7
   have H1 : (if a0 < a1 then (some (-1)) else (if a0 > a1 then (some 1) else (some 0))) = some r := by rw [if_neg (show ¬ (false = true) by decide)] at H; exact H
   clear H
   have H := H1
   clear H1
   by_cases c8 : a0 < a1
   ·
    rw [if_pos c8] at H
    have c8b0 : decide (a0 < a1) = true := decide_eq_true c8
    clear c8
    obtain rfl := Option.some.inj H
    go_enter Tryz.func87, Tryz.ntmps87
    go_wp2_with (first | ((with_reducible refine gate_callee (f := 120) rfl ?_); refine gl_ (some 8) Tryz.func120 #[.int .i64 a0] ?_; (with_reducible refine (cmp_isNaN_int.calls a0 false _ A3.out).mono ?_); rintro e w' ⟨rfl, ⟨nd, rfl⟩⟩; refine ⟨_, rfl, ?_⟩) | ((with_reducible refine gate_callee (f := 120) rfl ?_); refine gl_ (some 10) Tryz.func120 #[.int .i64 a1] ?_; (with_reducible refine (cmp_isNaN_int.calls a1 false _ A4.out).mono ?_); rintro e w' ⟨rfl, ⟨nd, rfl⟩⟩; refine ⟨_, rfl, ?_⟩))
    go_ret
    exact ⟨by first | rfl | (simp; done) | (simp [*]; done), by repeat (first | exact Drawn0.refl _ | apply Drawn0.step)⟩
   ·
    rw [if_neg c8] at H
    have c8b0 : decide (a0 < a1) = false := decide_eq_false c8
    clear c8
    by_cases c9 : a0 > a1
    ·
     rw [if_pos c9] at H
     have c9b0 : decide (a1 < a0) = true := decide_eq_true c9
     clear c9
     obtain rfl := Option.some.inj H
     go_enter Tryz.func87, Tryz.ntmps87
     go_wp2_with (first | ((with_reducible refine gate_callee (f := 120) rfl ?_); refine gl_ (some 8) Tryz.func120 #[.int .i64 a0] ?_; (with_reducible refine (cmp_isNaN_int.calls a0 false _ A3.out).mono ?_); rintro e w' ⟨rfl, ⟨nd, rfl⟩⟩; refine ⟨_, rfl, ?_⟩) | ((with_reducible refine gate_callee (f := 120) rfl ?_); refine gl_ (some 10) Tryz.func120 #[.int .i64 a1] ?_; (with_reducible refine (cmp_isNaN_int.calls a1 false _ A4.out).mono ?_); rintro e w' ⟨rfl, ⟨nd, rfl⟩⟩; refine ⟨_, rfl, ?_⟩))
     go_ret
     exact ⟨by first | rfl | (simp; done) | (simp [*]; done), by repeat (first | exact Drawn0.refl _ | apply Drawn0.step)⟩
    ·
     rw [if_neg c9] at H
     have c9b0 : decide (a1 < a0) = false := decide_eq_false c9
     clear c9
     obtain rfl := Option.some.inj H
     go_enter Tryz.func87, Tryz.ntmps87
     go_wp2_with (first | ((with_reducible refine gate_callee (f := 120) rfl ?_); refine gl_ (some 8) Tryz.func120 #[.int .i64 a0] ?_; (with_reducible refine (cmp_isNaN_int.calls a0 false _ A3.out).mono ?_); rintro e w' ⟨rfl, ⟨nd, rfl⟩⟩; refine ⟨_, rfl, ?_⟩) | ((with_reducible refine gate_callee (f := 120) rfl ?_); refine gl_ (some 10) Tryz.func120 #[.int .i64 a1] ?_; (with_reducible refine (cmp_isNaN_int.calls a1 false _ A4.out).mono ?_); rintro e w' ⟨rfl, ⟨nd, rfl⟩⟩; refine ⟨_, rfl, ?_⟩))
     go_ret
     exact ⟨by first | rfl | (simp; done) | (simp [*]; done), by repeat (first | exact Drawn0.refl _ | apply Drawn0.step)⟩

def prefix_Cmp.f (k : Nat) (a0_0 : Bool) (a0_1 : Int) (a0_2 : Int) (a0_3 : Int) (a1_0 : Bool) (a1_1 : Int) (a1_2 : Int) (a1_3 : Int) : Option (Int) := (addr_Cmp.f a0_0 a0_1 a0_2 a1_0 a1_1 a1_2).bind fun t316 => ((cmp_Compare_int.f a0_3 a1_3).bind fun t317 => ((cmp_Or_int.f k (([t316, t317] : List Int))).bind fun t321 => (some t321)))
def prefix_Cmp.T1 : Bool × List (List Nat × List Nat) := (true, [([], []), ([0], [0]), ([], []), ([2], [2]), ([1, 3], [1, 3]), ([], []), ([5], [5]), ([], []), ([7], [7]), ([6, 8, 4], [6, 8]), ([4, 9], [4, 9]), ([10, 9], [10]), ([11, 11, 0, 1, 2, 3, 4, 5, 6, 7, 8, 9, 10, 11], [11])])
def prefix_Cmp.B1 : List Nat := [0, 1, 0, 4, 15, 0, 32, 0, 128, 511, 1023, 2047, 4095]
theorem prefix_Cmp.tab1 : rtab .any (opsOf Tryz.f45 1) = prefix_Cmp.T1 := by kernel_rfl
theorem prefix_Cmp.bits1 : waitsOk prefix_Cmp.T1.2 prefix_Cmp.B1 = true := by kernel_rfl
set_option maxHeartbeats 8000000 in
set_option maxRecDepth 100000 in
theorem prefix_Cmp.calls (k : Nat) (a0_0 : Bool) (a0_1 : Int) (a0_2 : Int) (a0_3 : Int) (a1_0 : Bool) (a1_1 : Int) (a1_2 : Int) (a1_3 : Int) (r : Int) (w : World) (h : prefix_Cmp.f k a0_0 a0_1 a0_2 a0_3 a1_0 a1_1 a1_2 a1_3 = some r) :
  Calls Tryz.prog 45 #[.agg #[.bool a0_0, .int .u64 a0_1, .int .u64 a0_2, .int .i64 a0_3], .agg #[.bool a1_0, .int .u64 a1_1, .int .u64 a1_2, .int .i64 a1_3]] w fun e w' => e = .returned (.int .i64 r) ∧ Below w.heap.size w w' := by
 have hu38 := Tryz.underlying38
 have hu26 := Tryz.underlying26
 have HB := Aside0.mk (Below.refl w.heap.size w)
 have H : ((addr_Cmp.f a0_0 a0_1 a0_2 a1_0 a1_1 a1_2).bind fun t316 => ((cmp_Compare_int.f a0_3 a1_3).bind fun t317 => ((cmp_Or_int.f k (([t316, t317] : List Int))).bind fun t321 => (some t321)))) = some r := h
 clear h
 replace H := Option.bind_eq_some_iff.mp H
 obtain ⟨t316, A30, H⟩ := H
 replace H : ((cmp_Compare_int.f a0_3 a1_3).bind fun t317 => ((cmp_Or_int.f k (([t316, t317] : List Int))).bind fun t321 => (some t321))) = some r := H
 have A3 := Aside0.mk A30
 clear A30
 replace H := Option.bind_eq_some_iff.mp H
 obtain ⟨t317, A40, H⟩ := H
 replace H : ((cmp_Or_int.f k (([t316, t317] : List Int))).bind fun t321 => (some t321)) = some r := H
 have A4 := Aside0.mk A40
 clear A40
 obtain ⟨y318, hy318⟩ : ∃ y_ : List Int, y_ = (([t316, t317] : List Int)) := ⟨_, rfl⟩
 replace H : ((cmp_Or_int.f k y318).bind fun t321 => (some t321)) = some r := by first | (rw [hy318]; with_reducible exact H) | (have H2_ := (Option.bind_some _ _).symm.trans H; rw [hy318]; with_reducible exact H2_) | (have H2_ := (Option.bind_some _ _).symm.trans H; with_reducible exact H2_) | with_reducible exact H | (rw [hy318]; exact H) | exact H
 have Ny318 := Aside0.mk hy318
 clear hy318
 replace H := Option.bind_eq_some_iff.mp H
 obtain ⟨t321, A50, H⟩ := H
 replace H : (some t321) = some r := H
 have A5 := Aside0.mk A50
 clear A50
 obtain rfl := Option.some.inj H
 go_enter Tryz.func45, Tryz.ntmps45
 try go_wp2_with (first | ((with_reducible refine gate_dst (N := 2) rfl ?_); refine bx_ 2 #[.bool a0_0, .int .u64 a0_1, .int .u64 a0_2, .int .i64 a0_3] 38 ?_; intro gb314 hg w6 hbox hb; have BK314 := Aside0.mk (hbox); have GW314 := gw_ HB hg; have GE314 := gw_ HB hg; replace HB := bs_ HB hb; clear hb hbox hg) | ((with_reducible refine gate_dst (N := 3) rfl ?_); refine bx_ 3 #[.bool a1_0, .int .u64 a1_1, .int .u64 a1_2, .int .i64 a1_3] 38 ?_; intro gb315 hg w7 hbox hb; have BK315 := Aside0.mk (hbox); have GW315 := gw_ HB hg; have GE315 := gw_ HB hg; have NB314_315 := nl_ BK314 hg; have NB315_314 := ng_ BK314 hg; replace BK314 := bb_ BK314 hb; replace HB := bs_ HB hb; clear hb hbox hg))
 replace BK314 := Aside0.mk (blk_drew BK314.out)
 replace BK315 := Aside0.mk (blk_drew BK315.out)
 replace HB := Aside0.mk (below_drew1 HB.out)
 refine start_ (n := 13) (S := fun w' => w'.cell? ⟨gb314, 0, none⟩ = some (.bool a0_0) ∧ w'.cell? ⟨gb314, 1, none⟩ = some (.int .u64 a0_1) ∧ w'.cell? ⟨gb314, 2, none⟩ = some (.int .u64 a0_2) ∧ w'.cell? ⟨gb314, 3, none⟩ = some (.int .i64 a0_3) ∧ w'.cell? ⟨gb315, 0, none⟩ = some (.bool a1_0) ∧ w'.cell? ⟨gb315, 1, none⟩ = some (.int .u64 a1_1) ∧ w'.cell? ⟨gb315, 2, none⟩ = some (.int .u64 a1_2) ∧ w'.cell? ⟨gb315, 3, none⟩ = some (.int .i64 a1_3)) (ds := []) (bm_ 13 0) (by kernel_rfl) rfl rfl ⟨kc_ BK314 0, kc_ BK314 1, kc_ BK314 2, kc_ BK314 3, kc_ BK315 0, kc_ BK315 1, kc_ BK315 2, kc_ BK315 3⟩ (fun hHeld => ?_); refine with_tabW prefix_Cmp.tab1 prefix_Cmp.bits1 (fun HT_ HW_ => ?_)
 generalize w7.drew = w8 at BK314 BK315 HB hHeld ⊢
 refine pu_ 0 (some 5) (bm_ 13 1) rfl HT_ ⟨by rfl, by intro w'; go_simp; with_reducible rfl⟩ ?_
 refine pu_ 2 (some 7) (bm_ 13 5) rfl HT_ ⟨by rfl, by intro w'; go_simp; with_reducible rfl⟩ ?_
 refine pu_ 5 (some 10) (bm_ 13 37) rfl HT_ ⟨by rfl, by intro w'; go_simp; with_reducible rfl⟩ ?_
 refine pu_ 7 (some 12) (bm_ 13 165) rfl HT_ ⟨by rfl, by intro w'; go_simp; with_reducible rfl⟩ ?_
 refine ta_ 1 (some 6) (bm_ 13 167) rfl HT_ HW_ ⟨by rfl, by rintro w' ⟨s0, s1, s2, s3, s4, s5, s6, s7⟩; go_simp; with_reducible rfl⟩ hHeld ?_
 refine ta_ 3 (some 8) (bm_ 13 175) rfl HT_ HW_ ⟨by rfl, by rintro w' ⟨s0, s1, s2, s3, s4, s5, s6, s7⟩; go_simp; with_reducible rfl⟩ hHeld ?_
 refine ta_ 6 (some 11) (bm_ 13 239) rfl HT_ HW_ ⟨by rfl, by rintro w' ⟨s0, s1, s2, s3, s4, s5, s6, s7⟩; go_simp; with_reducible rfl⟩ hHeld ?_
 refine ta_ 8 (some 13) (bm_ 13 495) rfl HT_ HW_ ⟨by rfl, by rintro w' ⟨s0, s1, s2, s3, s4, s5, s6, s7⟩; go_simp; with_reducible rfl⟩ hHeld ?_
 refine one_ (i := 4) (N := some 9) (bm_ 13 511) rfl rfl (one_of HT_.out (by kernel_rfl)) (by decide) (fun K hK => ?_)
 refine gr_ Tryz.func20 #[.agg #[.bool a0_0, .int .u64 a0_1, .int .u64 a0_2], .agg #[.bool a1_0, .int .u64 a1_1, .int .u64 a1_2]] ?_
 with_reducible refine (addr_Cmp.calls a0_0 a0_1 a0_2 a1_0 a1_1 a1_2 t316 _ A3.out).mono ?_
 rintro e w9 ⟨rfl, hb⟩
 refine ⟨_, rfl, ?_⟩
 replace BK314 := bb_ BK314 hb
 replace BK315 := bb_ BK315 hb
 replace HB := bs_ HB hb
 (try clear hb)
 (try clear hb2)
 (try clear hk)
 (try clear hi)
 refine hK.out _ _ ⟨kc_ BK314 0, kc_ BK314 1, kc_ BK314 2, kc_ BK314 3, kc_ BK315 0, kc_ BK315 1, kc_ BK315 2, kc_ BK315 3⟩ (fun hHeld => ?_)
 clear hK K
 refine norm_ (a' := ?_) ?_ ?_
 rotate_left
 ·
  show Act.put _ (some 9) _ = _
  simp only [Act.put, List.setIfInBounds_toArray, List.set_cons_zero, List.set_cons_succ, i64_w, i32_w]
  rfl
 refine one_ (i := 9) (N := some 14) (bm_ 13 1023) rfl rfl (one_of HT_.out (by kernel_rfl)) (by decide) (fun K hK => ?_)
 refine gr_ Tryz.func87 #[.int .i64 a0_3, .int .i64 a1_3] ?_
 with_reducible refine (cmp_Compare_int.calls a0_3 a1_3 t317 _ A4.out).mono ?_
 rintro e w' ⟨rfl, ⟨nd, rfl⟩⟩
 refine ⟨_, rfl, ?_⟩
 refine hK.out _ _ ⟨kc_ BK314 0, kc_ BK314 1, kc_ BK314 2, kc_ BK314 3, kc_ BK315 0, kc_ BK315 1, kc_ BK315 2, kc_ BK315 3⟩ (fun hHeld => ?_)
 clear hK K
 refine norm_ (a' := ?_) ?_ ?_
 rotate_left
 ·
  show Act.put _ (some 14) _ = _
  simp only [Act.put, List.setIfInBounds_toArray, List.set_cons_zero, List.set_cons_succ, i64_w, i32_w]
  rfl
 refine one_ (i := 10) (N := some 15) (bm_ 13 2047) rfl rfl (one_of HT_.out (by kernel_rfl)) (by decide) (fun K hK => ?_)
 refine Kd.R_lit_step (Kd.int .i64) _ 3 ?hg (N := 15) ?hd (xs := ([t316, t317] : List Int)) (inner := [.int .i64 t316, .int .i64 t317]) (ok := fun _ => True) (okp := fun _ => True) ?hr ?hp (fun _ hk => hk) trivial (Below.refl _ _) (Nat.le_refl _) (by simp) ?_; (case hd => rfl); (case hg => rfl); (case hr => first | (go_simp; done) | (go_simp; rfl)); (case hp => exact (Reps.one (show Kd.M (Kd.int .i64) _ _ _ t316 [.int .i64 t316] from rfl) (Reps.one (show Kd.M (Kd.int .i64) _ _ _ t317 [.int .i64 t317] from rfl) (Reps.none _ _))))
 intro v319 w10 ho11 hb hg_ hnew_
 clear hg_ hnew_
 (first | rw [← Ny318.out] at ho11 | (simp only [Int.reduceToNat] at ho11; rw [← Ny318.out] at ho11))
 have HO320 := Aside0.mk (Kd.R_lower ho11 (below_size (pb_ HB)))
 replace BK314 := bb_ BK314 hb
 replace BK315 := bb_ BK315 hb
 replace HB := bs_ HB hb
 clear hb ho11
 obtain ⟨Ao12, co12, eo12⟩ := Kd.R_slice HO320.out
 (first | subst eo12 | (injection eo12 with f1_ f2_ f3_; have f4_ := f1_.symm; have f5_ := f3_.symm; clear f1_ f2_ f3_; subst f4_; subst f5_))
 refine hK.out _ _ ⟨kc_ BK314 0, kc_ BK314 1, kc_ BK314 2, kc_ BK314 3, kc_ BK315 0, kc_ BK315 1, kc_ BK315 2, kc_ BK315 3⟩ (fun hHeld => ?_)
 clear hK K
 refine norm_ (a' := ?_) ?_ ?_
 rotate_left
 ·
  show Act.put _ (some 15) _ = _
  simp only [Act.put, List.setIfInBounds_toArray, List.set_cons_zero, List.set_cons_succ, i64_w, i32_w]
  rfl
 refine one_ (i := 11) (N := some 16) (bm_ 13 4095) rfl rfl (one_of HT_.out (by kernel_rfl)) (by decide) (fun K hK => ?_)
 refine gr_ Tryz.func86 #[.slice Ao12 y318.length co12] ?_
 with_reducible refine (cmp_Or_int.calls k _ _ y318 t321 _ ?side1 ?side2 A5.out).mono ?_
 (case side1 => repeat (first | exact (Kd.R_reads' HO320.out).2.2 | (with_reducible refine Kd.C_alloc ?_ _) | (with_reducible refine Kd.C_drewN ?_ _) | (with_reducible refine Kd.C_drew ?_)))
 (case side2 => exact (Kd.R_reads' HO320.out).2.1)
 rintro e w' ⟨rfl, ⟨nd, rfl⟩⟩
 refine ⟨_, rfl, ?_⟩
 refine hK.out _ _ ⟨kc_ BK314 0, kc_ BK314 1, kc_ BK314 2, kc_ BK314 3, kc_ BK315 0, kc_ BK315 1, kc_ BK315 2, kc_ BK315 3⟩ (fun hHeld => ?_)
 clear hK K
 refine norm_ (a' := ?_) ?_ ?_
 rotate_left
 ·
  show Act.put _ (some 16) _ = _
  simp only [Act.put, List.setIfInBounds_toArray, List.set_cons_zero, List.set_cons_succ, i64_w, i32_w]
  rfl
 refine pu_ 12 (some 4) (bm_ 13 8191) rfl HT_ ⟨by rfl, by intro w'; go_simp; with_reducible rfl⟩ ?_
 refine done_ (done_of HT_.out (by kernel_rfl)) ?_
 try go_wp2
 go_ret
 exact ⟨by first | rfl | (simp [errW_none, errW_some] <;> rfl) | (simp [*, errW_none, errW_some] <;> rfl), pb_ HB⟩

end Go.Proofs.YtgdgklibilddgaaGreatDoor.PPr

namespace Go.Proofs.YtgdgklibilddgaaGreatDoor.PPr
open Go.RowKit Go.Proofs.YtgdgklibilddgaaGreatDoorW.PrintWords Go.Proofs.YtgdgklibilddgaaGreatDoorW.PrintLast Go.Proofs.YtgdgklibilddgaaGreatDoorW.PrintMore
attribute [local go_sem] max2_int min2_int max_two min_two max_three min_three max_four min_four   -- for this text's walks alone

def carve_cuts.f (a0_0 : Bool) (a0_1 : Int) (a0_2 : Int) (a0_3 : Int) (a1 : Int) : Option (Bool) := (prefix_Right.f a0_0 a0_1 a0_2 a0_3).bind fun t454 => (if t454 = true then (if a1 ≥ a0_3 then ((addr_Width.f a0_0 a0_1 a0_2).bind fun t455 => (some (decide (a1 ≤ t455)))) else (some false)) else (some false))
set_option maxHeartbeats 8000000 in
set_option maxRecDepth 100000 in
theorem carve_cuts.calls (a0_0 : Bool) (a0_1 : Int) (a0_2 : Int) (a0_3 : Int) (a1 : Int) (r : Bool) (w : World) (h : carve_cuts.f a0_0 a0_1 a0_2 a0_3 a1 = some r) :
  Calls Tryz.prog 89 #[.agg #[.bool a0_0, .int .u64 a0_1, .int .u64 a0_2, .int .i64 a0_3], .int .i64 a1] w fun e w' => e = .returned (.bool r) ∧ Below w.heap.size w w' := by
 have hu38 := Tryz.underlying38
 have hu26 := Tryz.underlying26
 have HB := Aside0.mk (Below.refl w.heap.size w)
 have H : ((prefix_Right.f a0_0 a0_1 a0_2 a0_3).bind fun t454 => (if t454 = true then (if a1 ≥ a0_3 then ((addr_Width.f a0_0 a0_1 a0_2).bind fun t455 => (some (decide (a1 ≤ t455)))) else (some false)) else (some false))) = some r := h
 clear h
 replace H := Option.bind_eq_some_iff.mp H
 obtain ⟨t454, A30, H⟩ := H
 replace H : (if t454 = true then (if a1 ≥ a0_3 then ((addr_Width.f a0_0 a0_1 a0_2).bind fun t455 => (some (decide (a1 ≤ t455)))) else (some false)) else (some false)) = some r := H
 have A3 := Aside0.mk A30
 clear A30
 by_cases c4 : t454 = true
 ·
  subst c4
  rw [if_pos rfl] at H
  by_cases c5 : a1 ≥ a0_3
  ·
   rw [if_pos c5] at H
   have c5b0 : decide (a0_3 ≤ a1) = true := decide_eq_true c5
   clear c5
   replace H := Option.bind_eq_some_iff.mp H
   obtain ⟨t455, A60, H⟩ := H
   replace H : (some (decide (a1 ≤ t455))) = some r := H
   have A6 := Aside0.mk A60
   clear A60
   obtain rfl := Option.some.inj H
   go_enter Tryz.func89, Tryz.ntmps89
   go_wp2_with (first | ((with_reducible refine gate_dst (N := 2) rfl ?_); refine bx_ 2 #[.bool a0_0, .int .u64 a0_1, .int .u64 a0_2, .int .i64 a0_3] 38 ?_; intro gb453 hg w7 hbox hb; have BK453 := Aside0.mk (hbox); have GW453 := gw_ HB hg; have GE453 := gw_ HB hg; replace HB := bs_ HB hb; clear hb hbox hg; obtain ⟨hcz8_0, hcz8_1, hcz8_2, hcz8_3, hfz8_0, hfz8_1, hfz8_2, hfz8_3⟩ := c4_ BK453) | ((with_reducible refine gate_callee (f := 36) rfl ?_); refine gl_ (some 6) Tryz.func36 #[.agg #[.bool a0_0, .int .u64 a0_1, .int .u64 a0_2, .int .i64 a0_3]] ?_; (with_reducible refine (prefix_Right.calls a0_0 a0_1 a0_2 a0_3 true _ A3.out).mono ?_); rintro e w9 ⟨rfl, hb⟩; refine ⟨_, rfl, ?_⟩; replace BK453 := bb_ BK453 hb; replace HB := bs_ HB hb; (try clear hb); (try clear hb2); (try clear hk); (try clear hi); obtain ⟨hcz10_0, hcz10_1, hcz10_2, hcz10_3, hfz10_0, hfz10_1, hfz10_2, hfz10_3⟩ := c4_ BK453) | (go_at_call 22; (with_reducible refine (addr_Width.calls a0_0 a0_1 a0_2 t455 _ A6.out).mono ?_); rintro e w11 ⟨rfl, hb⟩; replace BK453 := bb_ BK453 hb; replace HB := bs_ HB hb; (try clear hb); (try clear hb2); (try clear hk); (try clear hi)))
   go_ret
   exact ⟨by first | rfl | (simp [errW_none, errW_some] <;> rfl) | (simp [*, errW_none, errW_some] <;> rfl), pb_ HB⟩
  ·
   rw [if_neg c5] at H
   have c5b0 : decide (a0_3 ≤ a1) = false := decide_eq_false c5
   clear c5
   obtain rfl := Option.some.inj H
   go_enter Tryz.func89, Tryz.ntmps89
   go_wp2_with (first | ((with_reducible refine gate_dst (N := 2) rfl ?_); refine bx_ 2 #[.bool a0_0, .int .u64 a0_1, .int .u64 a0_2, .int .i64 a0_3] 38 ?_; intro gb453 hg w12 hbox hb; have BK453 := Aside0.mk (hbox); have GW453 := gw_ HB hg; have GE453 := gw_ HB hg; replace HB := bs_ HB hb; clear hb hbox hg; obtain ⟨hcz13_0, hcz13_1, hcz13_2, hcz13_3, hfz13_0, hfz13_1, hfz13_2, hfz13_3⟩ := c4_ BK453) | ((with_reducible refine gate_callee (f := 36) rfl ?_); refine gl_ (some 6) Tryz.func36 #[.agg #[.bool a0_0, .int .u64 a0_1, .int .u64 a0_2, .int .i64 a0_3]] ?_; (with_reducible refine (prefix_Right.calls a0_0 a0_1 a0_2 a0_3 true _ A3.out).mono ?_); rintro e w14 ⟨rfl, hb⟩; refine ⟨_, rfl, ?_⟩; replace BK453 := bb_ BK453 hb; replace HB := bs_ HB hb; (try clear hb); (try clear hb2); (try clear hk); (try clear hi); obtain ⟨hcz15_0, hcz15_1, hcz15_2, hcz15_3, hfz15_0, hfz15_1, hfz15_2, hfz15_3⟩ := c4_ BK453))
   go_ret
   exact ⟨by first | rfl | (simp [errW_none, errW_some] <;> rfl) | (simp [*, errW_none, errW_some] <;> rfl), pb_ HB⟩
 ·
  replace c4 := Bool.eq_false_iff.mpr c4
  subst c4
  have H1 : (some false) = some r := by rw [if_neg (show ¬ (false = true) by decide)] at H; exact H
  clear H
  have H := H1
  clear H1
  obtain rfl := Option.some.inj H
  go_enter Tryz.func89, Tryz.ntmps89
  go_wp2_with (first | ((with_reducible refine gate_dst (N := 2) rfl ?_); refine bx_ 2 #[.bool a0_0, .int .u64 a0_1, .int .u64 a0_2, .int .i64 a0_3] 38 ?_; intro gb453 hg w16 hbox hb; have BK453 := Aside0.mk (hbox); have GW453 := gw_ HB hg; have GE453 := gw_ HB hg; replace HB := bs_ HB hb; clear hb hbox hg; obtain ⟨hcz17_0, hcz17_1, hcz17_2, hcz17_3, hfz17_0, hfz17_1, hfz17_2, hfz17_3⟩ := c4_ BK453) | ((with_reducible refine gate_callee (f := 36) rfl ?_); refine gl_ (some 6) Tryz.func36 #[.agg #[.bool a0_0, .int .u64 a0_1, .int .u64 a0_2, .int .i64 a0_3]] ?_; (with_reducible refine (prefix_Right.calls a0_0 a0_1 a0_2 a0_3 false _ A3.out).mono ?_); rintro e w18 ⟨rfl, hb⟩; refine ⟨_, rfl, ?_⟩; replace BK453 := bb_ BK453 hb; replace HB := bs_ HB hb; (try clear hb); (try clear hb2); (try clear hk); (try clear hi)))
  go_ret
  exact ⟨by first | rfl | (simp [errW_none, errW_some] <;> rfl) | (simp [*, errW_none, errW_some] <;> rfl), pb_ HB⟩

def carve_Block.f (a0_0 : Bool) (a0_1 : Int) (a0_2 : Int) (a0_3 : Int) (a1 : Int) (a2_0 : Int) (a2_1 : Int) : Option (Bool × Int × Int × Int × Int) := (carve_cuts.f a0_0 a0_1 a0_2 a0_3 a1).bind fun t459 => (if t459 = true then ((num_Len.f a2_0 a2_1).bind fun t460 => (if t460 > (wrap64 (a1 - a0_3)) then (some (false, 0, 0, 0, 12)) else ((addr_Width.f a0_0 a0_1 a0_2).bind fun t462 => ((num_Shl.f a2_0 a2_1 (wrap64 (t462 - a1))).bind fun bt463 => ((num_Or.f a0_1 a0_2 bt463.1 bt463.2).bind fun bt465 => (some (a0_0, bt465.1, bt465.2, a1, 0))))))) else (some (false, 0, 0, 0, 1)))
def carve_Block.T3 : Bool × List (List Nat × List Nat) := (true, [([], []), ([0], [0]), ([], []), ([], []), ([3], [3]), ([2, 4], [2, 4]), ([1, 5], [1, 5]), ([6, 1], [6])])
def carve_Block.B3 : List Nat := [0, 1, 0, 0, 8, 28, 63, 127]
theorem carve_Block.tab3 : rtab .any (opsOf Tryz.f49 3) = carve_Block.T3 := by kernel_rfl
theorem carve_Block.bits3 : waitsOk carve_Block.T3.2 carve_Block.B3 = true := by kernel_rfl
def carve_Block.T6 : Bool × List (List Nat × List Nat) := (true, [([], []), ([0], [0]), ([], []), ([], []), ([3], [3]), ([], []), ([4, 5], [4, 5]), ([2, 6, 4], [2, 6]), ([1, 7, 7], [1, 7]), ([0, 1, 2, 3, 4, 5, 6, 7, 8], []), ([9, 8, 8, 0, 1, 2, 3, 4, 5, 6, 7, 8], [8, 9])])
def carve_Block.B6 : List Nat := [0, 1, 0, 0, 8, 0, 56, 124, 255, 511, 1023]
theorem carve_Block.tab6 : rtab .any (opsOf Tryz.f49 6) = carve_Block.T6 := by kernel_rfl
theorem carve_Block.bits6 : waitsOk carve_Block.T6.2 carve_Block.B6 = true := by kernel_rfl
set_option maxHeartbeats 8000000 in
set_option maxRecDepth 100000 in
theorem carve_Block.calls (a0_0 : Bool) (a0_1 : Int) (a0_2 : Int) (a0_3 : Int) (a1 : Int) (a2_0 : Int) (a2_1 : Int) (r1 : Bool) (r2 : Int) (r3 : Int) (r4 : Int) (r5 : Int) (w : World) (h : carve_Block.f a0_0 a0_1 a0_2 a0_3 a1 a2_0 a2_1 = some (r1, r2, r3, r4, r5)) :
  Calls Tryz.prog 49 #[.agg #[.bool a0_0, .int .u64 a0_1, .int .u64 a0_2, .int .i64 a0_3], .int .i64 a1, .agg #[.int .u64 a2_0, .int .u64 a2_1]] w fun e w' => e = .returned (.tuple #[.agg #[.bool r1, .int .u64 r2, .int .u64 r3, .int .i64 r4], .int .i64 r5]) ∧ Below w.heap.size w w' := by
 have hu38 := Tryz.underlying38
 have hu24 := Tryz.underlying24
 have hu26 := Tryz.underlying26
 have HB := Aside0.mk (Below.refl w.heap.size w)
 have H : ((carve_cuts.f a0_0 a0_1 a0_2 a0_3 a1).bind fun t459 => (if t459 = true then ((num_Len.f a2_0 a2_1).bind fun t460 => (if t460 > (wrap64 (a1 - a0_3)) then (some (false, 0, 0, 0, 12)) else ((addr_Width.f a0_0 a0_1 a0_2).bind fun t462 => ((num_Shl.f a2_0 a2_1 (wrap64 (t462 - a1))).bind fun bt463 => ((num_Or.f a0_1 a0_2 bt463.1 bt463.2).bind fun bt465 => (some (a0_0, bt465.1, bt465.2, a1, 0))))))) else (some (false, 0, 0, 0, 1)))) = some (r1, r2, r3, r4, r5) := h
 clear h
 replace H := Option.bind_eq_some_iff.mp H
 obtain ⟨t459, A40, H⟩ := H
 replace H : (if t459 = true then ((num_Len.f a2_0 a2_1).bind fun t460 => (if t460 > (wrap64 (a1 - a0_3)) then (some (false, 0, 0, 0, 12)) else ((addr_Width.f a0_0 a0_1 a0_2).bind fun t462 => ((num_Shl.f a2_0 a2_1 (wrap64 (t462 - a1))).bind fun bt463 => ((num_Or.f a0_1 a0_2 bt463.1 bt463.2).bind fun bt465 => (some (a0_0, bt465.1, bt465.2, a1, 0))))))) else (some (false, 0, 0, 0, 1))) = some (r1, r2, r3, r4, r5) := H
 have A4 := Aside0.mk A40
 clear A40
 by_cases c5 : t459 = true
 ·
  subst c5
  rw [if_pos rfl] at H
  replace H := Option.bind_eq_some_iff.mp H
  obtain ⟨t460, A60, H⟩ := H
  replace H : (if t460 > (wrap64 (a1 - a0_3)) then (some (false, 0, 0, 0, 12)) else ((addr_Width.f a0_0 a0_1 a0_2).bind fun t462 => ((num_Shl.f a2_0 a2_1 (wrap64 (t462 - a1))).bind fun bt463 => ((num_Or.f a0_1 a0_2 bt463.1 bt463.2).bind fun bt465 => (some (a0_0, bt465.1, bt465.2, a1, 0)))))) = some (r1, r2, r3, r4, r5) := H
  have A6 := Aside0.mk A60
  clear A60
  by_cases c7 : t460 > (wrap64 (a1 - a0_3))
  ·
   rw [if_pos c7] at H
   have c7b0 : decide ((wrap64 (a1 - a0_3)) < t460) = true := decide_eq_true c7
   clear c7
   simp only [Option.some.injEq, Prod.mk.injEq] at H
   obtain ⟨rfl, rfl, rfl, rfl, rfl⟩ := H
   go_enter Tryz.func49, Tryz.ntmps49
   try go_wp2_with (first | ((with_reducible refine gate_dst (N := 3) rfl ?_); refine bx_ 3 #[.bool a0_0, .int .u64 a0_1, .int .u64 a0_2, .int .i64 a0_3] 38 ?_; intro gb456 hg w8 hbox hb; have BK456 := Aside0.mk (hbox); have GW456 := gw_ HB hg; have GE456 := gw_ HB hg; replace HB := bs_ HB hb; clear hb hbox hg) | ((with_reducible refine gate_dst (N := 5) rfl ?_); refine bx_ 5 #[.int .u64 a2_0, .int .u64 a2_1] 24 ?_; intro gb457 hg w9 hbox hb; have BK457 := Aside0.mk (hbox); have GW457 := gw_ HB hg; have GE457 := gw_ HB hg; have NB456_457 := nl_ BK456 hg; have NB457_456 := ng_ BK456 hg; replace BK456 := bb_ BK456 hb; replace HB := bs_ HB hb; clear hb hbox hg) | ((with_reducible refine gate_dst (N := 6) rfl ?_); refine bx_ 6 #[.bool false, .int .u64 0, .int .u64 0, .int .i64 0] 38 ?_; intro gb458 hg w10 hbox hb; have BK458 := Aside0.mk (hbox); have GW458 := gw_ HB hg; have GE458 := gw_ HB hg; have NB456_458 := nl_ BK456 hg; have NB458_456 := ng_ BK456 hg; have NB457_458 := nl_ BK457 hg; have NB458_457 := ng_ BK457 hg; replace BK456 := bb_ BK456 hb; replace BK457 := bb_ BK457 hb; replace HB := bs_ HB hb; clear hb hbox hg; have hnb11 := NB456_457.out; have hnc11 := NB457_456.out; have hnb12 := NB456_458.out; have hnc12 := NB458_456.out; obtain ⟨hcz13_0, hcz13_1, hcz13_2, hcz13_3, hfz13_0, hfz13_1, hfz13_2, hfz13_3⟩ := c4_ BK456) | ((with_reducible refine gate_callee (f := 89) rfl ?_); refine gl_ (some 12) Tryz.func89 #[.agg #[.bool a0_0, .int .u64 a0_1, .int .u64 a0_2, .int .i64 a0_3], .int .i64 a1] ?_; (with_reducible refine (carve_cuts.calls a0_0 a0_1 a0_2 a0_3 a1 true _ A4.out).mono ?_); rintro e w14 ⟨rfl, hb⟩; refine ⟨_, rfl, ?_⟩; replace BK456 := bb_ BK456 hb; replace BK457 := bb_ BK457 hb; replace BK458 := bb_ BK458 hb; replace HB := bs_ HB hb; (try clear hb); (try clear hb2); (try clear hk); (try clear hi)))
   replace BK456 := Aside0.mk (blk_drew BK456.out)
   replace BK457 := Aside0.mk (blk_drew BK457.out)
   replace BK458 := Aside0.mk (blk_drew BK458.out)
   replace HB := Aside0.mk (below_drew1 HB.out)
   refine start_ (n := 8) (S := fun w' => w'.cell? ⟨gb457, 0, none⟩ = some (.int .u64 a2_0) ∧ w'.cell? ⟨gb457, 1, none⟩ = some (.int .u64 a2_1) ∧ w'.cell? ⟨gb456, 0, none⟩ = some (.bool a0_0) ∧ w'.cell? ⟨gb456, 1, none⟩ = some (.int .u64 a0_1) ∧ w'.cell? ⟨gb456, 2, none⟩ = some (.int .u64 a0_2) ∧ w'.cell? ⟨gb456, 3, none⟩ = some (.int .i64 a0_3)) (ds := []) (bm_ 8 0) (by kernel_rfl) rfl rfl ⟨kc_ BK457 0, kc_ BK457 1, kc_ BK456 0, kc_ BK456 1, kc_ BK456 2, kc_ BK456 3⟩ (fun hHeld => ?_); refine with_tabW carve_Block.tab3 carve_Block.bits3 (fun HT_ HW_ => ?_)
   generalize w14.drew = w15 at BK456 BK457 BK458 HB hHeld ⊢
   refine pu_ 2 (some 18) (bm_ 8 4) rfl HT_ ⟨by rfl, by intro w'; go_simp; with_reducible rfl⟩ ?_
   refine pu_ 3 (some 19) (bm_ 8 12) rfl HT_ ⟨by rfl, by intro w'; go_simp; with_reducible rfl⟩ ?_
   refine ta_ 0 (some 16) (bm_ 8 13) rfl HT_ HW_ ⟨by rfl, by rintro w' ⟨s0, s1, s2, s3, s4, s5⟩; go_simp; with_reducible rfl⟩ hHeld ?_
   refine ta_ 4 (some 20) (bm_ 8 29) rfl HT_ HW_ ⟨by rfl, by rintro w' ⟨s0, s1, s2, s3, s4, s5⟩; go_simp; with_reducible rfl⟩ hHeld ?_
   refine pu_ 5 (some 21) (bm_ 8 61) rfl HT_ ⟨by rfl, by intro w'; go_simp; with_reducible rfl⟩ ?_
   refine one_ (i := 1) (N := some 17) (bm_ 8 63) rfl rfl (one_of HT_.out (by kernel_rfl)) (by decide) (fun K hK => ?_)
   refine gr_ Tryz.func70 #[.agg #[.int .u64 a2_0, .int .u64 a2_1]] ?_
   with_reducible refine (num_Len.calls a2_0 a2_1 t460 _ A6.out).mono ?_
   rintro e w16 ⟨rfl, hb⟩
   refine ⟨_, rfl, ?_⟩
   replace BK456 := bb_ BK456 hb
   replace BK457 := bb_ BK457 hb
   replace BK458 := bb_ BK458 hb
   replace HB := bs_ HB hb
   (try clear hb)
   (try clear hb2)
   (try clear hk)
   (try clear hi)
   refine hK.out _ _ ⟨kc_ BK457 0, kc_ BK457 1, kc_ BK456 0, kc_ BK456 1, kc_ BK456 2, kc_ BK456 3⟩ (fun hHeld => ?_)
   clear hK K
   refine norm_ (a' := ?_) ?_ ?_
   rotate_left
   ·
    show Act.put _ (some 17) _ = _
    simp only [Act.put, List.setIfInBounds_toArray, List.set_cons_zero, List.set_cons_succ, i64_w, i32_w]
    rfl
   refine pu_ 6 (some 22) (bm_ 8 127) rfl HT_ ⟨by rfl, by intro w'; go_simp; with_reducible rfl⟩ ?_
   refine pu_ 7 (some 15) (bm_ 8 255) rfl HT_ ⟨by rfl, by intro w'; go_simp; with_reducible rfl⟩ ?_
   refine done_ (done_of HT_.out (by kernel_rfl)) ?_
   have hnb17 := NB458_457.out
   have hnc17 := NB457_458.out
   obtain ⟨hcz18_0, hcz18_1, hcz18_2, hcz18_3, hfz18_0, hfz18_1, hfz18_2, hfz18_3⟩ := c4_ BK458
   try go_wp2
   refine bodyPost_ret (results_ct rfl _ _ gb458 38 #[.bool false, .int .u64 0, .int .u64 0, .int .i64 0] (0, 0) _ rfl (by refine pw_ ?_; refine blk_put (cs := #[.bool false, .int .u64 0, .int .u64 0, .int .i64 0]) ?_ 3 _ rfl; refine pw_ ?_; refine blk_put (cs := #[.bool false, .int .u64 0, .int .u64 0, .int .i64 0]) ?_ 2 _ rfl; refine pw_ ?_; refine blk_put (cs := #[.bool false, .int .u64 0, .int .u64 0, .int .i64 0]) ?_ 1 _ rfl; refine pw_ ?_; refine blk_put (cs := #[.bool false, .int .u64 0, .int .u64 0, .int .i64 0]) ?_ 0 _ rfl; refine pw_ ?_; exact BK458.out) Tryz.underlying38 rfl (by kernel_rfl)) rfl ?_
   exact ⟨by first | rfl | (simp [errW_none, errW_some] <;> rfl) | (simp [*, errW_none, errW_some] <;> rfl), pb_ HB⟩
  ·
   rw [if_neg c7] at H
   have c7b0 : decide ((wrap64 (a1 - a0_3)) < t460) = false := decide_eq_false c7
   clear c7
   replace H := Option.bind_eq_some_iff.mp H
   obtain ⟨t462, A190, H⟩ := H
   replace H : ((num_Shl.f a2_0 a2_1 (wrap64 (t462 - a1))).bind fun bt463 => ((num_Or.f a0_1 a0_2 bt463.1 bt463.2).bind fun bt465 => (some (a0_0, bt465.1, bt465.2, a1, 0)))) = some (r1, r2, r3, r4, r5) := H
   have A19 := Aside0.mk A190
   clear A190
   replace H := Option.bind_eq_some_iff.mp H
   obtain ⟨⟨t463, t464⟩, A200, H⟩ := H
   replace H : ((num_Or.f a0_1 a0_2 t463 t464).bind fun bt465 => (some (a0_0, bt465.1, bt465.2, a1, 0))) = some (r1, r2, r3, r4, r5) := H
   have A20 := Aside0.mk A200
   clear A200
   replace H := Option.bind_eq_some_iff.mp H
   obtain ⟨⟨t465, t466⟩, A210, H⟩ := H
   replace H : (some (a0_0, t465, t466, a1, 0)) = some (r1, r2, r3, r4, r5) := H
   have A21 := Aside0.mk A210
   clear A210
   simp only [Option.some.injEq, Prod.mk.injEq] at H
   obtain ⟨rfl, rfl, rfl, rfl, rfl⟩ := H
   go_enter Tryz.func49, Tryz.ntmps49
   try go_wp2_with (first | ((with_reducible refine gate_dst (N := 3) rfl ?_); refine bx_ 3 #[.bool a0_0, .int .u64 a0_1, .int .u64 a0_2, .int .i64 a0_3] 38 ?_; intro gb456 hg w22 hbox hb; have BK456 := Aside0.mk (hbox); have GW456 := gw_ HB hg; have GE456 := gw_ HB hg; replace HB := bs_ HB hb; clear hb hbox hg) | ((with_reducible refine gate_dst (N := 5) rfl ?_); refine bx_ 5 #[.int .u64 a2_0, .int .u64 a2_1] 24 ?_; intro gb457 hg w23 hbox hb; have BK457 := Aside0.mk (hbox); have GW457 := gw_ HB hg; have GE457 := gw_ HB hg; have NB456_457 := nl_ BK456 hg; have NB457_456 := ng_ BK456 hg; replace BK456 := bb_ BK456 hb; replace HB := bs_ HB hb; clear hb hbox hg) | ((with_reducible refine gate_dst (N := 6) rfl ?_); refine bx_ 6 #[.bool false, .int .u64 0, .int .u64 0, .int .i64 0] 38 ?_; intro gb458 hg w24 hbox hb; have BK458 := Aside0.mk (hbox); have GW458 := gw_ HB hg; have GE458 := gw_ HB hg; have NB456_458 := nl_ BK456 hg; have NB458_456 := ng_ BK456 hg; have NB457_458 := nl_ BK457 hg; have NB458_457 := ng_ BK457 hg; replace BK456 := bb_ BK456 hb; replace BK457 := bb_ BK457 hb; replace HB := bs_ HB hb; clear hb hbox hg; have hnb25 := NB456_457.out; have hnc25 := NB457_456.out; have hnb26 := NB456_458.out; have hnc26 := NB458_456.out; obtain ⟨hcz27_0, hcz27_1, hcz27_2, hcz27_3, hfz27_0, hfz27_1, hfz27_2, hfz27_3⟩ := c4_ BK456) | ((with_reducible refine gate_callee (f := 89) rfl ?_); refine gl_ (some 12) Tryz.func89 #[.agg #[.bool a0_0, .int .u64 a0_1, .int .u64 a0_2, .int .i64 a0_3], .int .i64 a1] ?_; (with_reducible refine (carve_cuts.calls a0_0 a0_1 a0_2 a0_3 a1 true _ A4.out).mono ?_); rintro e w28 ⟨rfl, hb⟩; refine ⟨_, rfl, ?_⟩; replace BK456 := bb_ BK456 hb; replace BK457 := bb_ BK457 hb; replace BK458 := bb_ BK458 hb; replace HB := bs_ HB hb; (try clear hb); (try clear hb2); (try clear hk); (try clear hi)))
   replace BK456 := Aside0.mk (blk_drew BK456.out)
   replace BK457 := Aside0.mk (blk_drew BK457.out)
   replace BK458 := Aside0.mk (blk_drew BK458.out)
   replace HB := Aside0.mk (below_drew1 HB.out)
   refine start_ (n := 8) (S := fun w' => w'.cell? ⟨gb457, 0, none⟩ = some (.int .u64 a2_0) ∧ w'.cell? ⟨gb457, 1, none⟩ = some (.int .u64 a2_1) ∧ w'.cell? ⟨gb456, 0, none⟩ = some (.bool a0_0) ∧ w'.cell? ⟨gb456, 1, none⟩ = some (.int .u64 a0_1) ∧ w'.cell? ⟨gb456, 2, none⟩ = some (.int .u64 a0_2) ∧ w'.cell? ⟨gb456, 3, none⟩ = some (.int .i64 a0_3)) (ds := []) (bm_ 8 0) (by kernel_rfl) rfl rfl ⟨kc_ BK457 0, kc_ BK457 1, kc_ BK456 0, kc_ BK456 1, kc_ BK456 2, kc_ BK456 3⟩ (fun hHeld => ?_); refine with_tabW carve_Block.tab3 carve_Block.bits3 (fun HT_ HW_ => ?_)
   generalize w28.drew = w29 at BK456 BK457 BK458 HB hHeld ⊢
   refine pu_ 2 (some 18) (bm_ 8 4) rfl HT_ ⟨by rfl, by intro w'; go_simp; with_reducible rfl⟩ ?_
   refine pu_ 3 (some 19) (bm_ 8 12) rfl HT_ ⟨by rfl, by intro w'; go_simp; with_reducible rfl⟩ ?_
   refine ta_ 0 (some 16) (bm_ 8 13) rfl HT_ HW_ ⟨by rfl, by rintro w' ⟨s0, s1, s2, s3, s4, s5⟩; go_simp; with_reducible rfl⟩ hHeld ?_
   refine ta_ 4 (some 20) (bm_ 8 29) rfl HT_ HW_ ⟨by rfl, by rintro w' ⟨s0, s1, s2, s3, s4, s5⟩; go_simp; with_reducible rfl⟩ hHeld ?_
   refine pu_ 5 (some 21) (bm_ 8 61) rfl HT_ ⟨by rfl, by intro w'; go_simp; with_reducible rfl⟩ ?_
   refine one_ (i := 1) (N := some 17) (bm_ 8 63) rfl rfl (one_of HT_.out (by kernel_rfl)) (by decide) (fun K hK => ?_)
   refine gr_ Tryz.func70 #[.agg #[.int .u64 a2_0, .int .u64 a2_1]] ?_
   with_reducible refine (num_Len.calls a2_0 a2_1 t460 _ A6.out).mono ?_
   rintro e w30 ⟨rfl, hb⟩
   refine ⟨_, rfl, ?_⟩
   replace BK456 := bb_ BK456 hb
   replace BK457 := bb_ BK457 hb
   replace BK458 := bb_ BK458 hb
   replace HB := bs_ HB hb
   (try clear hb)
   (try clear hb2)
   (try clear hk)
   (try clear hi)
   refine hK.out _ _ ⟨kc_ BK457 0, kc_ BK457 1, kc_ BK456 0, kc_ BK456 1, kc_ BK456 2, kc_ BK456 3⟩ (fun hHeld => ?_)
   clear hK K
   refine norm_ (a' := ?_) ?_ ?_
   rotate_left
   ·
    show Act.put _ (some 17) _ = _
    simp only [Act.put, List.setIfInBounds_toArray, List.set_cons_zero, List.set_cons_succ, i64_w, i32_w]
    rfl
   refine pu_ 6 (some 22) (bm_ 8 127) rfl HT_ ⟨by rfl, by intro w'; go_simp; with_reducible rfl⟩ ?_
   refine pu_ 7 (some 15) (bm_ 8 255) rfl HT_ ⟨by rfl, by intro w'; go_simp; with_reducible rfl⟩ ?_
   refine done_ (done_of HT_.out (by kernel_rfl)) ?_
   obtain ⟨hcz31_0, hcz31_1, hcz31_2, hcz31_3, hfz31_0, hfz31_1, hfz31_2, hfz31_3⟩ := c4_ BK456
   try go_wp2_with (first | ((with_reducible refine gate_dst (N := 8) rfl ?_); refine bx_ 8 #[.bool false, .int .u64 0, .int .u64 0] 26 ?_; intro gb461 hg w32 hbox hb; have BK461 := Aside0.mk (hbox); have GW461 := gw_ HB hg; have GE461 := gw_ HB hg; have NB456_461 := nl_ BK456 hg; have NB461_456 := ng_ BK456 hg; have NB457_461 := nl_ BK457 hg; have NB461_457 := ng_ BK457 hg; have NB458_461 := nl_ BK458 hg; have NB461_458 := ng_ BK458 hg; replace BK456 := bb_ BK456 hb; replace BK457 := bb_ BK457 hb; replace BK458 := bb_ BK458 hb; replace HB := bs_ HB hb; clear hb hbox hg; have hnb33 := NB461_456.out; have hnc33 := NB456_461.out; have hnb34 := NB461_457.out; have hnc34 := NB457_461.out; have hnb35 := NB461_458.out; have hnc35 := NB458_461.out; obtain ⟨hcz36_0, hcz36_1, hcz36_2, hfz36_0, hfz36_1, hfz36_2⟩ := c3_ BK461))
   have n0_ : Aside0 ((((w32.setCell ⟨gb461, 0, none⟩ (.bool a0_0)).setCell ⟨gb461, 1, none⟩ (.int .u64 a0_1)).setCell ⟨gb461, 2, none⟩ (.int .u64 a0_2)).heap[gb456]? = some (.cells #[.bool a0_0, .int .u64 a0_1, .int .u64 a0_2, .int .i64 a0_3] 38 (0, 0))) := ⟨by refine pw_ ?_; refine blk_far ?_ NB456_461.out _; refine pw_ ?_; refine blk_far ?_ NB456_461.out _; refine pw_ ?_; refine blk_far ?_ NB456_461.out _; refine pw_ ?_; exact BK456.out⟩
   have n1_ : Aside0 ((((w32.setCell ⟨gb461, 0, none⟩ (.bool a0_0)).setCell ⟨gb461, 1, none⟩ (.int .u64 a0_1)).setCell ⟨gb461, 2, none⟩ (.int .u64 a0_2)).heap[gb457]? = some (.cells #[.int .u64 a2_0, .int .u64 a2_1] 24 (0, 0))) := ⟨by refine pw_ ?_; refine blk_far ?_ NB457_461.out _; refine pw_ ?_; refine blk_far ?_ NB457_461.out _; refine pw_ ?_; refine blk_far ?_ NB457_461.out _; refine pw_ ?_; exact BK457.out⟩
   have n2_ : Aside0 ((((w32.setCell ⟨gb461, 0, none⟩ (.bool a0_0)).setCell ⟨gb461, 1, none⟩ (.int .u64 a0_1)).setCell ⟨gb461, 2, none⟩ (.int .u64 a0_2)).heap[gb458]? = some (.cells #[.bool false, .int .u64 0, .int .u64 0, .int .i64 0] 38 (0, 0))) := ⟨by refine pw_ ?_; refine blk_far ?_ NB458_461.out _; refine pw_ ?_; refine blk_far ?_ NB458_461.out _; refine pw_ ?_; refine blk_far ?_ NB458_461.out _; refine pw_ ?_; exact BK458.out⟩
   have n3_ : Aside0 ((((w32.setCell ⟨gb461, 0, none⟩ (.bool a0_0)).setCell ⟨gb461, 1, none⟩ (.int .u64 a0_1)).setCell ⟨gb461, 2, none⟩ (.int .u64 a0_2)).heap[gb461]? = some (.cells #[.bool a0_0, .int .u64 a0_1, .int .u64 a0_2] 26 (0, 0))) := ⟨by refine pw_ ?_; refine blk_put (cs := #[.bool a0_0, .int .u64 a0_1, .int .u64 0]) ?_ 2 _ rfl; refine pw_ ?_; refine blk_put (cs := #[.bool a0_0, .int .u64 0, .int .u64 0]) ?_ 1 _ rfl; refine pw_ ?_; refine blk_put (cs := #[.bool false, .int .u64 0, .int .u64 0]) ?_ 0 _ rfl; refine pw_ ?_; exact BK461.out⟩
   have n4_ : Aside0 (Below w.heap.size w (((w32.setCell ⟨gb461, 0, none⟩ (.bool a0_0)).setCell ⟨gb461, 1, none⟩ (.int .u64 a0_1)).setCell ⟨gb461, 2, none⟩ (.int .u64 a0_2))) := ⟨pb_ HB⟩
   (try clear BK456)
   (try clear BK457)
   (try clear BK458)
   (try clear BK461)
   (try clear HB)
   generalize (((w32.setCell ⟨gb461, 0, none⟩ (.bool a0_0)).setCell ⟨gb461, 1, none⟩ (.int .u64 a0_1)).setCell ⟨gb461, 2, none⟩ (.int .u64 a0_2)) = w37 at n0_ n1_ n2_ n3_ n4_ ⊢
   have BK456 := n0_
   have BK457 := n1_
   have BK458 := n2_
   have BK461 := n3_
   have HB := n4_
   clear n0_ n1_ n2_ n3_ n4_
   replace BK456 := Aside0.mk (blk_drew BK456.out)
   replace BK457 := Aside0.mk (blk_drew BK457.out)
   replace BK458 := Aside0.mk (blk_drew BK458.out)
   replace BK461 := Aside0.mk (blk_drew BK461.out)
   replace HB := Aside0.mk (below_drew1 HB.out)
   refine start_ (n := 11) (S := fun w' => w'.cell? ⟨gb461, 0, none⟩ = some (.bool a0_0) ∧ w'.cell? ⟨gb461, 1, none⟩ = some (.int .u64 a0_1) ∧ w'.cell? ⟨gb461, 2, none⟩ = some (.int .u64 a0_2) ∧ w'.cell? ⟨gb457, 0, none⟩ = some (.int .u64 a2_0) ∧ w'.cell? ⟨gb457, 1, none⟩ = some (.int .u64 a2_1)) (ds := [10]) (bm_ 11 0) (by kernel_rfl) rfl rfl ⟨kc_ BK461 0, kc_ BK461 1, kc_ BK461 2, kc_ BK457 0, kc_ BK457 1⟩ (fun hHeld => ?_); refine with_tabW carve_Block.tab6 carve_Block.bits6 (fun HT_ HW_ => ?_)
   generalize w37.drew = w38 at BK456 BK457 BK458 BK461 HB hHeld ⊢
   refine pu_ 0 (some 26) (bm_ 11 1) rfl HT_ ⟨by rfl, by intro w'; go_simp; with_reducible rfl⟩ ?_
   refine pu_ 5 (some 31) (bm_ 11 33) rfl HT_ ⟨by rfl, by intro w'; go_simp; with_reducible rfl⟩ ?_
   refine ta_ 1 (some 27) (bm_ 11 35) rfl HT_ HW_ ⟨by rfl, by rintro w' ⟨s0, s1, s2, s3, s4⟩; go_simp; with_reducible rfl⟩ hHeld ?_
   refine ta_ 2 (some 28) (bm_ 11 39) rfl HT_ HW_ ⟨by rfl, by rintro w' ⟨s0, s1, s2, s3, s4⟩; go_simp; with_reducible rfl⟩ hHeld ?_
   refine ta_ 3 (some 29) (bm_ 11 47) rfl HT_ HW_ ⟨by rfl, by rintro w' ⟨s0, s1, s2, s3, s4⟩; go_simp; with_reducible rfl⟩ hHeld ?_
   refine one_ (i := 4) (N := some 30) (bm_ 11 63) rfl rfl (one_of HT_.out (by kernel_rfl)) (by decide) (fun K hK => ?_)
   refine gr_ Tryz.func22 #[.agg #[.bool a0_0, .int .u64 a0_1, .int .u64 a0_2]] ?_
   with_reducible refine (addr_Width.calls a0_0 a0_1 a0_2 t462 _ A19.out).mono ?_
   rintro e w39 ⟨rfl, hb⟩
   refine ⟨_, rfl, ?_⟩
   replace BK456 := bb_ BK456 hb
   replace BK457 := bb_ BK457 hb
   replace BK458 := bb_ BK458 hb
   replace BK461 := bb_ BK461 hb
   replace HB := bs_ HB hb
   (try clear hb)
   (try clear hb2)
   (try clear hk)
   (try clear hi)
   refine hK.out _ _ ⟨kc_ BK461 0, kc_ BK461 1, kc_ BK461 2, kc_ BK457 0, kc_ BK457 1⟩ (fun hHeld => ?_)
   clear hK K
   refine norm_ (a' := ?_) ?_ ?_
   rotate_left
   ·
    show Act.put _ (some 30) _ = _
    simp only [Act.put, List.setIfInBounds_toArray, List.set_cons_zero, List.set_cons_succ, i64_w, i32_w]
    rfl
   refine pu_ 6 (some 32) (bm_ 11 127) rfl HT_ ⟨by rfl, by intro w'; go_simp; with_reducible rfl⟩ ?_
   refine one_ (i := 7) (N := some 33) (bm_ 11 255) rfl rfl (one_of HT_.out (by kernel_rfl)) (by decide) (fun K hK => ?_)
   refine gr_ Tryz.func84 #[.agg #[.int .u64 a2_0, .int .u64 a2_1], .int .i64 (wrap64 (t462 - a1))] ?_
   with_reducible refine (num_Shl.calls a2_0 a2_1 (wrap64 (t462 - a1)) t463 t464 _ A20.out).mono ?_
   rintro e w40 ⟨rfl, hb⟩
   refine ⟨_, rfl, ?_⟩
   replace BK456 := bb_ BK456 hb
   replace BK457 := bb_ BK457 hb
   replace BK458 := bb_ BK458 hb
   replace BK461 := bb_ BK461 hb
   replace HB := bs_ HB hb
   (try clear hb)
   (try clear hb2)
   (try clear hk)
   (try clear hi)
   refine hK.out _ _ ⟨kc_ BK461 0, kc_ BK461 1, kc_ BK461 2, kc_ BK457 0, kc_ BK457 1⟩ (fun hHeld => ?_)
   clear hK K
   refine norm_ (a' := ?_) ?_ ?_
   rotate_left
   ·
    show Act.put _ (some 33) _ = _
    simp only [Act.put, List.setIfInBounds_toArray, List.set_cons_zero, List.set_cons_succ, i64_w, i32_w]
    rfl
   refine one_ (i := 8) (N := some 34) (bm_ 11 511) rfl rfl (one_of HT_.out (by kernel_rfl)) (by decide) (fun K hK => ?_)
   refine gr_ Tryz.func80 #[.agg #[.int .u64 a0_1, .int .u64 a0_2], .agg #[.int .u64 t463, .int .u64 t464]] ?_
   with_reducible refine (num_Or.calls a0_1 a0_2 t463 t464 t465 t466 _ A21.out).mono ?_
   rintro e w41 ⟨rfl, hb⟩
   refine ⟨_, rfl, ?_⟩
   replace BK456 := bb_ BK456 hb
   replace BK457 := bb_ BK457 hb
   replace BK458 := bb_ BK458 hb
   replace BK461 := bb_ BK461 hb
   replace HB := bs_ HB hb
   (try clear hb)
   (try clear hb2)
   (try clear hk)
   (try clear hi)
   refine hK.out _ _ ⟨kc_ BK461 0, kc_ BK461 1, kc_ BK461 2, kc_ BK457 0, kc_ BK457 1⟩ (fun hHeld => ?_)
   clear hK K
   refine norm_ (a' := ?_) ?_ ?_
   rotate_left
   ·
    show Act.put _ (some 34) _ = _
    simp only [Act.put, List.setIfInBounds_toArray, List.set_cons_zero, List.set_cons_succ, i64_w, i32_w]
    rfl
   refine pu_ 9 (some 35) (bm_ 11 1023) rfl HT_ ⟨by rfl, by intro w'; go_simp; with_reducible rfl⟩ ?_
   refine last_ (i := 10) (N := none) (bm_ 11 2047) rfl rfl (one_of HT_.out (by kernel_rfl)) (by decide) (fun K hK => ?_)
   have hs42 : w41.cell? ⟨gb461, 1, none⟩ = some (.int .u64 a0_1) := kc_ BK461 1
   have hfs42 := blk_frozen BK461.out 1
   have hns42_0 := NB456_461.out
   have hns42_1 := NB457_461.out
   have hns42_2 := NB458_461.out
   have hms42_0 := NB461_456.out
   have hms42_1 := NB461_457.out
   have hms42_2 := NB461_458.out
   have hs43 : w41.cell? ⟨gb461, 2, none⟩ = some (.int .u64 a0_2) := kc_ BK461 2
   have hfs43 := blk_frozen BK461.out 2
   have hns43_0 := NB456_461.out
   have hns43_1 := NB457_461.out
   have hns43_2 := NB458_461.out
   have hms43_0 := NB461_456.out
   have hms43_1 := NB461_457.out
   have hms43_2 := NB461_458.out
   refine skip_ (w1 := ?_) (by rfl) rfl ?_ ?_
   rotate_left
   ·
    go_simp
    rfl
   refine hK.out _ _ ?_
   clear hK K
   refine done_ (done_of HT_.out (by kernel_rfl)) ?_
   obtain ⟨hcz44_0, hcz44_1, hcz44_2, hfz44_0, hfz44_1, hfz44_2⟩ := c3_ BK461
   have hnb45 := NB458_457.out
   have hnc45 := NB457_458.out
   obtain ⟨hcz46_0, hcz46_1, hcz46_2, hcz46_3, hfz46_0, hfz46_1, hfz46_2, hfz46_3⟩ := c4_ BK458
   try go_wp2
   refine bodyPost_ret (results_ct rfl _ _ gb458 38 #[.bool a0_0, .int .u64 t465, .int .u64 t466, .int .i64 a1] (0, 0) _ rfl (by refine pw_ ?_; refine blk_put (cs := #[.bool a0_0, .int .u64 t465, .int .u64 t466, .int .i64 0]) ?_ 3 _ rfl; refine pw_ ?_; refine blk_put (cs := #[.bool a0_0, .int .u64 t465, .int .u64 0, .int .i64 0]) ?_ 2 _ rfl; refine pw_ ?_; refine blk_put (cs := #[.bool a0_0, .int .u64 0, .int .u64 0, .int .i64 0]) ?_ 1 _ rfl; refine pw_ ?_; refine blk_put (cs := #[.bool false, .int .u64 0, .int .u64 0, .int .i64 0]) ?_ 0 _ rfl; refine pw_ ?_; refine blk_far ?_ NB458_461.out _; refine pw_ ?_; refine blk_far ?_ NB458_461.out _; refine pw_ ?_; exact BK458.out) Tryz.underlying38 rfl (by kernel_rfl)) rfl ?_
   exact ⟨by first | rfl | (simp [errW_none, errW_some] <;> rfl) | (simp [*, errW_none, errW_some] <;> rfl), pb_ HB⟩
 ·
  replace c5 := Bool.eq_false_iff.mpr c5
  subst c5
  have H1 : (some (false, 0, 0, 0, 1)) = some (r1, r2, r3, r4, r5) := by rw [if_neg (show ¬ (false = true) by decide)] at H; exact H
  clear H
  have H := H1
  clear H1
  simp only [Option.some.injEq, Prod.mk.injEq] at H
  obtain ⟨rfl, rfl, rfl, rfl, rfl⟩ := H
  go_enter Tryz.func49, Tryz.ntmps49
  go_wp2_with (first | ((with_reducible refine gate_dst (N := 3) rfl ?_); refine bx_ 3 #[.bool a0_0, .int .u64 a0_1, .int .u64 a0_2, .int .i64 a0_3] 38 ?_; intro gb456 hg w47 hbox hb; have BK456 := Aside0.mk (hbox); have GW456 := gw_ HB hg; have GE456 := gw_ HB hg; replace HB := bs_ HB hb; clear hb hbox hg) | ((with_reducible refine gate_dst (N := 5) rfl ?_); refine bx_ 5 #[.int .u64 a2_0, .int .u64 a2_1] 24 ?_; intro gb457 hg w48 hbox hb; have BK457 := Aside0.mk (hbox); have GW457 := gw_ HB hg; have GE457 := gw_ HB hg; have NB456_457 := nl_ BK456 hg; have NB457_456 := ng_ BK456 hg; replace BK456 := bb_ BK456 hb; replace HB := bs_ HB hb; clear hb hbox hg) | ((with_reducible refine gate_dst (N := 6) rfl ?_); refine bx_ 6 #[.bool false, .int .u64 0, .int .u64 0, .int .i64 0] 38 ?_; intro gb458 hg w49 hbox hb; have BK458 := Aside0.mk (hbox); have GW458 := gw_ HB hg; have GE458 := gw_ HB hg; have NB456_458 := nl_ BK456 hg; have NB458_456 := ng_ BK456 hg; have NB457_458 := nl_ BK457 hg; have NB458_457 := ng_ BK457 hg; replace BK456 := bb_ BK456 hb; replace BK457 := bb_ BK457 hb; replace HB := bs_ HB hb; clear hb hbox hg; have hnb50 := NB456_457.out; have hnc50 := NB457_456.out; have hnb51 := NB456_458.out; have hnc51 := NB458_456.out; obtain ⟨hcz52_0, hcz52_1, hcz52_2, hcz52_3, hfz52_0, hfz52_1, hfz52_2, hfz52_3⟩ := c4_ BK456) | ((with_reducible refine gate_callee (f := 89) rfl ?_); refine gl_ (some 12) Tryz.func89 #[.agg #[.bool a0_0, .int .u64 a0_1, .int .u64 a0_2, .int .i64 a0_3], .int .i64 a1] ?_; (with_reducible refine (carve_cuts.calls a0_0 a0_1 a0_2 a0_3 a1 false _ A4.out).mono ?_); rintro e w53 ⟨rfl, hb⟩; refine ⟨_, rfl, ?_⟩; replace BK456 := bb_ BK456 hb; replace BK457 := bb_ BK457 hb; replace BK458 := bb_ BK458 hb; replace HB := bs_ HB hb; (try clear hb); (try clear hb2); (try clear hk); (try clear hi); have hnb54 := NB458_457.out; have hnc54 := NB457_458.out; obtain ⟨hcz55_0, hcz55_1, hcz55_2, hcz55_3, hfz55_0, hfz55_1, hfz55_2, hfz55_3⟩ := c4_ BK458))
  refine bodyPost_ret (results_ct rfl _ _ gb458 38 #[.bool false, .int .u64 0, .int .u64 0, .int .i64 0] (0, 0) _ rfl (by refine pw_ ?_; refine blk_put (cs := #[.bool false, .int .u64 0, .int .u64 0, .int .i64 0]) ?_ 3 _ rfl; refine pw_ ?_; refine blk_put (cs := #[.bool false, .int .u64 0, .int .u64 0, .int .i64 0]) ?_ 2 _ rfl; refine pw_ ?_; refine blk_put (cs := #[.bool false, .int .u64 0, .int .u64 0, .int .i64 0]) ?_ 1 _ rfl; refine pw_ ?_; refine blk_put (cs := #[.bool false, .int .u64 0, .int .u64 0, .int .i64 0]) ?_ 0 _ rfl; refine pw_ ?_; exact BK458.out) Tryz.underlying38 rfl (by kernel_rfl)) rfl ?_
  exact ⟨by first | rfl | (simp [errW_none, errW_some] <;> rfl) | (simp [*, errW_none, errW_some] <;> rfl), pb_ HB⟩

end Go.Proofs.YtgdgklibilddgaaGreatDoor.PPr

namespace Go.Proofs.YtgdgklibilddgaaGreatDoor.PPr
open Go.RowKit Go.Proofs.YtgdgklibilddgaaGreatDoorW.PrintWords Go.Proofs.YtgdgklibilddgaaGreatDoorW.PrintLast Go.Proofs.YtgdgklibilddgaaGreatDoorW.PrintMore
attribute [local go_sem] max2_int min2_int max_two min_two max_three min_three max_four min_four   -- for this text's walks alone

attribute [local go_sem high] eqA26
def carve_widest.l0 : Nat → Bool → Int → Int → Bool → Int → Int → Bool → Int → Int → Int → Option (Bool × Int × Int × Int)
 | 0, _, _, _, _, _, _, _, _, _, _ => none
 | k + 1, x468000, x468001, x468002, x469000, x469001, x469002, x477000, x477001, x477002, x477003 => if x477003 > 0 then ((prefix_Of.f k x468000 x468001 x468002 (wrap64 (x477003 - 1))).bind fun bt477 => (if (!(bt477.1 == x468000) || ((!(bt477.2.1 == x468001) || (!(bt477.2.2.1 == x468002))))) = true then (some (x477000, x477001, x477002, x477003)) else ((prefix_Last.f bt477.1 bt477.2.1 bt477.2.2.1 bt477.2.2.2.1).bind fun bt483 => ((addr_Cmp.f bt483.1 bt483.2.1 bt483.2.2 x469000 x469001 x469002).bind fun t486 => (if t486 > 0 then (some (x477000, x477001, x477002, x477003)) else (carve_widest.l0 k x468000 x468001 x468002 x469000 x469001 x469002 bt477.1 bt477.2.1 bt477.2.2.1 bt477.2.2.2.1)))))) else (some (x477000, x477001, x477002, x477003))
def carve_widest.f (k : Nat) (a0_0 : Bool) (a0_1 : Int) (a0_2 : Int) (a1_0 : Bool) (a1_1 : Int) (a1_2 : Int) : Option (Bool × Int × Int × Int) := (addr_Width.f a0_0 a0_1 a0_2).bind fun t470 => ((prefix_Of.f k a0_0 a0_1 a0_2 t470).bind fun bt471 => (carve_widest.l0 k a0_0 a0_1 a0_2 a1_0 a1_1 a1_2 bt471.1 bt471.2.1 bt471.2.2.1 bt471.2.2.2.1))
def carve_widest.T1 : Bool × List (List Nat × List Nat) := (true, [([], []), ([], []), ([1], [1]), ([0, 2, 2], [0, 2]), ([3], [3]), ([4], [4]), ([4], [4]), ([], []), ([7, 5, 3, 0, 1, 2, 3, 4, 5, 7], [5, 7]), ([6, 8, 0, 1, 2, 3, 4, 5, 6, 7, 8], [6])])
def carve_widest.B1 : List Nat := [0, 0, 2, 7, 15, 31, 31, 0, 191, 511]
theorem carve_widest.tab1 : rtab .any (opsOf Tryz.f96 1) = carve_widest.T1 := by kernel_rfl
theorem carve_widest.bits1 : waitsOk carve_widest.T1.2 carve_widest.B1 = true := by kernel_rfl
def carve_widest.T4 : Bool × List (List Nat × List Nat) := (true, [([], []), ([0], [0]), ([], []), ([1, 2], [1, 2]), ([3], [3]), ([4], [4]), ([5, 4, 4], [4, 5]), ([4], [4]), ([6, 7, 6, 4], [4, 6, 7]), ([8, 4], [4, 8]), ([4, 9], [4, 9])])
def carve_widest.B4 : List Nat := [0, 1, 0, 7, 15, 31, 63, 31, 255, 511, 1023]
theorem carve_widest.tab4 : rtab .any (opsOf Tryz.f96 4) = carve_widest.T4 := by kernel_rfl
theorem carve_widest.bits4 : waitsOk carve_widest.T4.2 carve_widest.B4 = true := by kernel_rfl
set_option maxHeartbeats 8000000 in
set_option maxRecDepth 100000 in
theorem carve_widest.calls (k : Nat) (a0_0 : Bool) (a0_1 : Int) (a0_2 : Int) (a1_0 : Bool) (a1_1 : Int) (a1_2 : Int) (r1 : Bool) (r2 : Int) (r3 : Int) (r4 : Int) (w : World) (h : carve_widest.f k a0_0 a0_1 a0_2 a1_0 a1_1 a1_2 = some (r1, r2, r3, r4)) :
  Calls Tryz.prog 96 #[.agg #[.bool a0_0, .int .u64 a0_1, .int .u64 a0_2], .agg #[.bool a1_0, .int .u64 a1_1, .int .u64 a1_2]] w fun e w' => e = .returned (.agg #[.bool r1, .int .u64 r2, .int .u64 r3, .int .i64 r4]) ∧ Below w.heap.size w w' := by
 have hu26 := Tryz.underlying26
 have hu38 := Tryz.underlying38
 have HB := Aside0.mk (Below.refl w.heap.size w)
 have H : ((addr_Width.f a0_0 a0_1 a0_2).bind fun t470 => ((prefix_Of.f k a0_0 a0_1 a0_2 t470).bind fun bt471 => (carve_widest.l0 k a0_0 a0_1 a0_2 a1_0 a1_1 a1_2 bt471.1 bt471.2.1 bt471.2.2.1 bt471.2.2.2.1))) = some (r1, r2, r3, r4) := h
 clear h
 replace H := Option.bind_eq_some_iff.mp H
 obtain ⟨t470, A30, H⟩ := H
 replace H : ((prefix_Of.f k a0_0 a0_1 a0_2 t470).bind fun bt471 => (carve_widest.l0 k a0_0 a0_1 a0_2 a1_0 a1_1 a1_2 bt471.1 bt471.2.1 bt471.2.2.1 bt471.2.2.2.1)) = some (r1, r2, r3, r4) := H
 have A3 := Aside0.mk A30
 clear A30
 replace H := Option.bind_eq_some_iff.mp H
 obtain ⟨⟨t471, t472, t473, t474, t475⟩, A40, H⟩ := H
 replace H : (carve_widest.l0 k a0_0 a0_1 a0_2 a1_0 a1_1 a1_2 t471 t472 t473 t474) = some (r1, r2, r3, r4) := H
 have A4 := Aside0.mk A40
 clear A40
 have H' := Aside0.mk H
 clear H
 go_enter Tryz.func96, Tryz.ntmps96
 try go_wp2_with (first | ((with_reducible refine gate_dst (N := 2) rfl ?_); refine bx_ 2 #[.bool a0_0, .int .u64 a0_1, .int .u64 a0_2] 26 ?_; intro gb467 hg w5 hbox hb; have BK467 := Aside0.mk (hbox); have GW467 := gw_ HB hg; have GE467 := gw_ HB hg; replace HB := bs_ HB hb; clear hb hbox hg) | ((with_reducible refine gate_dst (N := 3) rfl ?_); refine bx_ 3 #[.bool a1_0, .int .u64 a1_1, .int .u64 a1_2] 26 ?_; intro gb468 hg w6 hbox hb; have BK468 := Aside0.mk (hbox); have GW468 := gw_ HB hg; have GE468 := gw_ HB hg; have NB467_468 := nl_ BK467 hg; have NB468_467 := ng_ BK467 hg; replace BK467 := bb_ BK467 hb; replace HB := bs_ HB hb; clear hb hbox hg) | ((with_reducible refine gate_dst (N := 4) rfl ?_); refine bx_ 4 #[.bool false, .int .u64 0, .int .u64 0, .int .i64 0] 38 ?_; intro gb469 hg w7 hbox hb; have BK469 := Aside0.mk (hbox); have GW469 := gw_ HB hg; have GE469 := gw_ HB hg; have NB467_469 := nl_ BK467 hg; have NB469_467 := ng_ BK467 hg; have NB468_469 := nl_ BK468 hg; have NB469_468 := ng_ BK468 hg; replace BK467 := bb_ BK467 hb; replace BK468 := bb_ BK468 hb; replace HB := bs_ HB hb; clear hb hbox hg))
 replace BK467 := Aside0.mk (blk_drew BK467.out)
 replace BK468 := Aside0.mk (blk_drew BK468.out)
 replace BK469 := Aside0.mk (blk_drew BK469.out)
 replace HB := Aside0.mk (below_drew1 HB.out)
 refine start_ (n := 10) (S := fun w' => w'.cell? ⟨gb467, 0, none⟩ = some (.bool a0_0) ∧ w'.cell? ⟨gb467, 1, none⟩ = some (.int .u64 a0_1) ∧ w'.cell? ⟨gb467, 2, none⟩ = some (.int .u64 a0_2)) (ds := []) (bm_ 10 0) (by kernel_rfl) rfl rfl ⟨kc_ BK467 0, kc_ BK467 1, kc_ BK467 2⟩ (fun hHeld => ?_); refine with_tabW carve_widest.tab1 carve_widest.bits1 (fun HT_ HW_ => ?_)
 generalize w7.drew = w8 at BK467 BK468 BK469 HB hHeld ⊢
 refine ta_ 0 (some 10) (bm_ 10 1) rfl HT_ HW_ ⟨by rfl, by rintro w' ⟨s0, s1, s2⟩; go_simp; with_reducible rfl⟩ hHeld ?_
 refine ta_ 1 (some 11) (bm_ 10 3) rfl HT_ HW_ ⟨by rfl, by rintro w' ⟨s0, s1, s2⟩; go_simp; with_reducible rfl⟩ hHeld ?_
 refine join_ (σ := Nat) 2 (bm_ 10 255) (fun s_ => [(12, .int .i64 t470), (13, .tuple #[.agg #[.bool t471, .int .u64 t472, .int .u64 t473, .int .i64 t474], .int .i64 t475]), (5, .pointer (some ⟨s_, 0, none⟩)), (9, .tuple #[.agg #[.bool t471, .int .u64 t472, .int .u64 t473, .int .i64 t474], .int .i64 t475]), (14, .agg #[.bool t471, .int .u64 t472, .int .u64 t473, .int .i64 t474]), (15, .int .i64 t475)]) (fun s_ w' => (w'.cell? ⟨gb467, 0, none⟩ = some (.bool a0_0) ∧ w'.cell? ⟨gb467, 1, none⟩ = some (.int .u64 a0_1) ∧ w'.cell? ⟨gb467, 2, none⟩ = some (.int .u64 a0_2)) ∧ (w'.heap[gb467]? = some (.cells #[.bool a0_0, .int .u64 a0_1, .int .u64 a0_2] 26 (0, 0))) ∧ (w'.heap[gb468]? = some (.cells #[.bool a1_0, .int .u64 a1_1, .int .u64 a1_2] 26 (0, 0))) ∧ (w'.heap[gb469]? = some (.cells #[.bool false, .int .u64 0, .int .u64 0, .int .i64 0] 38 (0, 0))) ∧ (w'.heap[s_]? = some (.cells #[.bool false, .int .u64 0, .int .u64 0, .int .i64 0] 38 (0, 0))) ∧ (w.heap.size ≤ s_) ∧ (w.heap.size ≤ s_) ∧ (gb467 ≠ s_) ∧ (s_ ≠ gb467) ∧ (gb468 ≠ s_) ∧ (s_ ≠ gb468) ∧ (gb469 ≠ s_) ∧ (s_ ≠ gb469) ∧ (Below w.heap.size w w')) ?_ ?_
 rotate_left
 ·
  intro hCont
  refine two_ (i := 2) (j := 7) (Ni := some 12) (Nj := some 5) (bm_ 10 7) (bm_ 10 131) rfl rfl rfl rfl (two_of HT_.out (by kernel_rfl)) (by decide) (by decide) (fun K hK => ?_) (fun K hK => ?_)
  ·
   skip
   refine gr_ Tryz.func22 #[.agg #[.bool a0_0, .int .u64 a0_1, .int .u64 a0_2]] ?_
   with_reducible refine (addr_Width.calls a0_0 a0_1 a0_2 t470 _ A3.out).mono ?_
   rintro e w9 ⟨rfl, hb⟩
   refine ⟨_, rfl, ?_⟩
   replace BK467 := bb_ BK467 hb
   replace BK468 := bb_ BK468 hb
   replace BK469 := bb_ BK469 hb
   replace HB := bs_ HB hb
   (try clear hb)
   (try clear hb2)
   (try clear hk)
   (try clear hi)
   refine hK.out _ _ ⟨kc_ BK467 0, kc_ BK467 1, kc_ BK467 2⟩ (fun hHeld => ?_)
   clear hK K
   refine norm_ (a' := ?_) ?_ ?_
   rotate_left
   ·
    show Act.put _ (some 12) _ = _
    simp only [Act.put, List.setIfInBounds_toArray, List.set_cons_zero, List.set_cons_succ, i64_w, i32_w]
    rfl
   refine two_ (i := 3) (j := 7) (Ni := some 13) (Nj := some 5) (bm_ 10 15) (bm_ 10 135) rfl rfl rfl rfl (two_of HT_.out (by kernel_rfl)) (by decide) (by decide) (fun K hK => ?_) (fun K hK => ?_)
   ·
    skip
    refine gr_ Tryz.func34 #[.agg #[.bool a0_0, .int .u64 a0_1, .int .u64 a0_2], .int .i64 t470] ?_
    with_reducible refine (prefix_Of.calls k a0_0 a0_1 a0_2 t470 t471 t472 t473 t474 t475 _ A4.out).mono ?_
    rintro e w10 ⟨rfl, hb⟩
    refine ⟨_, rfl, ?_⟩
    replace BK467 := bb_ BK467 hb
    replace BK468 := bb_ BK468 hb
    replace BK469 := bb_ BK469 hb
    replace HB := bs_ HB hb
    (try clear hb)
    (try clear hb2)
    (try clear hk)
    (try clear hi)
    refine hK.out _ _ ⟨kc_ BK467 0, kc_ BK467 1, kc_ BK467 2⟩ (fun hHeld => ?_)
    clear hK K
    refine norm_ (a' := ?_) ?_ ?_
    rotate_left
    ·
     show Act.put _ (some 13) _ = _
     simp only [Act.put, List.setIfInBounds_toArray, List.set_cons_zero, List.set_cons_succ, i64_w, i32_w]
     rfl
    refine pu_ 4 (some 9) (bm_ 10 31) rfl HT_ ⟨by rfl, by intro w'; go_simp; with_reducible rfl⟩ ?_
    refine pu_ 5 (some 14) (bm_ 10 63) rfl HT_ ⟨by rfl, by intro w'; go_simp; with_reducible rfl⟩ ?_
    refine pu_ 6 (some 15) (bm_ 10 127) rfl HT_ ⟨by rfl, by intro w'; go_simp; with_reducible rfl⟩ ?_
    refine one_ (i := 7) (N := some 5) (bm_ 10 255) rfl rfl (one_of HT_.out (by kernel_rfl)) (by decide) (fun K hK => ?_)
    refine box_step ?hg (N := 5) ?hd (cs := #[.bool false, .int .u64 0, .int .u64 0, .int .i64 0]) (t := 38) ?hr ?_; (case hd => rfl); (case hg => rfl); (case hr => first | (go_simp; done) | (go_simp; rfl))
    intro gb476 hg w11 hbox hb
    have BK476 := Aside0.mk (hbox)
    have GW476 := gw_ HB hg
    have GE476 := gw_ HB hg
    have NB467_476 := nl_ BK467 hg
    have NB476_467 := ng_ BK467 hg
    have NB468_476 := nl_ BK468 hg
    have NB476_468 := ng_ BK468 hg
    have NB469_476 := nl_ BK469 hg
    have NB476_469 := ng_ BK469 hg
    replace BK467 := bb_ BK467 hb
    replace BK468 := bb_ BK468 hb
    replace BK469 := bb_ BK469 hb
    replace HB := bs_ HB hb
    clear hb hbox hg
    refine hK.out _ _ ⟨kc_ BK467 0, kc_ BK467 1, kc_ BK467 2⟩ (fun hHeld => ?_)
    clear hK K
    refine norm_ (a' := ?_) ?_ ?_
    rotate_left
    ·
     show Act.put _ (some 5) _ = _
     simp only [Act.put, List.setIfInBounds_toArray, List.set_cons_zero, List.set_cons_succ, i64_w, i32_w]
     rfl
    exact norm_ (by simp only [putAll, Act.put, List.setIfInBounds_toArray, List.set_cons_zero, List.set_cons_succ]) (hCont (gb476) _ ⟨hHeld, (pk_ BK467), (pk_ BK468), (pk_ BK469), (pk_ BK476), GW476.out, GE476.out, NB467_476.out, NB476_467.out, NB468_476.out, NB476_468.out, NB469_476.out, NB476_469.out, (pb_ HB)⟩)
   ·
    skip
    refine box_step ?hg (N := 5) ?hd (cs := #[.bool false, .int .u64 0, .int .u64 0, .int .i64 0]) (t := 38) ?hr ?_; (case hd => rfl); (case hg => rfl); (case hr => first | (go_simp; done) | (go_simp; rfl))
    intro gb476 hg w10 hbox hb
    have BK476 := Aside0.mk (hbox)
    have GW476 := gw_ HB hg
    have GE476 := gw_ HB hg
    have NB467_476 := nl_ BK467 hg
    have NB476_467 := ng_ BK467 hg
    have NB468_476 := nl_ BK468 hg
    have NB476_468 := ng_ BK468 hg
    have NB469_476 := nl_ BK469 hg
    have NB476_469 := ng_ BK469 hg
    replace BK467 := bb_ BK467 hb
    replace BK468 := bb_ BK468 hb
    replace BK469 := bb_ BK469 hb
    replace HB := bs_ HB hb
    clear hb hbox hg
    refine hK.out _ _ ⟨kc_ BK467 0, kc_ BK467 1, kc_ BK467 2⟩ (fun hHeld => ?_)
    clear hK K
    refine norm_ (a' := ?_) ?_ ?_
    rotate_left
    ·
     show Act.put _ (some 5) _ = _
     simp only [Act.put, List.setIfInBounds_toArray, List.set_cons_zero, List.set_cons_succ, i64_w, i32_w]
     rfl
    refine one_ (i := 3) (N := some 13) (bm_ 10 143) rfl rfl (one_of HT_.out (by kernel_rfl)) (by decide) (fun K hK => ?_)
    refine gr_ Tryz.func34 #[.agg #[.bool a0_0, .int .u64 a0_1, .int .u64 a0_2], .int .i64 t470] ?_
    with_reducible refine (prefix_Of.calls k a0_0 a0_1 a0_2 t470 t471 t472 t473 t474 t475 _ A4.out).mono ?_
    rintro e w11 ⟨rfl, hb⟩
    refine ⟨_, rfl, ?_⟩
    replace BK467 := bb_ BK467 hb
    replace BK468 := bb_ BK468 hb
    replace BK469 := bb_ BK469 hb
    replace BK476 := bb_ BK476 hb
    replace HB := bs_ HB hb
    (try clear hb)
    (try clear hb2)
    (try clear hk)
    (try clear hi)
    refine hK.out _ _ ⟨kc_ BK467 0, kc_ BK467 1, kc_ BK467 2⟩ (fun hHeld => ?_)
    clear hK K
    refine norm_ (a' := ?_) ?_ ?_
    rotate_left
    ·
     show Act.put _ (some 13) _ = _
     simp only [Act.put, List.setIfInBounds_toArray, List.set_cons_zero, List.set_cons_succ, i64_w, i32_w]
     rfl
    refine pu_ 4 (some 9) (bm_ 10 159) rfl HT_ ⟨by rfl, by intro w'; go_simp; with_reducible rfl⟩ ?_
    refine pu_ 5 (some 14) (bm_ 10 191) rfl HT_ ⟨by rfl, by intro w'; go_simp; with_reducible rfl⟩ ?_
    refine pu_ 6 (some 15) (bm_ 10 255) rfl HT_ ⟨by rfl, by intro w'; go_simp; with_reducible rfl⟩ ?_
    exact norm_ (by simp only [putAll, Act.put, List.setIfInBounds_toArray, List.set_cons_zero, List.set_cons_succ]) (hCont (gb476) _ ⟨hHeld, (pk_ BK467), (pk_ BK468), (pk_ BK469), (pk_ BK476), GW476.out, GE476.out, NB467_476.out, NB476_467.out, NB468_476.out, NB476_468.out, NB469_476.out, NB476_469.out, (pb_ HB)⟩)
  ·
   skip
   refine box_step ?hg (N := 5) ?hd (cs := #[.bool false, .int .u64 0, .int .u64 0, .int .i64 0]) (t := 38) ?hr ?_; (case hd => rfl); (case hg => rfl); (case hr => first | (go_simp; done) | (go_simp; rfl))
   intro gb476 hg w9 hbox hb
   have BK476 := Aside0.mk (hbox)
   have GW476 := gw_ HB hg
   have GE476 := gw_ HB hg
   have NB467_476 := nl_ BK467 hg
   have NB476_467 := ng_ BK467 hg
   have NB468_476 := nl_ BK468 hg
   have NB476_468 := ng_ BK468 hg
   have NB469_476 := nl_ BK469 hg
   have NB476_469 := ng_ BK469 hg
   replace BK467 := bb_ BK467 hb
   replace BK468 := bb_ BK468 hb
   replace BK469 := bb_ BK469 hb
   replace HB := bs_ HB hb
   clear hb hbox hg
   refine hK.out _ _ ⟨kc_ BK467 0, kc_ BK467 1, kc_ BK467 2⟩ (fun hHeld => ?_)
   clear hK K
   refine norm_ (a' := ?_) ?_ ?_
   rotate_left
   ·
    show Act.put _ (some 5) _ = _
    simp only [Act.put, List.setIfInBounds_toArray, List.set_cons_zero, List.set_cons_succ, i64_w, i32_w]
    rfl
   refine one_ (i := 2) (N := some 12) (bm_ 10 135) rfl rfl (one_of HT_.out (by kernel_rfl)) (by decide) (fun K hK => ?_)
   refine gr_ Tryz.func22 #[.agg #[.bool a0_0, .int .u64 a0_1, .int .u64 a0_2]] ?_
   with_reducible refine (addr_Width.calls a0_0 a0_1 a0_2 t470 _ A3.out).mono ?_
   rintro e w10 ⟨rfl, hb⟩
   refine ⟨_, rfl, ?_⟩
   replace BK467 := bb_ BK467 hb
   replace BK468 := bb_ BK468 hb
   replace BK469 := bb_ BK469 hb
   replace BK476 := bb_ BK476 hb
   replace HB := bs_ HB hb
   (try clear hb)
   (try clear hb2)
   (try clear hk)
   (try clear hi)
   refine hK.out _ _ ⟨kc_ BK467 0, kc_ BK467 1, kc_ BK467 2⟩ (fun hHeld => ?_)
   clear hK K
   refine norm_ (a' := ?_) ?_ ?_
   rotate_left
   ·
    show Act.put _ (some 12) _ = _
    simp only [Act.put, List.setIfInBounds_toArray, List.set_cons_zero, List.set_cons_succ, i64_w, i32_w]
    rfl
   refine one_ (i := 3) (N := some 13) (bm_ 10 143) rfl rfl (one_of HT_.out (by kernel_rfl)) (by decide) (fun K hK => ?_)
   refine gr_ Tryz.func34 #[.agg #[.bool a0_0, .int .u64 a0_1, .int .u64 a0_2], .int .i64 t470] ?_
   with_reducible refine (prefix_Of.calls k a0_0 a0_1 a0_2 t470 t471 t472 t473 t474 t475 _ A4.out).mono ?_
   rintro e w11 ⟨rfl, hb⟩
   refine ⟨_, rfl, ?_⟩
   replace BK467 := bb_ BK467 hb
   replace BK468 := bb_ BK468 hb
   replace BK469 := bb_ BK469 hb
   replace BK476 := bb_ BK476 hb
   replace HB := bs_ HB hb
   (try clear hb)
   (try clear hb2)
   (try clear hk)
   (try clear hi)
   refine hK.out _ _ ⟨kc_ BK467 0, kc_ BK467 1, kc_ BK467 2⟩ (fun hHeld => ?_)
   clear hK K
   refine norm_ (a' := ?_) ?_ ?_
   rotate_left
   ·
    show Act.put _ (some 13) _ = _
    simp only [Act.put, List.setIfInBounds_toArray, List.set_cons_zero, List.set_cons_succ, i64_w, i32_w]
    rfl
   refine pu_ 4 (some 9) (bm_ 10 159) rfl HT_ ⟨by rfl, by intro w'; go_simp; with_reducible rfl⟩ ?_
   refine pu_ 5 (some 14) (bm_ 10 191) rfl HT_ ⟨by rfl, by intro w'; go_simp; with_reducible rfl⟩ ?_
   refine pu_ 6 (some 15) (bm_ 10 255) rfl HT_ ⟨by rfl, by intro w'; go_simp; with_reducible rfl⟩ ?_
   exact norm_ (by simp only [putAll, Act.put, List.setIfInBounds_toArray, List.set_cons_zero, List.set_cons_succ]) (hCont (gb476) _ ⟨hHeld, (pk_ BK467), (pk_ BK468), (pk_ BK469), (pk_ BK476), GW476.out, GE476.out, NB467_476.out, NB476_467.out, NB468_476.out, NB476_468.out, NB469_476.out, NB476_469.out, (pb_ HB)⟩)
 rintro gb476 w12 ⟨hS_, h0_, h1_, h2_, h3_, h4_, h5_, h6_, h7_, h8_, h9_, h10_, h11_, h12_⟩
 have n0_ : Aside0 (w12.heap[gb467]? = some (.cells #[.bool a0_0, .int .u64 a0_1, .int .u64 a0_2] 26 (0, 0))) := ⟨h0_⟩
 have n1_ : Aside0 (w12.heap[gb468]? = some (.cells #[.bool a1_0, .int .u64 a1_1, .int .u64 a1_2] 26 (0, 0))) := ⟨h1_⟩
 have n2_ : Aside0 (w12.heap[gb469]? = some (.cells #[.bool false, .int .u64 0, .int .u64 0, .int .i64 0] 38 (0, 0))) := ⟨h2_⟩
 have n3_ : Aside0 (w12.heap[gb476]? = some (.cells #[.bool false, .int .u64 0, .int .u64 0, .int .i64 0] 38 (0, 0))) := ⟨h3_⟩
 have n4_ : Aside0 (w.heap.size ≤ gb476) := ⟨h4_⟩
 have n5_ : Aside0 (w.heap.size ≤ gb476) := ⟨h5_⟩
 have n6_ : Aside0 (gb467 ≠ gb476) := ⟨h6_⟩
 have n7_ : Aside0 (gb476 ≠ gb467) := ⟨h7_⟩
 have n8_ : Aside0 (gb468 ≠ gb476) := ⟨h8_⟩
 have n9_ : Aside0 (gb476 ≠ gb468) := ⟨h9_⟩
 have n10_ : Aside0 (gb469 ≠ gb476) := ⟨h10_⟩
 have n11_ : Aside0 (gb476 ≠ gb469) := ⟨h11_⟩
 have n12_ : Aside0 (Below w.heap.size w w12) := ⟨h12_⟩
 clear BK467
 clear BK468
 clear BK469
 clear HB
 clear h0_ h1_ h2_ h3_ h4_ h5_ h6_ h7_ h8_ h9_ h10_ h11_ h12_
 have BK467 := n0_
 have BK468 := n1_
 have BK469 := n2_
 have BK476 := n3_
 have GW476 := n4_
 have GE476 := n5_
 have NB467_476 := n6_
 have NB476_467 := n7_
 have NB468_476 := n8_
 have NB476_468 := n9_
 have NB469_476 := n10_
 have NB476_469 := n11_
 have HB := n12_
 clear n0_ n1_ n2_ n3_ n4_ n5_ n6_ n7_ n8_ n9_ n10_ n11_ n12_
 have hHeld : w12.cell? ⟨gb467, 0, none⟩ = some (.bool a0_0) ∧ w12.cell? ⟨gb467, 1, none⟩ = some (.int .u64 a0_1) ∧ w12.cell? ⟨gb467, 2, none⟩ = some (.int .u64 a0_2) := hS_
 refine norm_ (a' := ?_) ?_ ?_
 rotate_left
 ·
  simp only [putAll, Act.put, List.setIfInBounds_toArray, List.set_cons_zero, List.set_cons_succ]
  rfl
 refine one_ (i := 8) (N := none) (bm_ 10 511) rfl rfl (one_of HT_.out (by kernel_rfl)) (by decide) (fun K hK => ?_)
 have hs13 : w12.cell? ⟨gb476, 0, none⟩ = some (.bool false) := kc_ BK476 0
 have hfs13 := blk_frozen BK476.out 0
 have hns13_0 := NB467_476.out
 have hns13_1 := NB468_476.out
 have hns13_2 := NB469_476.out
 have hms13_0 := NB476_467.out
 have hms13_1 := NB476_468.out
 have hms13_2 := NB476_469.out
 have hs14 : w12.cell? ⟨gb476, 1, none⟩ = some (.int .u64 0) := kc_ BK476 1
 have hfs14 := blk_frozen BK476.out 1
 have hns14_0 := NB467_476.out
 have hns14_1 := NB468_476.out
 have hns14_2 := NB469_476.out
 have hms14_0 := NB476_467.out
 have hms14_1 := NB476_468.out
 have hms14_2 := NB476_469.out
 have hs15 : w12.cell? ⟨gb476, 2, none⟩ = some (.int .u64 0) := kc_ BK476 2
 have hfs15 := blk_frozen BK476.out 2
 have hns15_0 := NB467_476.out
 have hns15_1 := NB468_476.out
 have hns15_2 := NB469_476.out
 have hms15_0 := NB476_467.out
 have hms15_1 := NB476_468.out
 have hms15_2 := NB476_469.out
 have hs16 : w12.cell? ⟨gb476, 3, none⟩ = some (.int .i64 0) := kc_ BK476 3
 have hfs16 := blk_frozen BK476.out 3
 have hns16_0 := NB467_476.out
 have hns16_1 := NB468_476.out
 have hns16_2 := NB469_476.out
 have hms16_0 := NB476_467.out
 have hms16_1 := NB476_468.out
 have hms16_2 := NB476_469.out
 refine skip_ (w1 := ?_) (by rfl) rfl ?_ ?_
 rotate_left
 ·
  go_simp
  rfl
 refine hK.out _ _ ⟨((cell_far (p := ⟨gb476, _, none⟩) NB467_476.out _).trans (((cell_far (p := ⟨gb476, _, none⟩) NB467_476.out _).trans (((cell_far (p := ⟨gb476, _, none⟩) NB467_476.out _).trans (((cell_far (p := ⟨gb476, _, none⟩) NB467_476.out _).trans (hHeld.1)))))))), ((cell_far (p := ⟨gb476, _, none⟩) NB467_476.out _).trans (((cell_far (p := ⟨gb476, _, none⟩) NB467_476.out _).trans (((cell_far (p := ⟨gb476, _, none⟩) NB467_476.out _).trans (((cell_far (p := ⟨gb476, _, none⟩) NB467_476.out _).trans (hHeld.2.1)))))))), ((cell_far (p := ⟨gb476, _, none⟩) NB467_476.out _).trans (((cell_far (p := ⟨gb476, _, none⟩) NB467_476.out _).trans (((cell_far (p := ⟨gb476, _, none⟩) NB467_476.out _).trans (((cell_far (p := ⟨gb476, _, none⟩) NB467_476.out _).trans (hHeld.2.2))))))))⟩ (fun hHeld => ?_)
 clear hK K
 refine pu_ 9 (some 6) (bm_ 10 1023) rfl HT_ ⟨by rfl, by intro w'; go_simp; with_reducible rfl⟩ ?_
 refine done_ (done_of HT_.out (by kernel_rfl)) ?_
 try go_wp2
 go_loopg [] k (fun kq w' => ∃ (x477000_1 : Bool) (x477001_1 : Int) (x477002_1 : Int) (x477003_1 : Int), Aside0 (carve_widest.l0 kq a0_0 a0_1 a0_2 a1_0 a1_1 a1_2 x477000_1 x477001_1 x477002_1 x477003_1 = some (r1, r2, r3, r4)) ∧ Aside0 (kq ≤ k) ∧ Aside0 (w'.heap[gb467]? = some (.cells #[.bool a0_0, .int .u64 a0_1, .int .u64 a0_2] 26 (0, 0))) ∧ Aside0 (w'.heap[gb468]? = some (.cells #[.bool a1_0, .int .u64 a1_1, .int .u64 a1_2] 26 (0, 0))) ∧ Aside0 (w'.heap[gb469]? = some (.cells #[.bool false, .int .u64 0, .int .u64 0, .int .i64 0] 38 (0, 0))) ∧ Aside0 (w'.heap[gb476]? = some (.cells #[.bool x477000_1, .int .u64 x477001_1, .int .u64 x477002_1, .int .i64 x477003_1] 38 (0, 0))) ∧ Aside0 (Below w.heap.size w w'))
 case atStart => exact ⟨(t471), (t472), (t473), (t474), H', ⟨Nat.le_refl _⟩, ⟨by refine pw_ ?_; refine blk_far ?_ NB467_476.out _; refine pw_ ?_; refine blk_far ?_ NB467_476.out _; refine pw_ ?_; refine blk_far ?_ NB467_476.out _; refine pw_ ?_; refine blk_far ?_ NB467_476.out _; refine pw_ ?_; exact BK467.out⟩, ⟨by refine pw_ ?_; refine blk_far ?_ NB468_476.out _; refine pw_ ?_; refine blk_far ?_ NB468_476.out _; refine pw_ ?_; refine blk_far ?_ NB468_476.out _; refine pw_ ?_; refine blk_far ?_ NB468_476.out _; refine pw_ ?_; exact BK468.out⟩, ⟨by refine pw_ ?_; refine blk_far ?_ NB469_476.out _; refine pw_ ?_; refine blk_far ?_ NB469_476.out _; refine pw_ ?_; refine blk_far ?_ NB469_476.out _; refine pw_ ?_; refine blk_far ?_ NB469_476.out _; refine pw_ ?_; exact BK469.out⟩, ⟨by refine pw_ ?_; refine blk_put (cs := #[.bool t471, .int .u64 t472, .int .u64 t473, .int .i64 0]) ?_ 3 _ rfl; refine pw_ ?_; refine blk_put (cs := #[.bool t471, .int .u64 t472, .int .u64 0, .int .i64 0]) ?_ 2 _ rfl; refine pw_ ?_; refine blk_put (cs := #[.bool t471, .int .u64 0, .int .u64 0, .int .i64 0]) ?_ 1 _ rfl; refine pw_ ?_; refine blk_put (cs := #[.bool false, .int .u64 0, .int .u64 0, .int .i64 0]) ?_ 0 _ rfl; refine pw_ ?_; exact BK476.out⟩, ⟨pb_ HB⟩⟩
 case round =>
  clear H'
  try clear c2
  try clear p2
  try clear c3
  try clear c9
  obtain ⟨x477000_1, x477001_1, x477002_1, x477003_1, HA, HK1, BK467, BK468, BK469, BK476, HB⟩ := hrel
  cases gk with
  | zero => exact absurd HA.out (by simp [carve_widest.l0])
  | succ k1 =>
   have H := HA.out
   clear HA
   simp only [carve_widest.l0] at H
   by_cases c17 : x477003_1 > 0
   ·
    rw [if_pos c17] at H
    have c17b0 : decide (0 < x477003_1) = true := decide_eq_true c17
    clear c17
    replace H := Option.bind_eq_some_iff.mp H
    obtain ⟨⟨t477, t478, t479, t480, t481⟩, A180, H⟩ := H
    replace H : (if (!(t477 == a0_0) || ((!(t478 == a0_1) || (!(t479 == a0_2))))) = true then (some (x477000_1, x477001_1, x477002_1, x477003_1)) else ((prefix_Last.f t477 t478 t479 t480).bind fun bt483 => ((addr_Cmp.f bt483.1 bt483.2.1 bt483.2.2 a1_0 a1_1 a1_2).bind fun t486 => (if t486 > 0 then (some (x477000_1, x477001_1, x477002_1, x477003_1)) else (carve_widest.l0 k1 a0_0 a0_1 a0_2 a1_0 a1_1 a1_2 t477 t478 t479 t480))))) = some (r1, r2, r3, r4) := H
    have A18 := Aside0.mk A180
    clear A180
    by_cases c19 : (!(t477 == a0_0) || ((!(t478 == a0_1) || (!(t479 == a0_2))))) = true
    ·
     rw [if_pos c19] at H
     have c19b0 : (!(t477 == a0_0) || ((!(t478 == a0_1) || (!(t479 == a0_2))))) = true := c19
     clear c19
     simp only [Option.some.injEq, Prod.mk.injEq] at H
     obtain ⟨rfl, rfl, rfl, rfl⟩ := H
     have hnb20 := NB476_467.out
     have hnc20 := NB467_476.out
     have hnb21 := NB476_468.out
     have hnc21 := NB468_476.out
     have hnb22 := NB476_469.out
     have hnc22 := NB469_476.out
     obtain ⟨hcz23_0, hcz23_1, hcz23_2, hcz23_3, hfz23_0, hfz23_1, hfz23_2, hfz23_3⟩ := c4_ BK476
     have hnb24 := NB467_468.out
     have hnc24 := NB468_467.out
     have hnb25 := NB467_469.out
     have hnc25 := NB469_467.out
     obtain ⟨hcz26_0, hcz26_1, hcz26_2, hfz26_0, hfz26_1, hfz26_2⟩ := c3_ BK467
     try go_wp2_with (first | ((with_reducible refine gate_callee (f := 34) rfl ?_); refine gl_ (some 24) Tryz.func34 #[.agg #[.bool a0_0, .int .u64 a0_1, .int .u64 a0_2], .int .i64 (wrap64 (x477003_1 - 1))] ?_; (with_reducible refine (prefix_Of.calls k1 a0_0 a0_1 a0_2 (wrap64 (x477003_1 - 1)) t477 t478 t479 t480 t481 _ A18.out).mono ?_); rintro e w27 ⟨rfl, hb⟩; refine ⟨_, rfl, ?_⟩; replace BK467 := bb_ BK467 hb; replace BK468 := bb_ BK468 hb; replace BK469 := bb_ BK469 hb; replace BK476 := bb_ BK476 hb; replace HB := bs_ HB hb; (try clear hb); (try clear hb2); (try clear hk); (try clear hi)) | ((with_reducible refine gate_dst (N := 7) rfl ?_); refine bx_ 7 #[.bool false, .int .u64 0, .int .u64 0, .int .i64 0] 38 ?_; intro gb482 hg w28 hbox hb; have BK482 := Aside0.mk (hbox); have GW482 := gw_ HB hg; have GE482 := gw_ HB hg; have NB467_482 := nl_ BK467 hg; have NB482_467 := ng_ BK467 hg; have NB468_482 := nl_ BK468 hg; have NB482_468 := ng_ BK468 hg; have NB469_482 := nl_ BK469 hg; have NB482_469 := ng_ BK469 hg; have NB476_482 := nl_ BK476 hg; have NB482_476 := ng_ BK476 hg; replace BK467 := bb_ BK467 hb; replace BK468 := bb_ BK468 hb; replace BK469 := bb_ BK469 hb; replace BK476 := bb_ BK476 hb; replace HB := bs_ HB hb; clear hb hbox hg; have hnb29 := NB482_467.out; have hnc29 := NB467_482.out; have hnb30 := NB482_468.out; have hnc30 := NB468_482.out; have hnb31 := NB482_469.out; have hnc31 := NB469_482.out; have hnb32 := NB482_476.out; have hnc32 := NB476_482.out; obtain ⟨hcz33_0, hcz33_1, hcz33_2, hcz33_3, hfz33_0, hfz33_1, hfz33_2, hfz33_3⟩ := c4_ BK482))
     have n0_ : Aside0 (((((w28.setCell ⟨gb482, 0, none⟩ (.bool t477)).setCell ⟨gb482, 1, none⟩ (.int .u64 t478)).setCell ⟨gb482, 2, none⟩ (.int .u64 t479)).setCell ⟨gb482, 3, none⟩ (.int .i64 t480)).heap[gb467]? = some (.cells #[.bool a0_0, .int .u64 a0_1, .int .u64 a0_2] 26 (0, 0))) := ⟨by refine pw_ ?_; refine blk_far ?_ NB467_482.out _; refine pw_ ?_; refine blk_far ?_ NB467_482.out _; refine pw_ ?_; refine blk_far ?_ NB467_482.out _; refine pw_ ?_; refine blk_far ?_ NB467_482.out _; refine pw_ ?_; exact BK467.out⟩
     have n1_ : Aside0 (((((w28.setCell ⟨gb482, 0, none⟩ (.bool t477)).setCell ⟨gb482, 1, none⟩ (.int .u64 t478)).setCell ⟨gb482, 2, none⟩ (.int .u64 t479)).setCell ⟨gb482, 3, none⟩ (.int .i64 t480)).heap[gb468]? = some (.cells #[.bool a1_0, .int .u64 a1_1, .int .u64 a1_2] 26 (0, 0))) := ⟨by refine pw_ ?_; refine blk_far ?_ NB468_482.out _; refine pw_ ?_; refine blk_far ?_ NB468_482.out _; refine pw_ ?_; refine blk_far ?_ NB468_482.out _; refine pw_ ?_; refine blk_far ?_ NB468_482.out _; refine pw_ ?_; exact BK468.out⟩
     have n2_ : Aside0 (((((w28.setCell ⟨gb482, 0, none⟩ (.bool t477)).setCell ⟨gb482, 1, none⟩ (.int .u64 t478)).setCell ⟨gb482, 2, none⟩ (.int .u64 t479)).setCell ⟨gb482, 3, none⟩ (.int .i64 t480)).heap[gb469]? = some (.cells #[.bool false, .int .u64 0, .int .u64 0, .int .i64 0] 38 (0, 0))) := ⟨by refine pw_ ?_; refine blk_far ?_ NB469_482.out _; refine pw_ ?_; refine blk_far ?_ NB469_482.out _; refine pw_ ?_; refine blk_far ?_ NB469_482.out _; refine pw_ ?_; refine blk_far ?_ NB469_482.out _; refine pw_ ?_; exact BK469.out⟩
     have n3_ : Aside0 (((((w28.setCell ⟨gb482, 0, none⟩ (.bool t477)).setCell ⟨gb482, 1, none⟩ (.int .u64 t478)).setCell ⟨gb482, 2, none⟩ (.int .u64 t479)).setCell ⟨gb482, 3, none⟩ (.int .i64 t480)).heap[gb476]? = some (.cells #[.bool x477000_1, .int .u64 x477001_1, .int .u64 x477002_1, .int .i64 x477003_1] 38 (0, 0))) := ⟨by refine pw_ ?_; refine blk_far ?_ NB476_482.out _; refine pw_ ?_; refine blk_far ?_ NB476_482.out _; refine pw_ ?_; refine blk_far ?_ NB476_482.out _; refine pw_ ?_; refine blk_far ?_ NB476_482.out _; refine pw_ ?_; exact BK476.out⟩
     have n4_ : Aside0 (((((w28.setCell ⟨gb482, 0, none⟩ (.bool t477)).setCell ⟨gb482, 1, none⟩ (.int .u64 t478)).setCell ⟨gb482, 2, none⟩ (.int .u64 t479)).setCell ⟨gb482, 3, none⟩ (.int .i64 t480)).heap[gb482]? = some (.cells #[.bool t477, .int .u64 t478, .int .u64 t479, .int .i64 t480] 38 (0, 0))) := ⟨by refine pw_ ?_; refine blk_put (cs := #[.bool t477, .int .u64 t478, .int .u64 t479, .int .i64 0]) ?_ 3 _ rfl; refine pw_ ?_; refine blk_put (cs := #[.bool t477, .int .u64 t478, .int .u64 0, .int .i64 0]) ?_ 2 _ rfl; refine pw_ ?_; refine blk_put (cs := #[.bool t477, .int .u64 0, .int .u64 0, .int .i64 0]) ?_ 1 _ rfl; refine pw_ ?_; refine blk_put (cs := #[.bool false, .int .u64 0, .int .u64 0, .int .i64 0]) ?_ 0 _ rfl; refine pw_ ?_; exact BK482.out⟩
     have n5_ : Aside0 (Below w.heap.size w ((((w28.setCell ⟨gb482, 0, none⟩ (.bool t477)).setCell ⟨gb482, 1, none⟩ (.int .u64 t478)).setCell ⟨gb482, 2, none⟩ (.int .u64 t479)).setCell ⟨gb482, 3, none⟩ (.int .i64 t480))) := ⟨pb_ HB⟩
     (try clear BK467)
     (try clear BK468)
     (try clear BK469)
     (try clear BK476)
     (try clear BK482)
     (try clear HB)
     generalize ((((w28.setCell ⟨gb482, 0, none⟩ (.bool t477)).setCell ⟨gb482, 1, none⟩ (.int .u64 t478)).setCell ⟨gb482, 2, none⟩ (.int .u64 t479)).setCell ⟨gb482, 3, none⟩ (.int .i64 t480)) = w34 at n0_ n1_ n2_ n3_ n4_ n5_ ⊢
     have BK467 := n0_
     have BK468 := n1_
     have BK469 := n2_
     have BK476 := n3_
     have BK482 := n4_
     have HB := n5_
     clear n0_ n1_ n2_ n3_ n4_ n5_
     replace BK467 := Aside0.mk (blk_drew BK467.out)
     replace BK468 := Aside0.mk (blk_drew BK468.out)
     replace BK469 := Aside0.mk (blk_drew BK469.out)
     replace BK476 := Aside0.mk (blk_drew BK476.out)
     replace BK482 := Aside0.mk (blk_drew BK482.out)
     replace HB := Aside0.mk (below_drew1 HB.out)
     refine start_ (n := 11) (S := fun w' => w'.cell? ⟨gb482, 0, none⟩ = some (.bool t477) ∧ w'.cell? ⟨gb482, 1, none⟩ = some (.int .u64 t478) ∧ w'.cell? ⟨gb482, 2, none⟩ = some (.int .u64 t479) ∧ w'.cell? ⟨gb482, 3, none⟩ = some (.int .i64 t480) ∧ w'.cell? ⟨gb467, 0, none⟩ = some (.bool a0_0) ∧ w'.cell? ⟨gb467, 1, none⟩ = some (.int .u64 a0_1) ∧ w'.cell? ⟨gb467, 2, none⟩ = some (.int .u64 a0_2)) (ds := []) (bm_ 11 0) (by kernel_rfl) rfl rfl ⟨kc_ BK482 0, kc_ BK482 1, kc_ BK482 2, kc_ BK482 3, kc_ BK467 0, kc_ BK467 1, kc_ BK467 2⟩ (fun hHeld => ?_); refine with_tabW carve_widest.tab4 carve_widest.bits4 (fun HT_ HW_ => ?_)
     generalize w34.drew = w35 at BK467 BK468 BK469 BK476 BK482 HB hHeld ⊢
     refine pu_ 0 (some 27) (bm_ 11 1) rfl HT_ ⟨by rfl, by intro w'; go_simp; with_reducible rfl⟩ ?_
     refine ta_ 1 (some 28) (bm_ 11 3) rfl HT_ HW_ ⟨by rfl, by rintro w' ⟨s0, s1, s2, s3, s4, s5, s6⟩; go_simp; with_reducible rfl⟩ hHeld ?_
     refine ta_ 2 (some 29) (bm_ 11 7) rfl HT_ HW_ ⟨by rfl, by rintro w' ⟨s0, s1, s2, s3, s4, s5, s6⟩; go_simp; with_reducible rfl⟩ hHeld ?_
     refine pu_ 3 (some 30) (bm_ 11 15) rfl HT_ ⟨by rfl, by intro w'; go_simp; with_reducible rfl⟩ ?_
     refine pu_ 4 (some 31) (bm_ 11 31) rfl HT_ ⟨by rfl, by intro w'; go_simp; with_reducible rfl⟩ ?_
     refine pure_ (i := 5) (N := some 32) (v := undef) (a' := ?_) (bm_ 11 63) rfl rfl (any_of HT_.out (by kernel_rfl)) (fun _ _ _ h => h) (Or.inr ⟨by rfl, rfl⟩) ?_ ?_
     rotate_left
     ·
      simp only [Act.put, List.setIfInBounds_toArray, List.set_cons_zero, List.set_cons_succ, i64_w, i32_w]
      rfl
     refine pure_ (i := 6) (N := some 33) (v := undef) (a' := ?_) (bm_ 11 127) rfl rfl (any_of HT_.out (by kernel_rfl)) (fun _ _ _ h => h) (Or.inr ⟨by rfl, rfl⟩) ?_ ?_
     rotate_left
     ·
      simp only [Act.put, List.setIfInBounds_toArray, List.set_cons_zero, List.set_cons_succ, i64_w, i32_w]
      rfl
     refine pure_ (i := 7) (N := some 34) (v := undef) (a' := ?_) (bm_ 11 255) rfl rfl (any_of HT_.out (by kernel_rfl)) (fun _ _ _ h => h) (Or.inr ⟨by rfl, rfl⟩) ?_ ?_
     rotate_left
     ·
      simp only [Act.put, List.setIfInBounds_toArray, List.set_cons_zero, List.set_cons_succ, i64_w, i32_w]
      rfl
     refine pure_ (i := 8) (N := some 35) (v := undef) (a' := ?_) (bm_ 11 511) rfl rfl (any_of HT_.out (by kernel_rfl)) (fun _ _ _ h => h) (Or.inr ⟨by rfl, rfl⟩) ?_ ?_
     rotate_left
     ·
      simp only [Act.put, List.setIfInBounds_toArray, List.set_cons_zero, List.set_cons_succ, i64_w, i32_w]
      rfl
     refine pure_ (i := 9) (N := some 36) (v := undef) (a' := ?_) (bm_ 11 1023) rfl rfl (any_of HT_.out (by kernel_rfl)) (fun _ _ _ h => h) (Or.inr ⟨by rfl, rfl⟩) ?_ ?_
     rotate_left
     ·
      simp only [Act.put, List.setIfInBounds_toArray, List.set_cons_zero, List.set_cons_succ, i64_w, i32_w]
      rfl
     refine pu_ 10 (some 37) (bm_ 11 2047) rfl HT_ ⟨by rfl, by intro w'; go_simp; with_reducible rfl⟩ ?_
     refine done_ (done_of HT_.out (by kernel_rfl)) ?_
     obtain ⟨hcz36_0, hcz36_1, hcz36_2, hcz36_3, hfz36_0, hfz36_1, hfz36_2, hfz36_3⟩ := c4_ BK476
     have hnb37 := NB469_468.out
     have hnc37 := NB468_469.out
     obtain ⟨hcz38_0, hcz38_1, hcz38_2, hcz38_3, hfz38_0, hfz38_1, hfz38_2, hfz38_3⟩ := c4_ BK469
     try go_wp2
     refine bodyPost_ret (results_cell_row rfl _ _ gb469 38 #[.bool x477000_1, .int .u64 x477001_1, .int .u64 x477002_1, .int .i64 x477003_1] (0, 0) _ rfl (by refine pw_ ?_; refine blk_put (cs := #[.bool x477000_1, .int .u64 x477001_1, .int .u64 x477002_1, .int .i64 0]) ?_ 3 _ rfl; refine pw_ ?_; refine blk_put (cs := #[.bool x477000_1, .int .u64 x477001_1, .int .u64 0, .int .i64 0]) ?_ 2 _ rfl; refine pw_ ?_; refine blk_put (cs := #[.bool x477000_1, .int .u64 0, .int .u64 0, .int .i64 0]) ?_ 1 _ rfl; refine pw_ ?_; refine blk_put (cs := #[.bool false, .int .u64 0, .int .u64 0, .int .i64 0]) ?_ 0 _ rfl; refine pw_ ?_; exact BK469.out) Tryz.underlying38 rfl (by kernel_rfl)) rfl ?_
     exact ⟨by first | rfl | (simp [errW_none, errW_some] <;> rfl) | (simp [*, errW_none, errW_some] <;> rfl), pb_ HB⟩
    ·
     rw [if_neg c19] at H
     have c19b0 : (!(t477 == a0_0) || ((!(t478 == a0_1) || (!(t479 == a0_2))))) = false := by simpa using c19
     clear c19
     replace H := Option.bind_eq_some_iff.mp H
     obtain ⟨⟨t483, t484, t485⟩, A390, H⟩ := H
     replace H : ((addr_Cmp.f t483 t484 t485 a1_0 a1_1 a1_2).bind fun t486 => (if t486 > 0 then (some (x477000_1, x477001_1, x477002_1, x477003_1)) else (carve_widest.l0 k1 a0_0 a0_1 a0_2 a1_0 a1_1 a1_2 t477 t478 t479 t480))) = some (r1, r2, r3, r4) := H
     have A39 := Aside0.mk A390
     clear A390
     replace H := Option.bind_eq_some_iff.mp H
     obtain ⟨t486, A400, H⟩ := H
     replace H : (if t486 > 0 then (some (x477000_1, x477001_1, x477002_1, x477003_1)) else (carve_widest.l0 k1 a0_0 a0_1 a0_2 a1_0 a1_1 a1_2 t477 t478 t479 t480)) = some (r1, r2, r3, r4) := H
     have A40 := Aside0.mk A400
     clear A400
     by_cases c41 : t486 > 0
     ·
      rw [if_pos c41] at H
      have c41b0 : decide (0 < t486) = true := decide_eq_true c41
      clear c41
      simp only [Option.some.injEq, Prod.mk.injEq] at H
      obtain ⟨rfl, rfl, rfl, rfl⟩ := H
      have hnb42 := NB476_467.out
      have hnc42 := NB467_476.out
      have hnb43 := NB476_468.out
      have hnc43 := NB468_476.out
      have hnb44 := NB476_469.out
      have hnc44 := NB469_476.out
      obtain ⟨hcz45_0, hcz45_1, hcz45_2, hcz45_3, hfz45_0, hfz45_1, hfz45_2, hfz45_3⟩ := c4_ BK476
      have hnb46 := NB467_468.out
      have hnc46 := NB468_467.out
      have hnb47 := NB467_469.out
      have hnc47 := NB469_467.out
      obtain ⟨hcz48_0, hcz48_1, hcz48_2, hfz48_0, hfz48_1, hfz48_2⟩ := c3_ BK467
      try go_wp2_with (first | ((with_reducible refine gate_callee (f := 34) rfl ?_); refine gl_ (some 24) Tryz.func34 #[.agg #[.bool a0_0, .int .u64 a0_1, .int .u64 a0_2], .int .i64 (wrap64 (x477003_1 - 1))] ?_; (with_reducible refine (prefix_Of.calls k1 a0_0 a0_1 a0_2 (wrap64 (x477003_1 - 1)) t477 t478 t479 t480 t481 _ A18.out).mono ?_); rintro e w49 ⟨rfl, hb⟩; refine ⟨_, rfl, ?_⟩; replace BK467 := bb_ BK467 hb; replace BK468 := bb_ BK468 hb; replace BK469 := bb_ BK469 hb; replace BK476 := bb_ BK476 hb; replace HB := bs_ HB hb; (try clear hb); (try clear hb2); (try clear hk); (try clear hi)) | ((with_reducible refine gate_dst (N := 7) rfl ?_); refine bx_ 7 #[.bool false, .int .u64 0, .int .u64 0, .int .i64 0] 38 ?_; intro gb482 hg w50 hbox hb; have BK482 := Aside0.mk (hbox); have GW482 := gw_ HB hg; have GE482 := gw_ HB hg; have NB467_482 := nl_ BK467 hg; have NB482_467 := ng_ BK467 hg; have NB468_482 := nl_ BK468 hg; have NB482_468 := ng_ BK468 hg; have NB469_482 := nl_ BK469 hg; have NB482_469 := ng_ BK469 hg; have NB476_482 := nl_ BK476 hg; have NB482_476 := ng_ BK476 hg; replace BK467 := bb_ BK467 hb; replace BK468 := bb_ BK468 hb; replace BK469 := bb_ BK469 hb; replace BK476 := bb_ BK476 hb; replace HB := bs_ HB hb; clear hb hbox hg; have hnb51 := NB482_467.out; have hnc51 := NB467_482.out; have hnb52 := NB482_468.out; have hnc52 := NB468_482.out; have hnb53 := NB482_469.out; have hnc53 := NB469_482.out; have hnb54 := NB482_476.out; have hnc54 := NB476_482.out; obtain ⟨hcz55_0, hcz55_1, hcz55_2, hcz55_3, hfz55_0, hfz55_1, hfz55_2, hfz55_3⟩ := c4_ BK482))
      have n0_ : Aside0 (((((w50.setCell ⟨gb482, 0, none⟩ (.bool t477)).setCell ⟨gb482, 1, none⟩ (.int .u64 t478)).setCell ⟨gb482, 2, none⟩ (.int .u64 t479)).setCell ⟨gb482, 3, none⟩ (.int .i64 t480)).heap[gb467]? = some (.cells #[.bool a0_0, .int .u64 a0_1, .int .u64 a0_2] 26 (0, 0))) := ⟨by refine pw_ ?_; refine blk_far ?_ NB467_482.out _; refine pw_ ?_; refine blk_far ?_ NB467_482.out _; refine pw_ ?_; refine blk_far ?_ NB467_482.out _; refine pw_ ?_; refine blk_far ?_ NB467_482.out _; refine pw_ ?_; exact BK467.out⟩
      have n1_ : Aside0 (((((w50.setCell ⟨gb482, 0, none⟩ (.bool t477)).setCell ⟨gb482, 1, none⟩ (.int .u64 t478)).setCell ⟨gb482, 2, none⟩ (.int .u64 t479)).setCell ⟨gb482, 3, none⟩ (.int .i64 t480)).heap[gb468]? = some (.cells #[.bool a1_0, .int .u64 a1_1, .int .u64 a1_2] 26 (0, 0))) := ⟨by refine pw_ ?_; refine blk_far ?_ NB468_482.out _; refine pw_ ?_; refine blk_far ?_ NB468_482.out _; refine pw_ ?_; refine blk_far ?_ NB468_482.out _; refine pw_ ?_; refine blk_far ?_ NB468_482.out _; refine pw_ ?_; exact BK468.out⟩
      have n2_ : Aside0 (((((w50.setCell ⟨gb482, 0, none⟩ (.bool t477)).setCell ⟨gb482, 1, none⟩ (.int .u64 t478)).setCell ⟨gb482, 2, none⟩ (.int .u64 t479)).setCell ⟨gb482, 3, none⟩ (.int .i64 t480)).heap[gb469]? = some (.cells #[.bool false, .int .u64 0, .int .u64 0, .int .i64 0] 38 (0, 0))) := ⟨by refine pw_ ?_; refine blk_far ?_ NB469_482.out _; refine pw_ ?_; refine blk_far ?_ NB469_482.out _; refine pw_ ?_; refine blk_far ?_ NB469_482.out _; refine pw_ ?_; refine blk_far ?_ NB469_482.out _; refine pw_ ?_; exact BK469.out⟩
      have n3_ : Aside0 (((((w50.setCell ⟨gb482, 0, none⟩ (.bool t477)).setCell ⟨gb482, 1, none⟩ (.int .u64 t478)).setCell ⟨gb482, 2, none⟩ (.int .u64 t479)).setCell ⟨gb482, 3, none⟩ (.int .i64 t480)).heap[gb476]? = some (.cells #[.bool x477000_1, .int .u64 x477001_1, .int .u64 x477002_1, .int .i64 x477003_1] 38 (0, 0))) := ⟨by refine pw_ ?_; refine blk_far ?_ NB476_482.out _; refine pw_ ?_; refine blk_far ?_ NB476_482.out _; refine pw_ ?_; refine blk_far ?_ NB476_482.out _; refine pw_ ?_; refine blk_far ?_ NB476_482.out _; refine pw_ ?_; exact BK476.out⟩
      have n4_ : Aside0 (((((w50.setCell ⟨gb482, 0, none⟩ (.bool t477)).setCell ⟨gb482, 1, none⟩ (.int .u64 t478)).setCell ⟨gb482, 2, none⟩ (.int .u64 t479)).setCell ⟨gb482, 3, none⟩ (.int .i64 t480)).heap[gb482]? = some (.cells #[.bool t477, .int .u64 t478, .int .u64 t479, .int .i64 t480] 38 (0, 0))) := ⟨by refine pw_ ?_; refine blk_put (cs := #[.bool t477, .int .u64 t478, .int .u64 t479, .int .i64 0]) ?_ 3 _ rfl; refine pw_ ?_; refine blk_put (cs := #[.bool t477, .int .u64 t478, .int .u64 0, .int .i64 0]) ?_ 2 _ rfl; refine pw_ ?_; refine blk_put (cs := #[.bool t477, .int .u64 0, .int .u64 0, .int .i64 0]) ?_ 1 _ rfl; refine pw_ ?_; refine blk_put (cs := #[.bool false, .int .u64 0, .int .u64 0, .int .i64 0]) ?_ 0 _ rfl; refine pw_ ?_; exact BK482.out⟩
      have n5_ : Aside0 (Below w.heap.size w ((((w50.setCell ⟨gb482, 0, none⟩ (.bool t477)).setCell ⟨gb482, 1, none⟩ (.int .u64 t478)).setCell ⟨gb482, 2, none⟩ (.int .u64 t479)).setCell ⟨gb482, 3, none⟩ (.int .i64 t480))) := ⟨pb_ HB⟩
      (try clear BK467)
      (try clear BK468)
      (try clear BK469)
      (try clear BK476)
      (try clear BK482)
      (try clear HB)
      generalize ((((w50.setCell ⟨gb482, 0, none⟩ (.bool t477)).setCell ⟨gb482, 1, none⟩ (.int .u64 t478)).setCell ⟨gb482, 2, none⟩ (.int .u64 t479)).setCell ⟨gb482, 3, none⟩ (.int .i64 t480)) = w56 at n0_ n1_ n2_ n3_ n4_ n5_ ⊢
      have BK467 := n0_
      have BK468 := n1_
      have BK469 := n2_
      have BK476 := n3_
      have BK482 := n4_
      have HB := n5_
      clear n0_ n1_ n2_ n3_ n4_ n5_
      replace BK467 := Aside0.mk (blk_drew BK467.out)
      replace BK468 := Aside0.mk (blk_drew BK468.out)
      replace BK469 := Aside0.mk (blk_drew BK469.out)
      replace BK476 := Aside0.mk (blk_drew BK476.out)
      replace BK482 := Aside0.mk (blk_drew BK482.out)
      replace HB := Aside0.mk (below_drew1 HB.out)
      refine start_ (n := 11) (S := fun w' => w'.cell? ⟨gb482, 0, none⟩ = some (.bool t477) ∧ w'.cell? ⟨gb482, 1, none⟩ = some (.int .u64 t478) ∧ w'.cell? ⟨gb482, 2, none⟩ = some (.int .u64 t479) ∧ w'.cell? ⟨gb482, 3, none⟩ = some (.int .i64 t480) ∧ w'.cell? ⟨gb467, 0, none⟩ = some (.bool a0_0) ∧ w'.cell? ⟨gb467, 1, none⟩ = some (.int .u64 a0_1) ∧ w'.cell? ⟨gb467, 2, none⟩ = some (.int .u64 a0_2) ∧ w'.cell? ⟨gb468, 0, none⟩ = some (.bool a1_0) ∧ w'.cell? ⟨gb468, 1, none⟩ = some (.int .u64 a1_1) ∧ w'.cell? ⟨gb468, 2, none⟩ = some (.int .u64 a1_2)) (ds := []) (bm_ 11 0) (by kernel_rfl) rfl rfl ⟨kc_ BK482 0, kc_ BK482 1, kc_ BK482 2, kc_ BK482 3, kc_ BK467 0, kc_ BK467 1, kc_ BK467 2, kc_ BK468 0, kc_ BK468 1, kc_ BK468 2⟩ (fun hHeld => ?_); refine with_tabW carve_widest.tab4 carve_widest.bits4 (fun HT_ HW_ => ?_)
      generalize w56.drew = w57 at BK467 BK468 BK469 BK476 BK482 HB hHeld ⊢
      refine pu_ 0 (some 27) (bm_ 11 1) rfl HT_ ⟨by rfl, by intro w'; go_simp; with_reducible rfl⟩ ?_
      refine ta_ 1 (some 28) (bm_ 11 3) rfl HT_ HW_ ⟨by rfl, by rintro w' ⟨s0, s1, s2, s3, s4, s5, s6, s7, s8, s9⟩; go_simp; with_reducible rfl⟩ hHeld ?_
      refine ta_ 2 (some 29) (bm_ 11 7) rfl HT_ HW_ ⟨by rfl, by rintro w' ⟨s0, s1, s2, s3, s4, s5, s6, s7, s8, s9⟩; go_simp; with_reducible rfl⟩ hHeld ?_
      refine pu_ 3 (some 30) (bm_ 11 15) rfl HT_ ⟨by rfl, by intro w'; go_simp; with_reducible rfl⟩ ?_
      refine pu_ 4 (some 31) (bm_ 11 31) rfl HT_ ⟨by rfl, by intro w'; go_simp; with_reducible rfl⟩ ?_
      refine ta_ 5 (some 32) (bm_ 11 63) rfl HT_ HW_ ⟨by rfl, by rintro w' ⟨s0, s1, s2, s3, s4, s5, s6, s7, s8, s9⟩; go_simp; with_reducible rfl⟩ hHeld ?_
      refine ta_ 7 (some 34) (bm_ 11 191) rfl HT_ HW_ ⟨by rfl, by rintro w' ⟨s0, s1, s2, s3, s4, s5, s6, s7, s8, s9⟩; go_simp; with_reducible rfl⟩ hHeld ?_
      refine one_ (i := 6) (N := some 33) (bm_ 11 255) rfl rfl (one_of HT_.out (by kernel_rfl)) (by decide) (fun K hK => ?_)
      refine gr_ Tryz.func38 #[.agg #[.bool t477, .int .u64 t478, .int .u64 t479, .int .i64 t480]] ?_
      with_reducible refine (prefix_Last.calls t477 t478 t479 t480 t483 t484 t485 _ A39.out).mono ?_
      rintro e w58 ⟨rfl, hb⟩
      refine ⟨_, rfl, ?_⟩
      replace BK467 := bb_ BK467 hb
      replace BK468 := bb_ BK468 hb
      replace BK469 := bb_ BK469 hb
      replace BK476 := bb_ BK476 hb
      replace BK482 := bb_ BK482 hb
      replace HB := bs_ HB hb
      (try clear hb)
      (try clear hb2)
      (try clear hk)
      (try clear hi)
      refine hK.out _ _ ⟨kc_ BK482 0, kc_ BK482 1, kc_ BK482 2, kc_ BK482 3, kc_ BK467 0, kc_ BK467 1, kc_ BK467 2, kc_ BK468 0, kc_ BK468 1, kc_ BK468 2⟩ (fun hHeld => ?_)
      clear hK K
      refine norm_ (a' := ?_) ?_ ?_
      rotate_left
      ·
       show Act.put _ (some 33) _ = _
       simp only [Act.put, List.setIfInBounds_toArray, List.set_cons_zero, List.set_cons_succ, i64_w, i32_w]
       rfl
      refine one_ (i := 8) (N := some 35) (bm_ 11 511) rfl rfl (one_of HT_.out (by kernel_rfl)) (by decide) (fun K hK => ?_)
      refine gr_ Tryz.func20 #[.agg #[.bool t483, .int .u64 t484, .int .u64 t485], .agg #[.bool a1_0, .int .u64 a1_1, .int .u64 a1_2]] ?_
      with_reducible refine (addr_Cmp.calls t483 t484 t485 a1_0 a1_1 a1_2 t486 _ A40.out).mono ?_
      rintro e w59 ⟨rfl, hb⟩
      refine ⟨_, rfl, ?_⟩
      replace BK467 := bb_ BK467 hb
      replace BK468 := bb_ BK468 hb
      replace BK469 := bb_ BK469 hb
      replace BK476 := bb_ BK476 hb
      replace BK482 := bb_ BK482 hb
      replace HB := bs_ HB hb
      (try clear hb)
      (try clear hb2)
      (try clear hk)
      (try clear hi)
      refine hK.out _ _ ⟨kc_ BK482 0, kc_ BK482 1, kc_ BK482 2, kc_ BK482 3, kc_ BK467 0, kc_ BK467 1, kc_ BK467 2, kc_ BK468 0, kc_ BK468 1, kc_ BK468 2⟩ (fun hHeld => ?_)
      clear hK K
      refine norm_ (a' := ?_) ?_ ?_
      rotate_left
      ·
       show Act.put _ (some 35) _ = _
       simp only [Act.put, List.setIfInBounds_toArray, List.set_cons_zero, List.set_cons_succ, i64_w, i32_w]
       rfl
      refine pu_ 9 (some 36) (bm_ 11 1023) rfl HT_ ⟨by rfl, by intro w'; go_simp; with_reducible rfl⟩ ?_
      refine pu_ 10 (some 37) (bm_ 11 2047) rfl HT_ ⟨by rfl, by intro w'; go_simp; with_reducible rfl⟩ ?_
      refine done_ (done_of HT_.out (by kernel_rfl)) ?_
      obtain ⟨hcz60_0, hcz60_1, hcz60_2, hcz60_3, hfz60_0, hfz60_1, hfz60_2, hfz60_3⟩ := c4_ BK476
      have hnb61 := NB469_468.out
      have hnc61 := NB468_469.out
      obtain ⟨hcz62_0, hcz62_1, hcz62_2, hcz62_3, hfz62_0, hfz62_1, hfz62_2, hfz62_3⟩ := c4_ BK469
      try go_wp2
      refine bodyPost_ret (results_cell_row rfl _ _ gb469 38 #[.bool x477000_1, .int .u64 x477001_1, .int .u64 x477002_1, .int .i64 x477003_1] (0, 0) _ rfl (by refine pw_ ?_; refine blk_put (cs := #[.bool x477000_1, .int .u64 x477001_1, .int .u64 x477002_1, .int .i64 0]) ?_ 3 _ rfl; refine pw_ ?_; refine blk_put (cs := #[.bool x477000_1, .int .u64 x477001_1, .int .u64 0, .int .i64 0]) ?_ 2 _ rfl; refine pw_ ?_; refine blk_put (cs := #[.bool x477000_1, .int .u64 0, .int .u64 0, .int .i64 0]) ?_ 1 _ rfl; refine pw_ ?_; refine blk_put (cs := #[.bool false, .int .u64 0, .int .u64 0, .int .i64 0]) ?_ 0 _ rfl; refine pw_ ?_; exact BK469.out) Tryz.underlying38 rfl (by kernel_rfl)) rfl ?_
      exact ⟨by first | rfl | (simp [errW_none, errW_some] <;> rfl) | (simp [*, errW_none, errW_some] <;> rfl), pb_ HB⟩
     ·
      rw [if_neg c41] at H
      have c41b0 : decide (0 < t486) = false := decide_eq_false c41
      clear c41
      have H' := Aside0.mk H
      clear H
      have hnb63 := NB476_467.out
      have hnc63 := NB467_476.out
      have hnb64 := NB476_468.out
      have hnc64 := NB468_476.out
      have hnb65 := NB476_469.out
      have hnc65 := NB469_476.out
      obtain ⟨hcz66_0, hcz66_1, hcz66_2, hcz66_3, hfz66_0, hfz66_1, hfz66_2, hfz66_3⟩ := c4_ BK476
      have hnb67 := NB467_468.out
      have hnc67 := NB468_467.out
      have hnb68 := NB467_469.out
      have hnc68 := NB469_467.out
      obtain ⟨hcz69_0, hcz69_1, hcz69_2, hfz69_0, hfz69_1, hfz69_2⟩ := c3_ BK467
      try go_wp2_with (first | ((with_reducible refine gate_callee (f := 34) rfl ?_); refine gl_ (some 24) Tryz.func34 #[.agg #[.bool a0_0, .int .u64 a0_1, .int .u64 a0_2], .int .i64 (wrap64 (x477003_1 - 1))] ?_; (with_reducible refine (prefix_Of.calls k1 a0_0 a0_1 a0_2 (wrap64 (x477003_1 - 1)) t477 t478 t479 t480 t481 _ A18.out).mono ?_); rintro e w70 ⟨rfl, hb⟩; refine ⟨_, rfl, ?_⟩; replace BK467 := bb_ BK467 hb; replace BK468 := bb_ BK468 hb; replace BK469 := bb_ BK469 hb; replace BK476 := bb_ BK476 hb; replace HB := bs_ HB hb; (try clear hb); (try clear hb2); (try clear hk); (try clear hi)) | ((with_reducible refine gate_dst (N := 7) rfl ?_); refine bx_ 7 #[.bool false, .int .u64 0, .int .u64 0, .int .i64 0] 38 ?_; intro gb482 hg w71 hbox hb; have BK482 := Aside0.mk (hbox); have GW482 := gw_ HB hg; have GE482 := gw_ HB hg; have NB467_482 := nl_ BK467 hg; have NB482_467 := ng_ BK467 hg; have NB468_482 := nl_ BK468 hg; have NB482_468 := ng_ BK468 hg; have NB469_482 := nl_ BK469 hg; have NB482_469 := ng_ BK469 hg; have NB476_482 := nl_ BK476 hg; have NB482_476 := ng_ BK476 hg; replace BK467 := bb_ BK467 hb; replace BK468 := bb_ BK468 hb; replace BK469 := bb_ BK469 hb; replace BK476 := bb_ BK476 hb; replace HB := bs_ HB hb; clear hb hbox hg; have hnb72 := NB482_467.out; have hnc72 := NB467_482.out; have hnb73 := NB482_468.out; have hnc73 := NB468_482.out; have hnb74 := NB482_469.out; have hnc74 := NB469_482.out; have hnb75 := NB482_476.out; have hnc75 := NB476_482.out; obtain ⟨hcz76_0, hcz76_1, hcz76_2, hcz76_3, hfz76_0, hfz76_1, hfz76_2, hfz76_3⟩ := c4_ BK482))
      have n0_ : Aside0 (((((w71.setCell ⟨gb482, 0, none⟩ (.bool t477)).setCell ⟨gb482, 1, none⟩ (.int .u64 t478)).setCell ⟨gb482, 2, none⟩ (.int .u64 t479)).setCell ⟨gb482, 3, none⟩ (.int .i64 t480)).heap[gb467]? = some (.cells #[.bool a0_0, .int .u64 a0_1, .int .u64 a0_2] 26 (0, 0))) := ⟨by refine pw_ ?_; refine blk_far ?_ NB467_482.out _; refine pw_ ?_; refine blk_far ?_ NB467_482.out _; refine pw_ ?_; refine blk_far ?_ NB467_482.out _; refine pw_ ?_; refine blk_far ?_ NB467_482.out _; refine pw_ ?_; exact BK467.out⟩
      have n1_ : Aside0 (((((w71.setCell ⟨gb482, 0, none⟩ (.bool t477)).setCell ⟨gb482, 1, none⟩ (.int .u64 t478)).setCell ⟨gb482, 2, none⟩ (.int .u64 t479)).setCell ⟨gb482, 3, none⟩ (.int .i64 t480)).heap[gb468]? = some (.cells #[.bool a1_0, .int .u64 a1_1, .int .u64 a1_2] 26 (0, 0))) := ⟨by refine pw_ ?_; refine blk_far ?_ NB468_482.out _; refine pw_ ?_; refine blk_far ?_ NB468_482.out _; refine pw_ ?_; refine blk_far ?_ NB468_482.out _; refine pw_ ?_; refine blk_far ?_ NB468_482.out _; refine pw_ ?_; exact BK468.out⟩
      have n2_ : Aside0 (((((w71.setCell ⟨gb482, 0, none⟩ (.bool t477)).setCell ⟨gb482, 1, none⟩ (.int .u64 t478)).setCell ⟨gb482, 2, none⟩ (.int .u64 t479)).setCell ⟨gb482, 3, none⟩ (.int .i64 t480)).heap[gb469]? = some (.cells #[.bool false, .int .u64 0, .int .u64 0, .int .i64 0] 38 (0, 0))) := ⟨by refine pw_ ?_; refine blk_far ?_ NB469_482.out _; refine pw_ ?_; refine blk_far ?_ NB469_482.out _; refine pw_ ?_; refine blk_far ?_ NB469_482.out _; refine pw_ ?_; refine blk_far ?_ NB469_482.out _; refine pw_ ?_; exact BK469.out⟩
      have n3_ : Aside0 (((((w71.setCell ⟨gb482, 0, none⟩ (.bool t477)).setCell ⟨gb482, 1, none⟩ (.int .u64 t478)).setCell ⟨gb482, 2, none⟩ (.int .u64 t479)).setCell ⟨gb482, 3, none⟩ (.int .i64 t480)).heap[gb476]? = some (.cells #[.bool x477000_1, .int .u64 x477001_1, .int .u64 x477002_1, .int .i64 x477003_1] 38 (0, 0))) := ⟨by refine pw_ ?_; refine blk_far ?_ NB476_482.out _; refine pw_ ?_; refine blk_far ?_ NB476_482.out _; refine pw_ ?_; refine blk_far ?_ NB476_482.out _; refine pw_ ?_; refine blk_far ?_ NB476_482.out _; refine pw_ ?_; exact BK476.out⟩
      have n4_ : Aside0 (((((w71.setCell ⟨gb482, 0, none⟩ (.bool t477)).setCell ⟨gb482, 1, none⟩ (.int .u64 t478)).setCell ⟨gb482, 2, none⟩ (.int .u64 t479)).setCell ⟨gb482, 3, none⟩ (.int .i64 t480)).heap[gb482]? = some (.cells #[.bool t477, .int .u64 t478, .int .u64 t479, .int .i64 t480] 38 (0, 0))) := ⟨by refine pw_ ?_; refine blk_put (cs := #[.bool t477, .int .u64 t478, .int .u64 t479, .int .i64 0]) ?_ 3 _ rfl; refine pw_ ?_; refine blk_put (cs := #[.bool t477, .int .u64 t478, .int .u64 0, .int .i64 0]) ?_ 2 _ rfl; refine pw_ ?_; refine blk_put (cs := #[.bool t477, .int .u64 0, .int .u64 0, .int .i64 0]) ?_ 1 _ rfl; refine pw_ ?_; refine blk_put (cs := #[.bool false, .int .u64 0, .int .u64 0, .int .i64 0]) ?_ 0 _ rfl; refine pw_ ?_; exact BK482.out⟩
      have n5_ : Aside0 (Below w.heap.size w ((((w71.setCell ⟨gb482, 0, none⟩ (.bool t477)).setCell ⟨gb482, 1, none⟩ (.int .u64 t478)).setCell ⟨gb482, 2, none⟩ (.int .u64 t479)).setCell ⟨gb482, 3, none⟩ (.int .i64 t480))) := ⟨pb_ HB⟩
      (try clear BK467)
      (try clear BK468)
      (try clear BK469)
      (try clear BK476)
      (try clear BK482)
      (try clear HB)
      generalize ((((w71.setCell ⟨gb482, 0, none⟩ (.bool t477)).setCell ⟨gb482, 1, none⟩ (.int .u64 t478)).setCell ⟨gb482, 2, none⟩ (.int .u64 t479)).setCell ⟨gb482, 3, none⟩ (.int .i64 t480)) = w77 at n0_ n1_ n2_ n3_ n4_ n5_ ⊢
      have BK467 := n0_
      have BK468 := n1_
      have BK469 := n2_
      have BK476 := n3_
      have BK482 := n4_
      have HB := n5_
      clear n0_ n1_ n2_ n3_ n4_ n5_
      replace BK467 := Aside0.mk (blk_drew BK467.out)
      replace BK468 := Aside0.mk (blk_drew BK468.out)
      replace BK469 := Aside0.mk (blk_drew BK469.out)
      replace BK476 := Aside0.mk (blk_drew BK476.out)
      replace BK482 := Aside0.mk (blk_drew BK482.out)
      replace HB := Aside0.mk (below_drew1 HB.out)
      refine start_ (n := 11) (S := fun w' => w'.cell? ⟨gb482, 0, none⟩ = some (.bool t477) ∧ w'.cell? ⟨gb482, 1, none⟩ = some (.int .u64 t478) ∧ w'.cell? ⟨gb482, 2, none⟩ = some (.int .u64 t479) ∧ w'.cell? ⟨gb482, 3, none⟩ = some (.int .i64 t480) ∧ w'.cell? ⟨gb467, 0, none⟩ = some (.bool a0_0) ∧ w'.cell? ⟨gb467, 1, none⟩ = some (.int .u64 a0_1) ∧ w'.cell? ⟨gb467, 2, none⟩ = some (.int .u64 a0_2) ∧ w'.cell? ⟨gb468, 0, none⟩ = some (.bool a1_0) ∧ w'.cell? ⟨gb468, 1, none⟩ = some (.int .u64 a1_1) ∧ w'.cell? ⟨gb468, 2, none⟩ = some (.int .u64 a1_2)) (ds := []) (bm_ 11 0) (by kernel_rfl) rfl rfl ⟨kc_ BK482 0, kc_ BK482 1, kc_ BK482 2, kc_ BK482 3, kc_ BK467 0, kc_ BK467 1, kc_ BK467 2, kc_ BK468 0, kc_ BK468 1, kc_ BK468 2⟩ (fun hHeld => ?_); refine with_tabW carve_widest.tab4 carve_widest.bits4 (fun HT_ HW_ => ?_)
      generalize w77.drew = w78 at BK467 BK468 BK469 BK476 BK482 HB hHeld ⊢
      refine pu_ 0 (some 27) (bm_ 11 1) rfl HT_ ⟨by rfl, by intro w'; go_simp; with_reducible rfl⟩ ?_
      refine ta_ 1 (some 28) (bm_ 11 3) rfl HT_ HW_ ⟨by rfl, by rintro w' ⟨s0, s1, s2, s3, s4, s5, s6, s7, s8, s9⟩; go_simp; with_reducible rfl⟩ hHeld ?_
      refine ta_ 2 (some 29) (bm_ 11 7) rfl HT_ HW_ ⟨by rfl, by rintro w' ⟨s0, s1, s2, s3, s4, s5, s6, s7, s8, s9⟩; go_simp; with_reducible rfl⟩ hHeld ?_
      refine pu_ 3 (some 30) (bm_ 11 15) rfl HT_ ⟨by rfl, by intro w'; go_simp; with_reducible rfl⟩ ?_
      refine pu_ 4 (some 31) (bm_ 11 31) rfl HT_ ⟨by rfl, by intro w'; go_simp; with_reducible rfl⟩ ?_
      refine ta_ 5 (some 32) (bm_ 11 63) rfl HT_ HW_ ⟨by rfl, by rintro w' ⟨s0, s1, s2, s3, s4, s5, s6, s7, s8, s9⟩; go_simp; with_reducible rfl⟩ hHeld ?_
      refine ta_ 7 (some 34) (bm_ 11 191) rfl HT_ HW_ ⟨by rfl, by rintro w' ⟨s0, s1, s2, s3, s4, s5, s6, s7, s8, s9⟩; go_simp; with_reducible rfl⟩ hHeld ?_
      refine one_ (i := 6) (N := some 33) (bm_ 11 255) rfl rfl (one_of HT_.out (by kernel_rfl)) (by decide) (fun K hK => ?_)
      refine gr_ Tryz.func38 #[.agg #[.bool t477, .int .u64 t478, .int .u64 t479, .int .i64 t480]] ?_
      with_reducible refine (prefix_Last.calls t477 t478 t479 t480 t483 t484 t485 _ A39.out).mono ?_
      rintro e w79 ⟨rfl, hb⟩
      refine ⟨_, rfl, ?_⟩
      replace BK467 := bb_ BK467 hb
      replace BK468 := bb_ BK468 hb
      replace BK469 := bb_ BK469 hb
      replace BK476 := bb_ BK476 hb
      replace BK482 := bb_ BK482 hb
      replace HB := bs_ HB hb
      (try clear hb)
      (try clear hb2)
      (try clear hk)
      (try clear hi)
      refine hK.out _ _ ⟨kc_ BK482 0, kc_ BK482 1, kc_ BK482 2, kc_ BK482 3, kc_ BK467 0, kc_ BK467 1, kc_ BK467 2, kc_ BK468 0, kc_ BK468 1, kc_ BK468 2⟩ (fun hHeld => ?_)
      clear hK K
      refine norm_ (a' := ?_) ?_ ?_
      rotate_left
      ·
       show Act.put _ (some 33) _ = _
       simp only [Act.put, List.setIfInBounds_toArray, List.set_cons_zero, List.set_cons_succ, i64_w, i32_w]
       rfl
      refine one_ (i := 8) (N := some 35) (bm_ 11 511) rfl rfl (one_of HT_.out (by kernel_rfl)) (by decide) (fun K hK => ?_)
      refine gr_ Tryz.func20 #[.agg #[.bool t483, .int .u64 t484, .int .u64 t485], .agg #[.bool a1_0, .int .u64 a1_1, .int .u64 a1_2]] ?_
      with_reducible refine (addr_Cmp.calls t483 t484 t485 a1_0 a1_1 a1_2 t486 _ A40.out).mono ?_
      rintro e w80 ⟨rfl, hb⟩
      refine ⟨_, rfl, ?_⟩
      replace BK467 := bb_ BK467 hb
      replace BK468 := bb_ BK468 hb
      replace BK469 := bb_ BK469 hb
      replace BK476 := bb_ BK476 hb
      replace BK482 := bb_ BK482 hb
      replace HB := bs_ HB hb
      (try clear hb)
      (try clear hb2)
      (try clear hk)
      (try clear hi)
      refine hK.out _ _ ⟨kc_ BK482 0, kc_ BK482 1, kc_ BK482 2, kc_ BK482 3, kc_ BK467 0, kc_ BK467 1, kc_ BK467 2, kc_ BK468 0, kc_ BK468 1, kc_ BK468 2⟩ (fun hHeld => ?_)
      clear hK K
      refine norm_ (a' := ?_) ?_ ?_
      rotate_left
      ·
       show Act.put _ (some 35) _ = _
       simp only [Act.put, List.setIfInBounds_toArray, List.set_cons_zero, List.set_cons_succ, i64_w, i32_w]
       rfl
      refine pu_ 9 (some 36) (bm_ 11 1023) rfl HT_ ⟨by rfl, by intro w'; go_simp; with_reducible rfl⟩ ?_
      refine pu_ 10 (some 37) (bm_ 11 2047) rfl HT_ ⟨by rfl, by intro w'; go_simp; with_reducible rfl⟩ ?_
      refine done_ (done_of HT_.out (by kernel_rfl)) ?_
      obtain ⟨hcz81_0, hcz81_1, hcz81_2, hcz81_3, hfz81_0, hfz81_1, hfz81_2, hfz81_3⟩ := c4_ BK482
      obtain ⟨hcz82_0, hcz82_1, hcz82_2, hcz82_3, hfz82_0, hfz82_1, hfz82_2, hfz82_3⟩ := c4_ BK476
      try go_wp2
      go_roundg k1
      case measure => have := HK1.out; omega
      case rel => exact ⟨(t477), (t478), (t479), (t480), H', ⟨by have := HK1.out; omega⟩, ⟨by refine pw_ ?_; refine blk_far ?_ NB467_476.out _; refine pw_ ?_; refine blk_far ?_ NB467_476.out _; refine pw_ ?_; refine blk_far ?_ NB467_476.out _; refine pw_ ?_; refine blk_far ?_ NB467_476.out _; refine pw_ ?_; exact BK467.out⟩, ⟨by refine pw_ ?_; refine blk_far ?_ NB468_476.out _; refine pw_ ?_; refine blk_far ?_ NB468_476.out _; refine pw_ ?_; refine blk_far ?_ NB468_476.out _; refine pw_ ?_; refine blk_far ?_ NB468_476.out _; refine pw_ ?_; exact BK468.out⟩, ⟨by refine pw_ ?_; refine blk_far ?_ NB469_476.out _; refine pw_ ?_; refine blk_far ?_ NB469_476.out _; refine pw_ ?_; refine blk_far ?_ NB469_476.out _; refine pw_ ?_; refine blk_far ?_ NB469_476.out _; refine pw_ ?_; exact BK469.out⟩, ⟨by refine pw_ ?_; refine blk_put (cs := #[.bool t477, .int .u64 t478, .int .u64 t479, .int .i64 x477003_1]) ?_ 3 _ rfl; refine pw_ ?_; refine blk_put (cs := #[.bool t477, .int .u64 t478, .int .u64 x477002_1, .int .i64 x477003_1]) ?_ 2 _ rfl; refine pw_ ?_; refine blk_put (cs := #[.bool t477, .int .u64 x477001_1, .int .u64 x477002_1, .int .i64 x477003_1]) ?_ 1 _ rfl; refine pw_ ?_; refine blk_put (cs := #[.bool x477000_1, .int .u64 x477001_1, .int .u64 x477002_1, .int .i64 x477003_1]) ?_ 0 _ rfl; refine pw_ ?_; exact BK476.out⟩, ⟨pb_ HB⟩⟩
   ·
    rw [if_neg c17] at H
    have c17b0 : decide (0 < x477003_1) = false := decide_eq_false c17
    clear c17
    simp only [Option.some.injEq, Prod.mk.injEq] at H
    obtain ⟨rfl, rfl, rfl, rfl⟩ := H
    have hnb83 := NB476_467.out
    have hnc83 := NB467_476.out
    have hnb84 := NB476_468.out
    have hnc84 := NB468_476.out
    have hnb85 := NB476_469.out
    have hnc85 := NB469_476.out
    obtain ⟨hcz86_0, hcz86_1, hcz86_2, hcz86_3, hfz86_0, hfz86_1, hfz86_2, hfz86_3⟩ := c4_ BK476
    have hnb87 := NB469_467.out
    have hnc87 := NB467_469.out
    have hnb88 := NB469_468.out
    have hnc88 := NB468_469.out
    obtain ⟨hcz89_0, hcz89_1, hcz89_2, hcz89_3, hfz89_0, hfz89_1, hfz89_2, hfz89_3⟩ := c4_ BK469
    go_wp2
    refine bodyPost_ret (results_cell_row rfl _ _ gb469 38 #[.bool x477000_1, .int .u64 x477001_1, .int .u64 x477002_1, .int .i64 x477003_1] (0, 0) _ rfl (by refine pw_ ?_; refine blk_put (cs := #[.bool x477000_1, .int .u64 x477001_1, .int .u64 x477002_1, .int .i64 0]) ?_ 3 _ rfl; refine pw_ ?_; refine blk_put (cs := #[.bool x477000_1, .int .u64 x477001_1, .int .u64 0, .int .i64 0]) ?_ 2 _ rfl; refine pw_ ?_; refine blk_put (cs := #[.bool x477000_1, .int .u64 0, .int .u64 0, .int .i64 0]) ?_ 1 _ rfl; refine pw_ ?_; refine blk_put (cs := #[.bool false, .int .u64 0, .int .u64 0, .int .i64 0]) ?_ 0 _ rfl; refine pw_ ?_; exact BK469.out) Tryz.underlying38 rfl (by kernel_rfl)) rfl ?_
    exact ⟨by first | rfl | (simp [errW_none, errW_some] <;> rfl) | (simp [*, errW_none, errW_some] <;> rfl), pb_ HB⟩

end Go.Proofs.YtgdgklibilddgaaGreatDoor.PPr

namespace Go.Proofs.YtgdgklibilddgaaGreatDoor.PPr
open Go.RowKit Go.Proofs.YtgdgklibilddgaaGreatDoorW.PrintWords Go.Proofs.YtgdgklibilddgaaGreatDoorW.PrintLast Go.Proofs.YtgdgklibilddgaaGreatDoorW.PrintMore
attribute [local go_sem] max2_int min2_int max_two min_two max_three min_three max_four min_four   -- for this text's walks alone

attribute [local go_sem high] eqA26
mutual
def carve_Spread.j0 : Nat → Bool → Bool → Int → Int → Bool → Int → Int → Option ((List (S38)) × Int)
 | 0, _, _, _, _, _, _, _ => none
 | k + 1, x29, x488000, x488001, x488002, x489000, x489001, x489002 => if x29 = true then (some (([] : List (S38)), 1)) else (carve_Spread.l0 k ([] : List (S38)) x488000 x488001 x488002 x489000 x489001 x489002)
def carve_Spread.l0 : Nat → List (S38) → Bool → Int → Int → Bool → Int → Int → Option ((List (S38)) × Int)
 | 0, _, _, _, _, _, _, _ => none
 | k + 1, x6, x488000, x488001, x488002, x489000, x489001, x489002 => (carve_widest.f k x488000 x488001 x488002 x489000 x489001 x489002).bind fun bt492 => (if x6.length < 4398046511104 then ((some (x6 ++ [(⟨(⟨bt492.1, (⟨bt492.2.1, bt492.2.2.1⟩ : S24)⟩ : S26), bt492.2.2.2⟩ : S38)] : List (S38))).bind fun y497 => ((prefix_Last.f bt492.1 bt492.2.1 bt492.2.2.1 bt492.2.2.2).bind fun bt500 => (if (bt500.1 == x489000 && ((bt500.2.1 == x489001 && (bt500.2.2 == x489002)))) = true then (some (y497, 0)) else ((num_Of.f 1).bind fun bt504 => ((addr_Plus.f bt500.1 bt500.2.1 bt500.2.2 bt504.1 bt504.2).bind fun bt506 => (carve_Spread.l0 k y497 bt506.1 bt506.2.1 bt506.2.2.1 x489000 x489001 x489002)))))) else (none))
end
def carve_Spread.f (k : Nat) (a0_0 : Bool) (a0_1 : Int) (a0_2 : Int) (a1_0 : Bool) (a1_1 : Int) (a1_2 : Int) : Option ((List (S38)) × Int) := (addr_Right.f a0_0 a0_1 a0_2).bind fun t489 => (if t489 = true then ((addr_Right.f a1_0 a1_1 a1_2).bind fun t490 => (if t490 = true then (if (a0_0 != a1_0) = true then (carve_Spread.j0 k true a0_0 a0_1 a0_2 a1_0 a1_1 a1_2) else ((addr_Cmp.f a0_0 a0_1 a0_2 a1_0 a1_1 a1_2).bind fun t491 => (carve_Spread.j0 k (decide (t491 > 0)) a0_0 a0_1 a0_2 a1_0 a1_1 a1_2))) else (carve_Spread.j0 k true a0_0 a0_1 a0_2 a1_0 a1_1 a1_2))) else (carve_Spread.j0 k true a0_0 a0_1 a0_2 a1_0 a1_1 a1_2))
set_option maxHeartbeats 8000000 in
set_option maxRecDepth 100000 in
theorem carve_Spread.calls (k : Nat) (a0_0 : Bool) (a0_1 : Int) (a0_2 : Int) (a1_0 : Bool) (a1_1 : Int) (a1_2 : Int) (r1 : List (S38)) (r2 : Int) (w : World) (h : carve_Spread.f k a0_0 a0_1 a0_2 a1_0 a1_1 a1_2 = some (r1, r2)) :
  Calls Tryz.prog 58 #[.agg #[.bool a0_0, .int .u64 a0_1, .int .u64 a0_2], .agg #[.bool a1_0, .int .u64 a1_1, .int .u64 a1_2]] w fun e w' => ∃ v0_ : Value, e = .returned (.tuple #[v0_, .int .i64 r2]) ∧ Kd.R k38 38 w' w.heap.size (fun _ => True) v0_ r1 ∧ Below w.heap.size w w' := by
 have hu26 := Tryz.underlying26
 have hu38 := Tryz.underlying38
 have HB := Aside0.mk (Below.refl w.heap.size w)
 have H : ((addr_Right.f a0_0 a0_1 a0_2).bind fun t489 => (if t489 = true then ((addr_Right.f a1_0 a1_1 a1_2).bind fun t490 => (if t490 = true then (if (a0_0 != a1_0) = true then (carve_Spread.j0 k true a0_0 a0_1 a0_2 a1_0 a1_1 a1_2) else ((addr_Cmp.f a0_0 a0_1 a0_2 a1_0 a1_1 a1_2).bind fun t491 => (carve_Spread.j0 k (decide (t491 > 0)) a0_0 a0_1 a0_2 a1_0 a1_1 a1_2))) else (carve_Spread.j0 k true a0_0 a0_1 a0_2 a1_0 a1_1 a1_2))) else (carve_Spread.j0 k true a0_0 a0_1 a0_2 a1_0 a1_1 a1_2))) = some (r1, r2) := h
 clear h
 have HC3 := Aside0.mk H
 clear H
 go_enter Tryz.func58, Tryz.ntmps58
 go_upto_region 1 with (first | ((with_reducible refine gate_dst (N := 2) rfl ?_); refine bx_ 2 #[.bool a0_0, .int .u64 a0_1, .int .u64 a0_2] 26 ?_; intro gb487 hg w4 hbox hb; have BK487 := Aside0.mk (hbox); have GW487 := gw_ HB hg; have GE487 := gw_ HB hg; replace HB := bs_ HB hb; clear hb hbox hg) | ((with_reducible refine gate_dst (N := 3) rfl ?_); refine bx_ 3 #[.bool a1_0, .int .u64 a1_1, .int .u64 a1_2] 26 ?_; intro gb488 hg w5 hbox hb; have BK488 := Aside0.mk (hbox); have GW488 := gw_ HB hg; have GE488 := gw_ HB hg; have NB487_488 := nl_ BK487 hg; have NB488_487 := ng_ BK487 hg; replace BK487 := bb_ BK487 hb; replace HB := bs_ HB hb; clear hb hbox hg))
 (try simp only [Act.put, List.setIfInBounds_toArray, List.set_cons_zero, List.set_cons_succ])
 go_cut [29] (fun v29 wc => ∃ (kq : Nat) (x29_2 : Bool), v29 = .bool x29_2 ∧ Aside0 (carve_Spread.j0 kq x29_2 a0_0 a0_1 a0_2 a1_0 a1_1 a1_2 = some (r1, r2)) ∧ Aside0 (kq ≤ k) ∧ Aside0 (wc.heap[gb487]? = some (.cells #[.bool a0_0, .int .u64 a0_1, .int .u64 a0_2] 26 (0, 0))) ∧ Aside0 (wc.heap[gb488]? = some (.cells #[.bool a1_0, .int .u64 a1_1, .int .u64 a1_2] 26 (0, 0))) ∧ Aside0 (Below w.heap.size w wc))
 case first =>
  have H := HC3.out
  clear HC3
  replace H := Option.bind_eq_some_iff.mp H
  obtain ⟨t489, A60, H⟩ := H
  replace H : (if t489 = true then ((addr_Right.f a1_0 a1_1 a1_2).bind fun t490 => (if t490 = true then (if (a0_0 != a1_0) = true then (carve_Spread.j0 k true a0_0 a0_1 a0_2 a1_0 a1_1 a1_2) else ((addr_Cmp.f a0_0 a0_1 a0_2 a1_0 a1_1 a1_2).bind fun t491 => (carve_Spread.j0 k (decide (t491 > 0)) a0_0 a0_1 a0_2 a1_0 a1_1 a1_2))) else (carve_Spread.j0 k true a0_0 a0_1 a0_2 a1_0 a1_1 a1_2))) else (carve_Spread.j0 k true a0_0 a0_1 a0_2 a1_0 a1_1 a1_2)) = some (r1, r2) := H
  have A6 := Aside0.mk A60
  clear A60
  by_cases c7 : t489 = true
  ·
   subst c7
   rw [if_pos rfl] at H
   replace H := Option.bind_eq_some_iff.mp H
   obtain ⟨t490, A80, H⟩ := H
   replace H : (if t490 = true then (if (a0_0 != a1_0) = true then (carve_Spread.j0 k true a0_0 a0_1 a0_2 a1_0 a1_1 a1_2) else ((addr_Cmp.f a0_0 a0_1 a0_2 a1_0 a1_1 a1_2).bind fun t491 => (carve_Spread.j0 k (decide (t491 > 0)) a0_0 a0_1 a0_2 a1_0 a1_1 a1_2))) else (carve_Spread.j0 k true a0_0 a0_1 a0_2 a1_0 a1_1 a1_2)) = some (r1, r2) := H
   have A8 := Aside0.mk A80
   clear A80
   by_cases c9 : t490 = true
   ·
    subst c9
    rw [if_pos rfl] at H
    by_cases c10 : (a0_0 != a1_0) = true
    ·
     rw [if_pos c10] at H
     have c10b0 : (a0_0 != a1_0) = true := c10
     (try (have c10b1 : decide (a0_0 = a1_0) = false := by simpa using c10))
     (try (have c10b2 : (a0_0 == a1_0) = false := by simpa using c10))
     (try (have c10b3 : ¬ (a0_0 = a1_0) := by simpa using c10))
     clear c10
     (first | rw [c10b0] | (simp only [i64_w, i32_w]; rw [c10b0]) | skip)
     have H' := Aside0.mk H
     clear H
     have hnb11 := NB487_488.out
     have hnc11 := NB488_487.out
     obtain ⟨hcz12_0, hcz12_1, hcz12_2, hfz12_0, hfz12_1, hfz12_2⟩ := c3_ BK487
     go_wp2_with (first | ((with_reducible refine gate_callee (f := 18) rfl ?_); refine gl_ (some 10) Tryz.func18 #[.agg #[.bool a0_0, .int .u64 a0_1, .int .u64 a0_2]] ?_; (with_reducible refine (addr_Right.calls a0_0 a0_1 a0_2 true _ A6.out).mono ?_); rintro e w13 ⟨rfl, hb⟩; refine ⟨_, rfl, ?_⟩; replace BK487 := bb_ BK487 hb; replace BK488 := bb_ BK488 hb; replace HB := bs_ HB hb; (try clear hb); (try clear hb2); (try clear hk); (try clear hi); obtain ⟨hcz14_0, hcz14_1, hcz14_2, hfz14_0, hfz14_1, hfz14_2⟩ := c3_ BK488) | (go_at_call 18; (with_reducible refine (addr_Right.calls a1_0 a1_1 a1_2 true _ A8.out).mono ?_); rintro e w15 ⟨rfl, hb⟩; replace BK487 := bb_ BK487 hb; replace BK488 := bb_ BK488 hb; replace HB := bs_ HB hb; (try clear hb); (try clear hb2); (try clear hk); (try clear hi); obtain ⟨hcz16_0, hcz16_1, hcz16_2, hfz16_0, hfz16_1, hfz16_2⟩ := c3_ BK487; obtain ⟨hcz17_0, hcz17_1, hcz17_2, hfz17_0, hfz17_1, hfz17_2⟩ := c3_ BK488))
     go_meet
     case rel => exact ⟨_, (true), (by first | rfl | (simp; done) | (simp [*]; done)), H', ⟨by first | omega | exact Nat.le_refl _⟩, ⟨by refine pw_ ?_; exact BK487.out⟩, ⟨by refine pw_ ?_; exact BK488.out⟩, ⟨pb_ HB⟩⟩
    ·
     rw [if_neg c10] at H
     have c10b0 : (a0_0 != a1_0) = false := by simpa using c10
     (try (have c10b1 : decide (a0_0 = a1_0) = true := by simpa using c10))
     (try (have c10b2 : (a0_0 == a1_0) = true := by simpa using c10))
     clear c10
     (first | rw [c10b0] | (simp only [i64_w, i32_w]; rw [c10b0]) | skip)
     replace H := Option.bind_eq_some_iff.mp H
     obtain ⟨t491, A180, H⟩ := H
     replace H : (carve_Spread.j0 k (decide (t491 > 0)) a0_0 a0_1 a0_2 a1_0 a1_1 a1_2) = some (r1, r2) := H
     have A18 := Aside0.mk A180
     clear A180
     have H' := Aside0.mk H
     clear H
     have hnb19 := NB487_488.out
     have hnc19 := NB488_487.out
     obtain ⟨hcz20_0, hcz20_1, hcz20_2, hfz20_0, hfz20_1, hfz20_2⟩ := c3_ BK487
     go_wp2_with (first | ((with_reducible refine gate_callee (f := 18) rfl ?_); refine gl_ (some 10) Tryz.func18 #[.agg #[.bool a0_0, .int .u64 a0_1, .int .u64 a0_2]] ?_; (with_reducible refine (addr_Right.calls a0_0 a0_1 a0_2 true _ A6.out).mono ?_); rintro e w21 ⟨rfl, hb⟩; refine ⟨_, rfl, ?_⟩; replace BK487 := bb_ BK487 hb; replace BK488 := bb_ BK488 hb; replace HB := bs_ HB hb; (try clear hb); (try clear hb2); (try clear hk); (try clear hi); obtain ⟨hcz22_0, hcz22_1, hcz22_2, hfz22_0, hfz22_1, hfz22_2⟩ := c3_ BK488) | (go_at_call 18; (with_reducible refine (addr_Right.calls a1_0 a1_1 a1_2 true _ A8.out).mono ?_); rintro e w23 ⟨rfl, hb⟩; replace BK487 := bb_ BK487 hb; replace BK488 := bb_ BK488 hb; replace HB := bs_ HB hb; (try clear hb); (try clear hb2); (try clear hk); (try clear hi); obtain ⟨hcz24_0, hcz24_1, hcz24_2, hfz24_0, hfz24_1, hfz24_2⟩ := c3_ BK487; obtain ⟨hcz25_0, hcz25_1, hcz25_2, hfz25_0, hfz25_1, hfz25_2⟩ := c3_ BK488) | (go_at_call 20; (with_reducible refine (addr_Cmp.calls a0_0 a0_1 a0_2 a1_0 a1_1 a1_2 t491 _ A18.out).mono ?_); rintro e w26 ⟨rfl, hb⟩; replace BK487 := bb_ BK487 hb; replace BK488 := bb_ BK488 hb; replace HB := bs_ HB hb; (try clear hb); (try clear hb2); (try clear hk); (try clear hi)))
     go_meet
     case rel => exact ⟨_, (decide (t491 > 0)), (by first | rfl | (simp; done) | (simp [*]; done)), H', ⟨by first | omega | exact Nat.le_refl _⟩, ⟨by refine pw_ ?_; exact BK487.out⟩, ⟨by refine pw_ ?_; exact BK488.out⟩, ⟨pb_ HB⟩⟩
   ·
    replace c9 := Bool.eq_false_iff.mpr c9
    subst c9
    have H1 : (carve_Spread.j0 k true a0_0 a0_1 a0_2 a1_0 a1_1 a1_2) = some (r1, r2) := by rw [if_neg (show ¬ (false = true) by decide)] at H; exact H
    clear H
    have H := H1
    clear H1
    have H' := Aside0.mk H
    clear H
    have hnb27 := NB487_488.out
    have hnc27 := NB488_487.out
    obtain ⟨hcz28_0, hcz28_1, hcz28_2, hfz28_0, hfz28_1, hfz28_2⟩ := c3_ BK487
    go_wp2_with (first | ((with_reducible refine gate_callee (f := 18) rfl ?_); refine gl_ (some 10) Tryz.func18 #[.agg #[.bool a0_0, .int .u64 a0_1, .int .u64 a0_2]] ?_; (with_reducible refine (addr_Right.calls a0_0 a0_1 a0_2 true _ A6.out).mono ?_); rintro e w29 ⟨rfl, hb⟩; refine ⟨_, rfl, ?_⟩; replace BK487 := bb_ BK487 hb; replace BK488 := bb_ BK488 hb; replace HB := bs_ HB hb; (try clear hb); (try clear hb2); (try clear hk); (try clear hi); obtain ⟨hcz30_0, hcz30_1, hcz30_2, hfz30_0, hfz30_1, hfz30_2⟩ := c3_ BK488) | (go_at_call 18; (with_reducible refine (addr_Right.calls a1_0 a1_1 a1_2 false _ A8.out).mono ?_); rintro e w31 ⟨rfl, hb⟩; replace BK487 := bb_ BK487 hb; replace BK488 := bb_ BK488 hb; replace HB := bs_ HB hb; (try clear hb); (try clear hb2); (try clear hk); (try clear hi)))
    go_meet
    case rel => exact ⟨_, (true), (by first | rfl | (simp; done) | (simp [*]; done)), H', ⟨by first | omega | exact Nat.le_refl _⟩, ⟨by refine pw_ ?_; exact BK487.out⟩, ⟨by refine pw_ ?_; exact BK488.out⟩, ⟨pb_ HB⟩⟩
  ·
   replace c7 := Bool.eq_false_iff.mpr c7
   subst c7
   have H1 : (carve_Spread.j0 k true a0_0 a0_1 a0_2 a1_0 a1_1 a1_2) = some (r1, r2) := by rw [if_neg (show ¬ (false = true) by decide)] at H; exact H
   clear H
   have H := H1
   clear H1
   have H' := Aside0.mk H
   clear H
   have hnb32 := NB487_488.out
   have hnc32 := NB488_487.out
   obtain ⟨hcz33_0, hcz33_1, hcz33_2, hfz33_0, hfz33_1, hfz33_2⟩ := c3_ BK487
   go_wp2_with (first | ((with_reducible refine gate_callee (f := 18) rfl ?_); refine gl_ (some 10) Tryz.func18 #[.agg #[.bool a0_0, .int .u64 a0_1, .int .u64 a0_2]] ?_; (with_reducible refine (addr_Right.calls a0_0 a0_1 a0_2 false _ A6.out).mono ?_); rintro e w34 ⟨rfl, hb⟩; refine ⟨_, rfl, ?_⟩; replace BK487 := bb_ BK487 hb; replace BK488 := bb_ BK488 hb; replace HB := bs_ HB hb; (try clear hb); (try clear hb2); (try clear hk); (try clear hi)))
   go_meet
   case rel => exact ⟨_, (true), (by first | rfl | (simp; done) | (simp [*]; done)), H', ⟨by first | omega | exact Nat.le_refl _⟩, ⟨by refine pw_ ?_; exact BK487.out⟩, ⟨by refine pw_ ?_; exact BK488.out⟩, ⟨pb_ HB⟩⟩
 case rest =>
  clear HC3
  try clear c1
  try clear c2
  try clear p2
  try clear c3
  try clear c5
  try clear c7
  try clear c9
  try clear c10
  try clear c10b0
  try clear c10b1
  try clear c10b2
  try clear c11
  try clear c18
  try clear c19
  try clear c27
  try clear c32
  try clear hcz12_0
  try clear hcz12_1
  try clear hcz12_2
  try clear hcz14_0
  try clear hcz14_1
  try clear hcz14_2
  try clear hcz16_0
  try clear hcz16_1
  try clear hcz16_2
  try clear hcz17_0
  try clear hcz17_1
  try clear hcz17_2
  try clear hcz20_0
  try clear hcz20_1
  try clear hcz20_2
  try clear hcz22_0
  try clear hcz22_1
  try clear hcz22_2
  try clear hcz24_0
  try clear hcz24_1
  try clear hcz24_2
  try clear hcz25_0
  try clear hcz25_1
  try clear hcz25_2
  try clear hcz28_0
  try clear hcz28_1
  try clear hcz28_2
  try clear hcz30_0
  try clear hcz30_1
  try clear hcz30_2
  try clear hcz33_0
  try clear hcz33_1
  try clear hcz33_2
  try clear hfz12_0
  try clear hfz12_1
  try clear hfz12_2
  try clear hfz14_0
  try clear hfz14_1
  try clear hfz14_2
  try clear hfz16_0
  try clear hfz16_1
  try clear hfz16_2
  try clear hfz17_0
  try clear hfz17_1
  try clear hfz17_2
  try clear hfz20_0
  try clear hfz20_1
  try clear hfz20_2
  try clear hfz22_0
  try clear hfz22_1
  try clear hfz22_2
  try clear hfz24_0
  try clear hfz24_1
  try clear hfz24_2
  try clear hfz25_0
  try clear hfz25_1
  try clear hfz25_2
  try clear hfz28_0
  try clear hfz28_1
  try clear hfz28_2
  try clear hfz30_0
  try clear hfz30_1
  try clear hfz30_2
  try clear hfz33_0
  try clear hfz33_1
  try clear hfz33_2
  obtain ⟨kq, x29_2, rfl, HA, HJ2, BK487, BK488, HB⟩ := hcut
  cases kq with
  | zero => exact absurd HA.out (by simp [carve_Spread.j0])
  | succ kj2 =>
   have H := HA.out
   clear HA
   simp only [carve_Spread.j0] at H
   by_cases c35 : x29_2 = true
   ·
    subst c35
    rw [if_pos rfl] at H
    simp only [Option.some.injEq, Prod.mk.injEq] at H
    obtain ⟨rfl, rfl⟩ := H
    go_wp2
    go_ret2
    exact ⟨_, by first | rfl | (simp [errW_none, errW_some] <;> rfl) | (simp [*, errW_none, errW_some] <;> rfl), by first | exact Kd.R_nil _ _ _ _ _ | exact Kd.N_nil _ _ _ _ _ | exact Kd.V_nil _ _ _ _ _ | exact Kd.Q_nil _ _ _ _ _ | exact Kd.S_nil _ _ _ _ _, pb_ HB⟩
   ·
    replace c35 := Bool.eq_false_iff.mpr c35
    subst c35
    have H1 : (carve_Spread.l0 kj2 ([] : List (S38)) a0_0 a0_1 a0_2 a1_0 a1_1 a1_2) = some (r1, r2) := by rw [if_neg (show ¬ (false = true) by decide)] at H; exact H
    clear H
    have H := H1
    clear H1
    have H' := Aside0.mk H
    clear H
    go_wp2
    go_loopg [6] kj2 (fun kq v6 w' => ∃ (x6_2 : List (S38)) (x488000_2 : Bool) (x488001_2 : Int) (x488002_2 : Int), Aside0 (carve_Spread.l0 kq x6_2 x488000_2 x488001_2 x488002_2 a1_0 a1_1 a1_2 = some (r1, r2)) ∧ Aside0 (kq ≤ kj2) ∧ Aside0 (Kd.R k38 38 w' w.heap.size (fun _ => True) v6 x6_2) ∧ Aside0 (w'.heap[gb487]? = some (.cells #[.bool x488000_2, .int .u64 x488001_2, .int .u64 x488002_2] 26 (0, 0))) ∧ Aside0 (w'.heap[gb488]? = some (.cells #[.bool a1_0, .int .u64 a1_1, .int .u64 a1_2] 26 (0, 0))) ∧ Aside0 (Below w.heap.size w w'))
    case atStart => exact ⟨(([] : List (S38))), (a0_0), (a0_1), (a0_2), H', ⟨Nat.le_refl _⟩, ⟨by first | exact Kd.R_nil _ _ _ _ _ | exact Kd.N_nil _ _ _ _ _ | exact Kd.V_nil _ _ _ _ _ | exact Kd.Q_nil _ _ _ _ _ | exact Kd.S_nil _ _ _ _ _⟩, ⟨by refine pw_ ?_; exact BK487.out⟩, ⟨by refine pw_ ?_; exact BK488.out⟩, ⟨pb_ HB⟩⟩
    case round =>
     clear H'
     try clear c1
     try clear c2
     try clear p2
     try clear c3
     try clear c5
     try clear c7
     try clear c9
     try clear c10
     try clear c10b0
     try clear c10b1
     try clear c10b2
     try clear c11
     try clear c18
     try clear c19
     try clear c27
     try clear c32
     try clear c35
     try clear hcz12_0
     try clear hcz12_1
     try clear hcz12_2
     try clear hcz14_0
     try clear hcz14_1
     try clear hcz14_2
     try clear hcz16_0
     try clear hcz16_1
     try clear hcz16_2
     try clear hcz17_0
     try clear hcz17_1
     try clear hcz17_2
     try clear hcz20_0
     try clear hcz20_1
     try clear hcz20_2
     try clear hcz22_0
     try clear hcz22_1
     try clear hcz22_2
     try clear hcz24_0
     try clear hcz24_1
     try clear hcz24_2
     try clear hcz25_0
     try clear hcz25_1
     try clear hcz25_2
     try clear hcz28_0
     try clear hcz28_1
     try clear hcz28_2
     try clear hcz30_0
     try clear hcz30_1
     try clear hcz30_2
     try clear hcz33_0
     try clear hcz33_1
     try clear hcz33_2
     try clear hfz12_0
     try clear hfz12_1
     try clear hfz12_2
     try clear hfz14_0
     try clear hfz14_1
     try clear hfz14_2
     try clear hfz16_0
     try clear hfz16_1
     try clear hfz16_2
     try clear hfz17_0
     try clear hfz17_1
     try clear hfz17_2
     try clear hfz20_0
     try clear hfz20_1
     try clear hfz20_2
     try clear hfz22_0
     try clear hfz22_1
     try clear hfz22_2
     try clear hfz24_0
     try clear hfz24_1
     try clear hfz24_2
     try clear hfz25_0
     try clear hfz25_1
     try clear hfz25_2
     try clear hfz28_0
     try clear hfz28_1
     try clear hfz28_2
     try clear hfz30_0
     try clear hfz30_1
     try clear hfz30_2
     try clear hfz33_0
     try clear hfz33_1
     try clear hfz33_2
     try clear p2
     obtain ⟨x6_2, x488000_2, x488001_2, x488002_2, HA, HK2, HO_6, BK487, BK488, HB⟩ := hrel
     cases gk with
     | zero => exact absurd HA.out (by simp [carve_Spread.l0])
     | succ k2 =>
      have H := HA.out
      clear HA
      simp only [carve_Spread.l0] at H
      replace H := Option.bind_eq_some_iff.mp H
      obtain ⟨⟨t492, t493, t494, t495⟩, A360, H⟩ := H
      replace H : (if x6_2.length < 4398046511104 then ((some (x6_2 ++ [(⟨(⟨t492, (⟨t493, t494⟩ : S24)⟩ : S26), t495⟩ : S38)] : List (S38))).bind fun y497 => ((prefix_Last.f t492 t493 t494 t495).bind fun bt500 => (if (bt500.1 == a1_0 && ((bt500.2.1 == a1_1 && (bt500.2.2 == a1_2)))) = true then (some (y497, 0)) else ((num_Of.f 1).bind fun bt504 => ((addr_Plus.f bt500.1 bt500.2.1 bt500.2.2 bt504.1 bt504.2).bind fun bt506 => (carve_Spread.l0 k2 y497 bt506.1 bt506.2.1 bt506.2.2.1 a1_0 a1_1 a1_2)))))) else (none)) = some (r1, r2) := H
      have A36 := Aside0.mk A360
      clear A360
      by_cases c37 : x6_2.length < 4398046511104
      ·
       rw [if_pos c37] at H
       have LMc37 := Aside0.mk c37
       clear c37
       obtain ⟨y497, hy497⟩ : ∃ y_ : List (S38), y_ = (x6_2 ++ [(⟨(⟨t492, (⟨t493, t494⟩ : S24)⟩ : S26), t495⟩ : S38)]) := ⟨_, rfl⟩
       replace H : ((prefix_Last.f t492 t493 t494 t495).bind fun bt500 => (if (bt500.1 == a1_0 && ((bt500.2.1 == a1_1 && (bt500.2.2 == a1_2)))) = true then (some (y497, 0)) else ((num_Of.f 1).bind fun bt504 => ((addr_Plus.f bt500.1 bt500.2.1 bt500.2.2 bt504.1 bt504.2).bind fun bt506 => (carve_Spread.l0 k2 y497 bt506.1 bt506.2.1 bt506.2.2.1 a1_0 a1_1 a1_2))))) = some (r1, r2) := by first | (rw [hy497]; with_reducible exact H) | (have H2_ := (Option.bind_some _ _).symm.trans H; rw [hy497]; with_reducible exact H2_) | (have H2_ := (Option.bind_some _ _).symm.trans H; with_reducible exact H2_) | with_reducible exact H | (rw [hy497]; exact H) | exact H
       have Ny497 := Aside0.mk hy497
       clear hy497
       replace H := Option.bind_eq_some_iff.mp H
       obtain ⟨⟨t500, t501, t502⟩, A380, H⟩ := H
       replace H : (if (t500 == a1_0 && ((t501 == a1_1 && (t502 == a1_2)))) = true then (some (y497, 0)) else ((num_Of.f 1).bind fun bt504 => ((addr_Plus.f t500 t501 t502 bt504.1 bt504.2).bind fun bt506 => (carve_Spread.l0 k2 y497 bt506.1 bt506.2.1 bt506.2.2.1 a1_0 a1_1 a1_2)))) = some (r1, r2) := H
       have A38 := Aside0.mk A380
       clear A380
       by_cases c39 : (t500 == a1_0 && ((t501 == a1_1 && (t502 == a1_2)))) = true
       ·
        rw [if_pos c39] at H
        have c39b0 : (t500 == a1_0 && ((t501 == a1_1 && (t502 == a1_2)))) = true := c39
        (try (have c39b1 : decide (t500 = a1_0 && ((t501 == a1_1 && (t502 == a1_2)))) = true := by simpa using c39))
        (try (have c39b2 : (t500 == a1_0 && ((t501 == a1_1 && (t502 == a1_2)))) = true := by simpa using c39))
        clear c39
        simp only [Option.some.injEq, Prod.mk.injEq] at H
        obtain ⟨rfl, rfl⟩ := H
        have hnb40 := NB487_488.out
        have hnc40 := NB488_487.out
        obtain ⟨hcz41_0, hcz41_1, hcz41_2, hfz41_0, hfz41_1, hfz41_2⟩ := c3_ BK487
        obtain ⟨hcz42_0, hcz42_1, hcz42_2, hfz42_0, hfz42_1, hfz42_2⟩ := c3_ BK488
        go_wp2_with (first | ((with_reducible refine gate_callee (f := 96) rfl ?_); refine gl_ (some 32) Tryz.func96 #[.agg #[.bool x488000_2, .int .u64 x488001_2, .int .u64 x488002_2], .agg #[.bool a1_0, .int .u64 a1_1, .int .u64 a1_2]] ?_; (with_reducible refine (carve_widest.calls k2 x488000_2 x488001_2 x488002_2 a1_0 a1_1 a1_2 t492 t493 t494 t495 _ A36.out).mono ?_); rintro e w43 ⟨rfl, hb⟩; refine ⟨_, rfl, ?_⟩; replace HO_6 := Aside0.mk (Kd.R_below (by (with_reducible repeat (first | apply Kd.R_alloc | apply Kd.R_drewN | apply Kd.R_drew)); exact HO_6.out) hb); replace BK487 := bb_ BK487 hb; replace BK488 := bb_ BK488 hb; replace HB := bs_ HB hb; (try clear hb); (try clear hb2); (try clear hk); (try clear hi)) | ((with_reducible refine gate_dst (N := 7) rfl ?_); refine bx_ 7 #[.bool false, .int .u64 0, .int .u64 0, .int .i64 0] 38 ?_; intro gb496 hg w44 hbox hb; have BK496 := Aside0.mk (hbox); have GW496 := gw_ HB hg; have GE496 := gw_ HB hg; have NB487_496 := nl_ BK487 hg; have NB496_487 := ng_ BK487 hg; have NB488_496 := nl_ BK488 hg; have NB496_488 := ng_ BK488 hg; replace HO_6 := Aside0.mk (Kd.R_below (Kd.R_elderB (by (with_reducible repeat (first | apply Kd.R_alloc | apply Kd.R_drewN | apply Kd.R_drew)); exact HO_6.out) gb496 (Nat.le_of_eq hg.symm)) hb); replace BK487 := bb_ BK487 hb; replace BK488 := bb_ BK488 hb; replace HB := bs_ HB hb; clear hb hbox hg; have hnb45 := NB496_487.out; have hnc45 := NB487_496.out; have hnb46 := NB496_488.out; have hnc46 := NB488_496.out; obtain ⟨hcz47_0, hcz47_1, hcz47_2, hcz47_3, hfz47_0, hfz47_1, hfz47_2, hfz47_3⟩ := c4_ BK496) | ((with_reducible refine gate_builtin (b := .append) (xs := #[.tmp 33, .tmp 35]) rfl ?_); at_builtin; refine Kd.R_append k38 (w0 := w) w.heap.size rfl (.tmp 33) (.tmp 35) 67 38 (.agg #[(.bool false), (.int .u64 0), (.int .u64 0), (.int .i64 0)]) 32 rfl Tryz.underlying67 info38 rfl (by decide) (by omega) u6 x6_2 (⟨(⟨t492, (⟨t493, t494⟩ : S24)⟩ : S26), t495⟩ : S38) [.bool t492, .int .u64 t493, .int .u64 t494, .int .i64 t495] (fun k_ => k_ ≠ gb496) (fun _ => False) rfl (by first | (go_simp; done) | (go_simp; rfl)) ?aP (fun _ hk => hk.elim) ?aF ?aO ?aB ?aS ?aL ?_; (case aP => exact k38_mkM _ _ _ (⟨(⟨t492, (⟨t493, t494⟩ : S24)⟩ : S26), t495⟩ : S38)); (case aB => exact (pb_ HB)); (case aF => exact (fun k_ hk => Kd.freshB (g := gb496) (o := .cells #[.bool t492, .int .u64 t493, .int .u64 t494, .int .i64 t495] 38 (0, 0)) (by refine pw_ ?_; refine blk_put (cs := #[.bool t492, .int .u64 t493, .int .u64 t494, .int .i64 0]) ?_ 3 _ rfl; refine pw_ ?_; refine blk_put (cs := #[.bool t492, .int .u64 t493, .int .u64 0, .int .i64 0]) ?_ 2 _ rfl; refine pw_ ?_; refine blk_put (cs := #[.bool t492, .int .u64 0, .int .u64 0, .int .i64 0]) ?_ 1 _ rfl; refine pw_ ?_; refine blk_put (cs := #[.bool false, .int .u64 0, .int .u64 0, .int .i64 0]) ?_ 0 _ rfl; refine pw_ ?_; exact BK496.out) k_ hk)); (case aO => exact (by (with_reducible repeat (first | apply Kd.R_alloc | apply Kd.R_drewN | apply Kd.R_drew)); exact Kd.R_mono (Kd.R_far (p := ⟨gb496, 3, none⟩) (Kd.R_far (p := ⟨gb496, 2, none⟩) (Kd.R_far (p := ⟨gb496, 1, none⟩) (Kd.R_far (p := ⟨gb496, 0, none⟩) (Kd.R_mono HO_6.out (fun k_ hk => (⟨hk, hk.2⟩ : _ ∧ k_ ≠ gb496))) (fun _ hk => hk.2) (.bool t492)) (fun _ hk => hk.2) (.int .u64 t493)) (fun _ hk => hk.2) (.int .u64 t494)) (fun _ hk => hk.2) (.int .i64 t495)) (fun _ hk => hk.1.2))); (case aS => exact (below_size (pb_ HB))); (case aL => have := LMc37.out; omega); intro v498 w48 ho hb hg hat; rw [← Ny497.out] at ho; have HO499 := Aside0.mk (ho); replace BK487 := Aside0.mk (blk_grown (g := gb487) (o := .cells #[.bool x488000_2, .int .u64 x488001_2, .int .u64 x488002_2] 26 (0, 0)) (by refine pw_ ?_; refine blk_far ?_ NB487_496.out _; refine pw_ ?_; refine blk_far ?_ NB487_496.out _; refine pw_ ?_; refine blk_far ?_ NB487_496.out _; refine pw_ ?_; refine blk_far ?_ NB487_496.out _; refine pw_ ?_; exact BK487.out) hg (Kd.R_ne HO_6.out BK487.out (by decide))); replace BK488 := Aside0.mk (blk_grown (g := gb488) (o := .cells #[.bool a1_0, .int .u64 a1_1, .int .u64 a1_2] 26 (0, 0)) (by refine pw_ ?_; refine blk_far ?_ NB488_496.out _; refine pw_ ?_; refine blk_far ?_ NB488_496.out _; refine pw_ ?_; refine blk_far ?_ NB488_496.out _; refine pw_ ?_; refine blk_far ?_ NB488_496.out _; refine pw_ ?_; exact BK488.out) hg (Kd.R_ne HO_6.out BK488.out (by decide))); replace BK496 := Aside0.mk (blk_grown (g := gb496) (o := .cells #[.bool t492, .int .u64 t493, .int .u64 t494, .int .i64 t495] 38 (0, 0)) (by refine pw_ ?_; refine blk_put (cs := #[.bool t492, .int .u64 t493, .int .u64 t494, .int .i64 0]) ?_ 3 _ rfl; refine pw_ ?_; refine blk_put (cs := #[.bool t492, .int .u64 t493, .int .u64 0, .int .i64 0]) ?_ 2 _ rfl; refine pw_ ?_; refine blk_put (cs := #[.bool t492, .int .u64 0, .int .u64 0, .int .i64 0]) ?_ 1 _ rfl; refine pw_ ?_; refine blk_put (cs := #[.bool false, .int .u64 0, .int .u64 0, .int .i64 0]) ?_ 0 _ rfl; refine pw_ ?_; exact BK496.out) hg (Kd.R_away HO_6.out (fun _ hk => hk.2))); replace HB := Aside0.mk (hb); clear HO_6; clear ho hb hg hat; obtain ⟨hcz49_0, hcz49_1, hcz49_2, hcz49_3, hfz49_0, hfz49_1, hfz49_2, hfz49_3⟩ := c4_ BK496) | ((with_reducible refine gate_callee (f := 38) rfl ?_); refine gl_ (some 38) Tryz.func38 #[.agg #[.bool t492, .int .u64 t493, .int .u64 t494, .int .i64 t495]] ?_; (with_reducible refine (prefix_Last.calls t492 t493 t494 t495 t500 t501 t502 _ A38.out).mono ?_); rintro e w50 ⟨rfl, hb⟩; refine ⟨_, rfl, ?_⟩; replace HO499 := Aside0.mk (Kd.R_below (by (with_reducible repeat (first | apply Kd.R_alloc | apply Kd.R_drewN | apply Kd.R_drew)); exact HO499.out) hb); replace BK487 := bb_ BK487 hb; replace BK488 := bb_ BK488 hb; replace BK496 := bb_ BK496 hb; replace HB := bs_ HB hb; (try clear hb); (try clear hb2); (try clear hk); (try clear hi)) | ((with_reducible refine gate_dst (N := 8) rfl ?_); refine bx_ 8 #[.bool false, .int .u64 0, .int .u64 0] 26 ?_; intro gb503 hg w51 hbox hb; have BK503 := Aside0.mk (hbox); have GW503 := gw_ HB hg; have GE503 := gw_ HB hg; have NB487_503 := nl_ BK487 hg; have NB503_487 := ng_ BK487 hg; have NB488_503 := nl_ BK488 hg; have NB503_488 := ng_ BK488 hg; have NB496_503 := nl_ BK496 hg; have NB503_496 := ng_ BK496 hg; replace HO499 := Aside0.mk (Kd.R_below (by (with_reducible repeat (first | apply Kd.R_alloc | apply Kd.R_drewN | apply Kd.R_drew)); exact HO499.out) hb); replace BK487 := bb_ BK487 hb; replace BK488 := bb_ BK488 hb; replace BK496 := bb_ BK496 hb; replace HB := bs_ HB hb; clear hb hbox hg; have hnb52 := NB503_487.out; have hnc52 := NB487_503.out; have hnb53 := NB503_488.out; have hnc53 := NB488_503.out; have hnb54 := NB503_496.out; have hnc54 := NB496_503.out; obtain ⟨hcz55_0, hcz55_1, hcz55_2, hfz55_0, hfz55_1, hfz55_2⟩ := c3_ BK503; obtain ⟨hcz56_0, hcz56_1, hcz56_2, hfz56_0, hfz56_1, hfz56_2⟩ := c3_ BK488))
        go_ret2
        exact ⟨_, by first | rfl | (simp [errW_none, errW_some] <;> rfl) | (simp [*, errW_none, errW_some] <;> rfl), by (with_reducible repeat (first | apply Kd.R_alloc | apply Kd.R_drewN | apply Kd.R_drew)); exact Kd.R_mono (Kd.R_far (p := ⟨gb503, 2, none⟩) (Kd.R_far (p := ⟨gb503, 1, none⟩) (Kd.R_far (p := ⟨gb503, 0, none⟩) (Kd.R_types HO499.out BK503.out (by decide)) (fun _ hk => hk.2) (.bool t500)) (fun _ hk => hk.2) (.int .u64 t501)) (fun _ hk => hk.2) (.int .u64 t502)) (fun _ hk => trivial), pb_ HB⟩
       ·
        rw [if_neg c39] at H
        have c39b0 : (t500 == a1_0 && ((t501 == a1_1 && (t502 == a1_2)))) = false := by simpa using c39
        (try (have c39b1 : decide (t500 = a1_0 && ((t501 == a1_1 && (t502 == a1_2)))) = false := by simpa using c39))
        (try (have c39b2 : (t500 == a1_0 && ((t501 == a1_1 && (t502 == a1_2)))) = false := by simpa using c39))
        (try (have c39b3 : ¬ (t500 = a1_0 && ((t501 == a1_1 && (t502 == a1_2)))) := by simpa using c39))
        clear c39
        replace H := Option.bind_eq_some_iff.mp H
        obtain ⟨⟨t504, t505⟩, A570, H⟩ := H
        replace H : ((addr_Plus.f t500 t501 t502 t504 t505).bind fun bt506 => (carve_Spread.l0 k2 y497 bt506.1 bt506.2.1 bt506.2.2.1 a1_0 a1_1 a1_2)) = some (r1, r2) := H
        have A57 := Aside0.mk A570
        clear A570
        replace H := Option.bind_eq_some_iff.mp H
        obtain ⟨⟨t506, t507, t508, t509⟩, A580, H⟩ := H
        replace H : (carve_Spread.l0 k2 y497 t506 t507 t508 a1_0 a1_1 a1_2) = some (r1, r2) := H
        have A58 := Aside0.mk A580
        clear A580
        have H' := Aside0.mk H
        clear H
        have hnb59 := NB487_488.out
        have hnc59 := NB488_487.out
        obtain ⟨hcz60_0, hcz60_1, hcz60_2, hfz60_0, hfz60_1, hfz60_2⟩ := c3_ BK487
        obtain ⟨hcz61_0, hcz61_1, hcz61_2, hfz61_0, hfz61_1, hfz61_2⟩ := c3_ BK488
        try go_wp2_with (first | ((with_reducible refine gate_callee (f := 96) rfl ?_); refine gl_ (some 32) Tryz.func96 #[.agg #[.bool x488000_2, .int .u64 x488001_2, .int .u64 x488002_2], .agg #[.bool a1_0, .int .u64 a1_1, .int .u64 a1_2]] ?_; (with_reducible refine (carve_widest.calls k2 x488000_2 x488001_2 x488002_2 a1_0 a1_1 a1_2 t492 t493 t494 t495 _ A36.out).mono ?_); rintro e w62 ⟨rfl, hb⟩; refine ⟨_, rfl, ?_⟩; replace HO_6 := Aside0.mk (Kd.R_below (by (with_reducible repeat (first | apply Kd.R_alloc | apply Kd.R_drewN | apply Kd.R_drew)); exact HO_6.out) hb); replace BK487 := bb_ BK487 hb; replace BK488 := bb_ BK488 hb; replace HB := bs_ HB hb; (try clear hb); (try clear hb2); (try clear hk); (try clear hi)) | ((with_reducible refine gate_dst (N := 7) rfl ?_); refine bx_ 7 #[.bool false, .int .u64 0, .int .u64 0, .int .i64 0] 38 ?_; intro gb496 hg w63 hbox hb; have BK496 := Aside0.mk (hbox); have GW496 := gw_ HB hg; have GE496 := gw_ HB hg; have NB487_496 := nl_ BK487 hg; have NB496_487 := ng_ BK487 hg; have NB488_496 := nl_ BK488 hg; have NB496_488 := ng_ BK488 hg; replace HO_6 := Aside0.mk (Kd.R_below (Kd.R_elderB (by (with_reducible repeat (first | apply Kd.R_alloc | apply Kd.R_drewN | apply Kd.R_drew)); exact HO_6.out) gb496 (Nat.le_of_eq hg.symm)) hb); replace BK487 := bb_ BK487 hb; replace BK488 := bb_ BK488 hb; replace HB := bs_ HB hb; clear hb hbox hg; have hnb64 := NB496_487.out; have hnc64 := NB487_496.out; have hnb65 := NB496_488.out; have hnc65 := NB488_496.out; obtain ⟨hcz66_0, hcz66_1, hcz66_2, hcz66_3, hfz66_0, hfz66_1, hfz66_2, hfz66_3⟩ := c4_ BK496) | ((with_reducible refine gate_builtin (b := .append) (xs := #[.tmp 33, .tmp 35]) rfl ?_); at_builtin; refine Kd.R_append k38 (w0 := w) w.heap.size rfl (.tmp 33) (.tmp 35) 67 38 (.agg #[(.bool false), (.int .u64 0), (.int .u64 0), (.int .i64 0)]) 32 rfl Tryz.underlying67 info38 rfl (by decide) (by omega) u6 x6_2 (⟨(⟨t492, (⟨t493, t494⟩ : S24)⟩ : S26), t495⟩ : S38) [.bool t492, .int .u64 t493, .int .u64 t494, .int .i64 t495] (fun k_ => k_ ≠ gb496) (fun _ => False) rfl (by first | (go_simp; done) | (go_simp; rfl)) ?aP (fun _ hk => hk.elim) ?aF ?aO ?aB ?aS ?aL ?_; (case aP => exact k38_mkM _ _ _ (⟨(⟨t492, (⟨t493, t494⟩ : S24)⟩ : S26), t495⟩ : S38)); (case aB => exact (pb_ HB)); (case aF => exact (fun k_ hk => Kd.freshB (g := gb496) (o := .cells #[.bool t492, .int .u64 t493, .int .u64 t494, .int .i64 t495] 38 (0, 0)) (by refine pw_ ?_; refine blk_put (cs := #[.bool t492, .int .u64 t493, .int .u64 t494, .int .i64 0]) ?_ 3 _ rfl; refine pw_ ?_; refine blk_put (cs := #[.bool t492, .int .u64 t493, .int .u64 0, .int .i64 0]) ?_ 2 _ rfl; refine pw_ ?_; refine blk_put (cs := #[.bool t492, .int .u64 0, .int .u64 0, .int .i64 0]) ?_ 1 _ rfl; refine pw_ ?_; refine blk_put (cs := #[.bool false, .int .u64 0, .int .u64 0, .int .i64 0]) ?_ 0 _ rfl; refine pw_ ?_; exact BK496.out) k_ hk)); (case aO => exact (by (with_reducible repeat (first | apply Kd.R_alloc | apply Kd.R_drewN | apply Kd.R_drew)); exact Kd.R_mono (Kd.R_far (p := ⟨gb496, 3, none⟩) (Kd.R_far (p := ⟨gb496, 2, none⟩) (Kd.R_far (p := ⟨gb496, 1, none⟩) (Kd.R_far (p := ⟨gb496, 0, none⟩) (Kd.R_mono HO_6.out (fun k_ hk => (⟨hk, hk.2⟩ : _ ∧ k_ ≠ gb496))) (fun _ hk => hk.2) (.bool t492)) (fun _ hk => hk.2) (.int .u64 t493)) (fun _ hk => hk.2) (.int .u64 t494)) (fun _ hk => hk.2) (.int .i64 t495)) (fun _ hk => hk.1.2))); (case aS => exact (below_size (pb_ HB))); (case aL => have := LMc37.out; omega); intro v498 w67 ho hb hg hat; rw [← Ny497.out] at ho; have HO499 := Aside0.mk (ho); replace BK487 := Aside0.mk (blk_grown (g := gb487) (o := .cells #[.bool x488000_2, .int .u64 x488001_2, .int .u64 x488002_2] 26 (0, 0)) (by refine pw_ ?_; refine blk_far ?_ NB487_496.out _; refine pw_ ?_; refine blk_far ?_ NB487_496.out _; refine pw_ ?_; refine blk_far ?_ NB487_496.out _; refine pw_ ?_; refine blk_far ?_ NB487_496.out _; refine pw_ ?_; exact BK487.out) hg (Kd.R_ne HO_6.out BK487.out (by decide))); replace BK488 := Aside0.mk (blk_grown (g := gb488) (o := .cells #[.bool a1_0, .int .u64 a1_1, .int .u64 a1_2] 26 (0, 0)) (by refine pw_ ?_; refine blk_far ?_ NB488_496.out _; refine pw_ ?_; refine blk_far ?_ NB488_496.out _; refine pw_ ?_; refine blk_far ?_ NB488_496.out _; refine pw_ ?_; refine blk_far ?_ NB488_496.out _; refine pw_ ?_; exact BK488.out) hg (Kd.R_ne HO_6.out BK488.out (by decide))); replace BK496 := Aside0.mk (blk_grown (g := gb496) (o := .cells #[.bool t492, .int .u64 t493, .int .u64 t494, .int .i64 t495] 38 (0, 0)) (by refine pw_ ?_; refine blk_put (cs := #[.bool t492, .int .u64 t493, .int .u64 t494, .int .i64 0]) ?_ 3 _ rfl; refine pw_ ?_; refine blk_put (cs := #[.bool t492, .int .u64 t493, .int .u64 0, .int .i64 0]) ?_ 2 _ rfl; refine pw_ ?_; refine blk_put (cs := #[.bool t492, .int .u64 0, .int .u64 0, .int .i64 0]) ?_ 1 _ rfl; refine pw_ ?_; refine blk_put (cs := #[.bool false, .int .u64 0, .int .u64 0, .int .i64 0]) ?_ 0 _ rfl; refine pw_ ?_; exact BK496.out) hg (Kd.R_away HO_6.out (fun _ hk => hk.2))); replace HB := Aside0.mk (hb); clear HO_6; clear ho hb hg hat; obtain ⟨hcz68_0, hcz68_1, hcz68_2, hcz68_3, hfz68_0, hfz68_1, hfz68_2, hfz68_3⟩ := c4_ BK496) | ((with_reducible refine gate_callee (f := 38) rfl ?_); refine gl_ (some 38) Tryz.func38 #[.agg #[.bool t492, .int .u64 t493, .int .u64 t494, .int .i64 t495]] ?_; (with_reducible refine (prefix_Last.calls t492 t493 t494 t495 t500 t501 t502 _ A38.out).mono ?_); rintro e w69 ⟨rfl, hb⟩; refine ⟨_, rfl, ?_⟩; replace HO499 := Aside0.mk (Kd.R_below (by (with_reducible repeat (first | apply Kd.R_alloc | apply Kd.R_drewN | apply Kd.R_drew)); exact HO499.out) hb); replace BK487 := bb_ BK487 hb; replace BK488 := bb_ BK488 hb; replace BK496 := bb_ BK496 hb; replace HB := bs_ HB hb; (try clear hb); (try clear hb2); (try clear hk); (try clear hi)) | ((with_reducible refine gate_dst (N := 8) rfl ?_); refine bx_ 8 #[.bool false, .int .u64 0, .int .u64 0] 26 ?_; intro gb503 hg w70 hbox hb; have BK503 := Aside0.mk (hbox); have GW503 := gw_ HB hg; have GE503 := gw_ HB hg; have NB487_503 := nl_ BK487 hg; have NB503_487 := ng_ BK487 hg; have NB488_503 := nl_ BK488 hg; have NB503_488 := ng_ BK488 hg; have NB496_503 := nl_ BK496 hg; have NB503_496 := ng_ BK496 hg; replace HO499 := Aside0.mk (Kd.R_below (by (with_reducible repeat (first | apply Kd.R_alloc | apply Kd.R_drewN | apply Kd.R_drew)); exact HO499.out) hb); replace BK487 := bb_ BK487 hb; replace BK488 := bb_ BK488 hb; replace BK496 := bb_ BK496 hb; replace HB := bs_ HB hb; clear hb hbox hg; have hnb71 := NB503_487.out; have hnc71 := NB487_503.out; have hnb72 := NB503_488.out; have hnc72 := NB488_503.out; have hnb73 := NB503_496.out; have hnc73 := NB496_503.out; obtain ⟨hcz74_0, hcz74_1, hcz74_2, hfz74_0, hfz74_1, hfz74_2⟩ := c3_ BK503; obtain ⟨hcz75_0, hcz75_1, hcz75_2, hfz75_0, hfz75_1, hfz75_2⟩ := c3_ BK488))
        have n0_ : Aside0 (Kd.R k38 38 (((w70.setCell ⟨gb503, 0, none⟩ (.bool t500)).setCell ⟨gb503, 1, none⟩ (.int .u64 t501)).setCell ⟨gb503, 2, none⟩ (.int .u64 t502)) w.heap.size (fun k_ => k_ ≠ gb496) v498 y497) := ⟨by (with_reducible repeat (first | apply Kd.R_alloc | apply Kd.R_drewN | apply Kd.R_drew)); exact Kd.R_mono (Kd.R_far (p := ⟨gb503, 2, none⟩) (Kd.R_far (p := ⟨gb503, 1, none⟩) (Kd.R_far (p := ⟨gb503, 0, none⟩) (Kd.R_types HO499.out BK503.out (by decide)) (fun _ hk => hk.2) (.bool t500)) (fun _ hk => hk.2) (.int .u64 t501)) (fun _ hk => hk.2) (.int .u64 t502)) (fun _ hk => hk.1)⟩
        have n1_ : Aside0 ((((w70.setCell ⟨gb503, 0, none⟩ (.bool t500)).setCell ⟨gb503, 1, none⟩ (.int .u64 t501)).setCell ⟨gb503, 2, none⟩ (.int .u64 t502)).heap[gb487]? = some (.cells #[.bool x488000_2, .int .u64 x488001_2, .int .u64 x488002_2] 26 (0, 0))) := ⟨by refine pw_ ?_; refine blk_far ?_ NB487_503.out _; refine pw_ ?_; refine blk_far ?_ NB487_503.out _; refine pw_ ?_; refine blk_far ?_ NB487_503.out _; refine pw_ ?_; exact BK487.out⟩
        have n2_ : Aside0 ((((w70.setCell ⟨gb503, 0, none⟩ (.bool t500)).setCell ⟨gb503, 1, none⟩ (.int .u64 t501)).setCell ⟨gb503, 2, none⟩ (.int .u64 t502)).heap[gb488]? = some (.cells #[.bool a1_0, .int .u64 a1_1, .int .u64 a1_2] 26 (0, 0))) := ⟨by refine pw_ ?_; refine blk_far ?_ NB488_503.out _; refine pw_ ?_; refine blk_far ?_ NB488_503.out _; refine pw_ ?_; refine blk_far ?_ NB488_503.out _; refine pw_ ?_; exact BK488.out⟩
        have n3_ : Aside0 ((((w70.setCell ⟨gb503, 0, none⟩ (.bool t500)).setCell ⟨gb503, 1, none⟩ (.int .u64 t501)).setCell ⟨gb503, 2, none⟩ (.int .u64 t502)).heap[gb496]? = some (.cells #[.bool t492, .int .u64 t493, .int .u64 t494, .int .i64 t495] 38 (0, 0))) := ⟨by refine pw_ ?_; refine blk_far ?_ NB496_503.out _; refine pw_ ?_; refine blk_far ?_ NB496_503.out _; refine pw_ ?_; refine blk_far ?_ NB496_503.out _; refine pw_ ?_; exact BK496.out⟩
        have n4_ : Aside0 ((((w70.setCell ⟨gb503, 0, none⟩ (.bool t500)).setCell ⟨gb503, 1, none⟩ (.int .u64 t501)).setCell ⟨gb503, 2, none⟩ (.int .u64 t502)).heap[gb503]? = some (.cells #[.bool t500, .int .u64 t501, .int .u64 t502] 26 (0, 0))) := ⟨by refine pw_ ?_; refine blk_put (cs := #[.bool t500, .int .u64 t501, .int .u64 0]) ?_ 2 _ rfl; refine pw_ ?_; refine blk_put (cs := #[.bool t500, .int .u64 0, .int .u64 0]) ?_ 1 _ rfl; refine pw_ ?_; refine blk_put (cs := #[.bool false, .int .u64 0, .int .u64 0]) ?_ 0 _ rfl; refine pw_ ?_; exact BK503.out⟩
        have n5_ : Aside0 (Below w.heap.size w (((w70.setCell ⟨gb503, 0, none⟩ (.bool t500)).setCell ⟨gb503, 1, none⟩ (.int .u64 t501)).setCell ⟨gb503, 2, none⟩ (.int .u64 t502))) := ⟨pb_ HB⟩
        (try clear HO499)
        (try clear BK487)
        (try clear BK488)
        (try clear BK496)
        (try clear BK503)
        (try clear HB)
        generalize (((w70.setCell ⟨gb503, 0, none⟩ (.bool t500)).setCell ⟨gb503, 1, none⟩ (.int .u64 t501)).setCell ⟨gb503, 2, none⟩ (.int .u64 t502)) = w76 at n0_ n1_ n2_ n3_ n4_ n5_ ⊢
        have HO499 := n0_
        have BK487 := n1_
        have BK488 := n2_
        have BK496 := n3_
        have BK503 := n4_
        have HB := n5_
        clear n0_ n1_ n2_ n3_ n4_ n5_
        replace HO499 := Aside0.mk (Kd.R_drew HO499.out)
        replace BK487 := Aside0.mk (blk_drew BK487.out)
        replace BK488 := Aside0.mk (blk_drew BK488.out)
        replace BK496 := Aside0.mk (blk_drew BK496.out)
        replace BK503 := Aside0.mk (blk_drew BK503.out)
        replace HB := Aside0.mk (below_drew1 HB.out)
        refine start_ (n := 7) (S := fun w' => w'.cell? ⟨gb503, 0, none⟩ = some (.bool t500) ∧ w'.cell? ⟨gb503, 1, none⟩ = some (.int .u64 t501) ∧ w'.cell? ⟨gb503, 2, none⟩ = some (.int .u64 t502)) (ds := []) (bm_ 7 0) (by kernel_rfl) rfl rfl ⟨kc_ BK503 0, kc_ BK503 1, kc_ BK503 2⟩ (fun hHeld => ?_)
        generalize w76.drew = w77 at HO499 BK487 BK488 BK496 BK503 HB HO499 hHeld ⊢
        refine take_ (i := 0) (N := some 44) (v := ?_) (a' := ?_) (bm_ 7 1) rfl rfl (by kernel_rfl) (fun _ _ _ h => h) (Or.inl ⟨by rfl, ?_⟩) hHeld ?_ ?_
        rotate_left
        ·
         rintro w' ⟨s0, s1, s2⟩
         go_simp
         with_reducible rfl
        rotate_left
        ·
         simp only [Act.put, List.setIfInBounds_toArray, List.set_cons_zero, List.set_cons_succ, i64_w, i32_w]
         rfl
        refine one_ (i := 1) (N := some 45) (bm_ 7 3) rfl rfl (by kernel_rfl) (by decide) (fun K hK => ?_)
        refine gr_ Tryz.func59 #[.int .u64 1] ?_
        with_reducible refine (num_Of.calls 1 t504 t505 _ A57.out).mono ?_
        rintro e w78 ⟨rfl, hb⟩
        refine ⟨_, rfl, ?_⟩
        replace HO499 := Aside0.mk (Kd.R_below (by (with_reducible repeat (first | apply Kd.R_alloc | apply Kd.R_drewN | apply Kd.R_drew)); exact HO499.out) hb)
        replace BK487 := bb_ BK487 hb
        replace BK488 := bb_ BK488 hb
        replace BK496 := bb_ BK496 hb
        replace BK503 := bb_ BK503 hb
        replace HB := bs_ HB hb
        (try clear hb)
        (try clear hb2)
        (try clear hk)
        (try clear hi)
        refine hK.out _ _ ⟨kc_ BK503 0, kc_ BK503 1, kc_ BK503 2⟩ (fun hHeld => ?_)
        clear hK K
        refine norm_ (a' := ?_) ?_ ?_
        rotate_left
        ·
         show Act.put _ (some 45) _ = _
         simp only [Act.put, List.setIfInBounds_toArray, List.set_cons_zero, List.set_cons_succ, i64_w, i32_w]
         rfl
        refine one_ (i := 2) (N := some 46) (bm_ 7 7) rfl rfl (by kernel_rfl) (by decide) (fun K hK => ?_)
        refine gr_ Tryz.func14 #[.agg #[.bool t500, .int .u64 t501, .int .u64 t502], .agg #[.int .u64 t504, .int .u64 t505]] ?_
        with_reducible refine (addr_Plus.calls t500 t501 t502 t504 t505 t506 t507 t508 t509 _ A58.out).mono ?_
        rintro e w79 ⟨rfl, hb⟩
        refine ⟨_, rfl, ?_⟩
        replace HO499 := Aside0.mk (Kd.R_below (by (with_reducible repeat (first | apply Kd.R_alloc | apply Kd.R_drewN | apply Kd.R_drew)); exact HO499.out) hb)
        replace BK487 := bb_ BK487 hb
        replace BK488 := bb_ BK488 hb
        replace BK496 := bb_ BK496 hb
        replace BK503 := bb_ BK503 hb
        replace HB := bs_ HB hb
        (try clear hb)
        (try clear hb2)
        (try clear hk)
        (try clear hi)
        refine hK.out _ _ ⟨kc_ BK503 0, kc_ BK503 1, kc_ BK503 2⟩ (fun hHeld => ?_)
        clear hK K
        refine norm_ (a' := ?_) ?_ ?_
        rotate_left
        ·
         show Act.put _ (some 46) _ = _
         simp only [Act.put, List.setIfInBounds_toArray, List.set_cons_zero, List.set_cons_succ, i64_w, i32_w]
         rfl
        refine pure_ (i := 3) (N := some 43) (v := ?_) (a' := ?_) (bm_ 7 15) rfl rfl (by kernel_rfl) (fun _ _ _ h => h) (Or.inl ⟨by rfl, ?_⟩) ?_ ?_
        rotate_left
        ·
         intro w'
         go_simp
         with_reducible rfl
        rotate_left
        ·
         simp only [Act.put, List.setIfInBounds_toArray, List.set_cons_zero, List.set_cons_succ, i64_w, i32_w]
         rfl
        refine pure_ (i := 4) (N := some 47) (v := ?_) (a' := ?_) (bm_ 7 31) rfl rfl (by kernel_rfl) (fun _ _ _ h => h) (Or.inl ⟨by rfl, ?_⟩) ?_ ?_
        rotate_left
        ·
         intro w'
         go_simp
         with_reducible rfl
        rotate_left
        ·
         simp only [Act.put, List.setIfInBounds_toArray, List.set_cons_zero, List.set_cons_succ, i64_w, i32_w]
         rfl
        refine pure_ (i := 5) (N := some 48) (v := ?_) (a' := ?_) (bm_ 7 63) rfl rfl (by kernel_rfl) (fun _ _ _ h => h) (Or.inl ⟨by rfl, ?_⟩) ?_ ?_
        rotate_left
        ·
         intro w'
         go_simp
         with_reducible rfl
        rotate_left
        ·
         simp only [Act.put, List.setIfInBounds_toArray, List.set_cons_zero, List.set_cons_succ, i64_w, i32_w]
         rfl
        refine one_ (i := 6) (N := none) (bm_ 7 127) rfl rfl (by kernel_rfl) (by decide) (fun K hK => ?_)
        have hs80 : w79.cell? ⟨gb487, 0, none⟩ = some (.bool x488000_2) := kc_ BK487 0
        have hfs80 := blk_frozen BK487.out 0
        have hns80_1 := NB488_487.out
        have hns80_2 := NB496_487.out
        have hns80_3 := NB503_487.out
        have hms80_1 := NB487_488.out
        have hms80_2 := NB487_496.out
        have hms80_3 := NB487_503.out
        have hs81 : w79.cell? ⟨gb487, 1, none⟩ = some (.int .u64 x488001_2) := kc_ BK487 1
        have hfs81 := blk_frozen BK487.out 1
        have hns81_1 := NB488_487.out
        have hns81_2 := NB496_487.out
        have hns81_3 := NB503_487.out
        have hms81_1 := NB487_488.out
        have hms81_2 := NB487_496.out
        have hms81_3 := NB487_503.out
        have hs82 : w79.cell? ⟨gb487, 2, none⟩ = some (.int .u64 x488002_2) := kc_ BK487 2
        have hfs82 := blk_frozen BK487.out 2
        have hns82_1 := NB488_487.out
        have hns82_2 := NB496_487.out
        have hns82_3 := NB503_487.out
        have hms82_1 := NB487_488.out
        have hms82_2 := NB487_496.out
        have hms82_3 := NB487_503.out
        refine skip_ (w1 := ?_) (by rfl) rfl ?_ ?_
        rotate_left
        ·
         go_simp
         rfl
        refine hK.out _ _ ⟨((cell_far (p := ⟨gb487, _, none⟩) NB503_487.out _).trans (((cell_far (p := ⟨gb487, _, none⟩) NB503_487.out _).trans (((cell_far (p := ⟨gb487, _, none⟩) NB503_487.out _).trans (hHeld.1)))))), ((cell_far (p := ⟨gb487, _, none⟩) NB503_487.out _).trans (((cell_far (p := ⟨gb487, _, none⟩) NB503_487.out _).trans (((cell_far (p := ⟨gb487, _, none⟩) NB503_487.out _).trans (hHeld.2.1)))))), ((cell_far (p := ⟨gb487, _, none⟩) NB503_487.out _).trans (((cell_far (p := ⟨gb487, _, none⟩) NB503_487.out _).trans (((cell_far (p := ⟨gb487, _, none⟩) NB503_487.out _).trans (hHeld.2.2))))))⟩ (fun hHeld => ?_)
        clear hK K
        refine done_ (by kernel_rfl) ?_
        try go_wp2
        go_roundg k2
        case measure => have := HJ2.out; have := HK2.out; omega
        case rel => exact ⟨(y497), (t506), (t507), (t508), H', ⟨by have := HJ2.out; have := HK2.out; omega⟩, ⟨by (with_reducible repeat (first | apply Kd.R_alloc | apply Kd.R_drewN | apply Kd.R_drew)); exact Kd.R_mono (Kd.R_far (p := ⟨gb487, 2, none⟩) (Kd.R_far (p := ⟨gb487, 1, none⟩) (Kd.R_far (p := ⟨gb487, 0, none⟩) (Kd.R_types HO499.out BK487.out (by decide)) (fun _ hk => hk.2) (.bool t506)) (fun _ hk => hk.2) (.int .u64 t507)) (fun _ hk => hk.2) (.int .u64 t508)) (fun _ hk => trivial)⟩, ⟨by refine pw_ ?_; refine blk_put (cs := #[.bool t506, .int .u64 t507, .int .u64 x488002_2]) ?_ 2 _ rfl; refine pw_ ?_; refine blk_put (cs := #[.bool t506, .int .u64 x488001_2, .int .u64 x488002_2]) ?_ 1 _ rfl; refine pw_ ?_; refine blk_put (cs := #[.bool x488000_2, .int .u64 x488001_2, .int .u64 x488002_2]) ?_ 0 _ rfl; refine pw_ ?_; exact BK487.out⟩, ⟨by refine pw_ ?_; refine blk_far ?_ NB488_487.out _; refine pw_ ?_; refine blk_far ?_ NB488_487.out _; refine pw_ ?_; refine blk_far ?_ NB488_487.out _; refine pw_ ?_; exact BK488.out⟩, ⟨pb_ HB⟩⟩
      ·
       rw [if_neg c37] at H
       exact absurd H (by simp)

def addr_V4.f (a0 : Int) : Option (Bool × Int × Int) := (num_Of.f (IntKind.u64.wrap (a0))).bind fun bt511 => (some (false, bt511.1, bt511.2))
set_option maxHeartbeats 8000000 in
set_option maxRecDepth 100000 in
theorem addr_V4.calls (a0 : Int) (r1 : Bool) (r2 : Int) (r3 : Int) (w : World) (h : addr_V4.f a0 = some (r1, r2, r3)) :
  Calls Tryz.prog 88 #[.int .u32 a0] w fun e w' => e = .returned (.agg #[.bool r1, .int .u64 r2, .int .u64 r3]) ∧ Below w.heap.size w w' := by
 have hu26 := Tryz.underlying26
 have HB := Aside0.mk (Below.refl w.heap.size w)
 have H : ((num_Of.f (IntKind.u64.wrap (a0))).bind fun bt511 => (some (false, bt511.1, bt511.2))) = some (r1, r2, r3) := h
 clear h
 replace H := Option.bind_eq_some_iff.mp H
 obtain ⟨⟨t511, t512⟩, A20, H⟩ := H
 replace H : (some (false, t511, t512)) = some (r1, r2, r3) := H
 have A2 := Aside0.mk A20
 clear A20
 simp only [Option.some.injEq, Prod.mk.injEq] at H
 obtain ⟨rfl, rfl, rfl⟩ := H
 go_enter Tryz.func88, Tryz.ntmps88
 go_wp2_with (first | ((with_reducible refine gate_dst (N := 2) rfl ?_); refine bx_ 2 #[.bool false, .int .u64 0, .int .u64 0] 26 ?_; intro gb510 hg w3 hbox hb; have BK510 := Aside0.mk (hbox); have GW510 := gw_ HB hg; have GE510 := gw_ HB hg; replace HB := bs_ HB hb; clear hb hbox hg) | ((with_reducible refine gate_callee (f := 59) rfl ?_); refine gl_ (some 5) Tryz.func59 #[.int .u64 (IntKind.u64.wrap (a0))] ?_; (with_reducible refine (num_Of.calls (IntKind.u64.wrap (a0)) t511 t512 _ A2.out).mono ?_); rintro e w4 ⟨rfl, hb⟩; refine ⟨_, rfl, ?_⟩; replace BK510 := bb_ BK510 hb; replace HB := bs_ HB hb; (try clear hb); (try clear hb2); (try clear hk); (try clear hi); obtain ⟨hcz5_0, hcz5_1, hcz5_2, hfz5_0, hfz5_1, hfz5_2⟩ := c3_ BK510))
 refine bodyPost_ret (results_cell_row rfl _ _ gb510 26 #[.bool false, .int .u64 t511, .int .u64 t512] (0, 0) _ rfl (by refine pw_ ?_; refine blk_put (cs := #[.bool false, .int .u64 t511, .int .u64 0]) ?_ 2 _ rfl; refine pw_ ?_; refine blk_put (cs := #[.bool false, .int .u64 0, .int .u64 0]) ?_ 1 _ rfl; refine pw_ ?_; refine blk_put (cs := #[.bool false, .int .u64 0, .int .u64 0]) ?_ 0 _ rfl; refine pw_ ?_; exact BK510.out) Tryz.underlying26 rfl (by kernel_rfl)) rfl ?_
 exact ⟨by first | rfl | (simp [errW_none, errW_some] <;> rfl) | (simp [*, errW_none, errW_some] <;> rfl), pb_ HB⟩

end Go.Proofs.YtgdgklibilddgaaGreatDoor.PPr

