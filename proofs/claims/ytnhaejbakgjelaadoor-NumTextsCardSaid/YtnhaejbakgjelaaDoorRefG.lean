/- The walk of the reference's quotient. -/
import Derived.Test.YtnhaejbakgjelaaDoorRefF
import Derived.Laws.MakeOwn
namespace Go.Proofs.YtnhaejbakgjelaaDoor
open Go.RowKit

theorem numV_low {k : Nat} (h : k < 18446744073709551616) : numV k = .agg #[.int .u64 0, .int .u64 k] := by
  unfold numV hi lo
  rw [show k / 18446744073709551616 = 0 from by omega, show k % 18446744073709551616 = k from by omega]
  rfl
theorem refcmp_k (a k : Nat) (w : World) (ha : a < 340282366920938463463374607431768211456) (hk : k < 18446744073709551616) :
    Calls Tryd.prog 75 #[numV a, .agg #[.int .u64 0, .int .u64 k]] w fun e w' => e = .returned (.int .i64 (cmpN a k)) ∧ Below w.heap.size w w' := by
  rw [← numV_low hk]; exact refcmp_c a k w ha (by omega)
theorem refsub_k (a k : Nat) (w : World) (ha : a < 340282366920938463463374607431768211456) (hk : k < 18446744073709551616) :
    Calls Tryd.prog 76 #[numV a, .agg #[.int .u64 0, .int .u64 k]] w fun e w' => e = .returned (.tuple #[numV (subN a k), .bool (subF a k)]) ∧ Below w.heap.size w w' := by
  rw [← numV_low hk]; exact refsub_c a k w ha (by omega)
/-- the bits of the quotient that are known -/
def ovO (a k j p : Nat) : Int := if j ≤ p then bitI (a / k) p else 0
theorem ovO_all (a k p : Nat) : ovO a k 0 p = bitI (a / k) p := by unfold ovO; rw [if_pos (by omega)]
theorem ovO_none (a k : Nat) {p : Nat} (h : p < 128) : ovO a k 128 p = 0 := by unfold ovO; rw [if_neg (by omega)]
theorem ovO_step (a k j p : Nat) : ovO a k j p = if p = j then bitI (a / k) j else ovO a k (j + 1) p := by
  unfold ovO
  by_cases h : p = j
  · subst h; rw [if_pos (by omega), if_pos rfl]
  · rw [if_neg h]
    by_cases h2 : j ≤ p
    · rw [if_pos h2, if_pos (by omega)]
    · rw [if_neg h2, if_neg (by omega)]
theorem ov_two {x b : Nat} (hx : x < 18446744073709551616) (hb : b ≤ 1) : shlN x 1 = x * 2 ∧ hi (x * 2) = hi (x * 2 + b) ∧ lo (x * 2) + (b : Int) = lo (x * 2 + b) ∧ lo (x * 2) ≤ 18446744073709551614 := by
  refine ⟨?_, ?_, ?_, ?_⟩
  · have := shlN_small (a := x) (k := 1) (by omega)
    rw [show ((1 : Nat) : Int) = 1 from rfl] at this
    rw [this, Nat.pow_one]; omega
  · unfold hi; omega
  · unfold lo; omega
  · unfold lo; omega

theorem cmp_ge {x k : Nat} : decide (0 ≤ cmpN x k) = decide (k ≤ x) := by
  unfold cmpN
  rw [Bool.eq_iff_iff]
  simp only [decide_eq_true_eq]
  repeat' split
  all_goals omega
theorem subN_le {x k : Nat} (h : k ≤ x) (hx : x < 340282366920938463463374607431768211456) : subN x k = x - k := by unfold subN; omega
theorem refnum_row (g x cap : Nat) (w : World) (hx : x < 340282366920938463463374607431768211456) (hg : g < w.heap.size) (hc : ∀ j, j < 128 → w.cell? ⟨g, j, none⟩ = some (.int .i64 (bitI x j))) :
    Calls Tryd.prog 74 #[.slice (some ⟨g, 0, none⟩) 128 cap] w fun e w' => e = .returned (numV x) ∧ Below w.heap.size w w' := by
  have h := refnum_c g 0 128 cap (cutI 128 (bitI x)) w (by omega) (cutI_bd fun j _ => bitI_bd x j) (fun j hj => cutI_ge hj) hg (fun j hj => by rw [Nat.zero_add, cutI_lt hj]; exact hc j hj)
  rw [sum_cut, Nat.mod_eq_of_lt hx] at h
  exact h
/-- the row of noughts that make lays -/
def noughts : Array Value := madeCells (Value.int .i64 0).cells 128
theorem noughts_get {j : Nat} (h : j < 128) : noughts[j]? = some (.int .i64 0) := by
  simp [noughts, madeCells, Value.cells, h, Nat.mod_one]
theorem make_int128 (W : World) : (Instr.makeSlice 95 (.int .i64 128) (.int .i64 128)).run Tryd.prog W = .ok (.slice (some ⟨W.heap.size, 0, none⟩) 128 128) (W.alloc (.cells noughts 3)) := by
  obtain ⟨i0, hi0, hz0, hz1, hz2⟩ := info_parts info_int
  have h := run_make (P := Tryd.prog) W 95 3 i0 (.int .i64 0) Tryd.underlying95 hi0 hz0 .i64 .i64 128 128 (by omega) (by omega) (by rw [hz2]; decide) (by omega)
  rw [hz1] at h
  exact h
set_option maxRecDepth 100000 in
set_option maxRecDepth 20000 in
set_option maxHeartbeats 1600000 in
theorem refover_c (a k : Nat) (w : World) (ha : a < 340282366920938463463374607431768211456) (hk : k < 18446744073709551616) :
    Calls Tryd.prog 55 #[numV a, .int .u64 k] w fun e w' => e = .returned (.tuple #[numV (overQ a k), .int .u64 (overR a k : Nat)]) ∧ Below w.heap.size w w' := by
  by_cases h0 : k = 0
  · subst h0
    have d0 : (((0 : Nat) : Int) == 0) = true := rfl
    go_enter Tryd.func55, Tryd.ntmps55
    go_wp2_with fail
    refine bodyPost_ret (v := .tuple #[.agg #[.int .u64 0, .int .u64 0], .int .u64 0]) (by simp [results, Tryd.results55, go_sem]) rfl ⟨by rw [show overQ a 0 = 0 from rfl, show overR a 0 = 0 from rfl]; rfl, (by repeat (first | (with_reducible exact Below.refl _ _) | (with_reducible assumption) | (with_reducible refine bl_alloc ?_ _) | (with_reducible refine bl_drew ?_) | (with_reducible refine bl_drewN ?_ _) | (with_reducible refine bl_set ?_ (by first | (simp; done) | (simp; omega)) _) | (with_reducible refine bl_trans ?_ ‹_›)))⟩
  have d0 : ((k : Int) == 0) = false := by simp; omega
  have hq : overQ a k = a / k := by unfold overQ; rw [if_neg h0]
  have hr : overR a k = a % k := by unfold overR; rw [if_neg h0]
  rw [hq, hr]
  clear hq hr
  go_enter Tryd.func55, Tryd.ntmps55
  go_wp2_with fail
  refine (bits_f _ _ _ (hi_nn _) (hi_lt _) (lo_nn _) (lo_lt _)).mono ?_
  rw [num_hi_lo ha]
  rintro e w1 ⟨gx, cx, rfl, hcx, hgx, hgx2, hxc, _, hb1⟩
  have hz1' := hb1.size
  simp only [size_alloc'] at hz1' hgx
  have hbR : Blk w1 (w.heap.size + 1) 56 #[.int .u64 0, .int .u64 0] := (by repeat (first | (with_reducible assumption) | (with_reducible refine blk_fill (u := .int .u64 0) (v := .int .u64 0) ?_) | (with_reducible refine Blk.drew ?_) | (with_reducible refine Blk.new' _ _ _ _ (by first | (with_reducible rfl) | (simp; done))) | (with_reducible refine Blk.alloc ?_ _) | (with_reducible refine Blk.after ?_ ‹_›) | (with_reducible refine Blk.far ?_ (by first | (simp; done) | (simp; omega)) _)))
  have hbel1 : Below w.heap.size w w1 := (by repeat (first | (with_reducible exact Below.refl _ _) | (with_reducible assumption) | (with_reducible refine bl_alloc ?_ _) | (with_reducible refine bl_drew ?_) | (with_reducible refine bl_drewN ?_ _) | (with_reducible refine bl_set ?_ (by first | (simp; done) | (simp; omega)) _) | (with_reducible refine bl_trans ?_ ‹_›)))
  have HX := Lib.hid hxc
  clear hxc hb1
  have hmk := make_int128
  go_wp2_with fail
  clear hmk
  have hgo : ∀ p, p < 128 → ((w1.alloc (.cells noughts 3)).alloc (.cells #[.int .u64 0, .int .u64 0] 56)).cell? ⟨w1.heap.size, p, none⟩ = some (.int .i64 (ovO a k 128 p)) := by
    intro p hp
    rw [ovO_none a k hp, World.cell?_alloc_old _ _ _ (by simp), World.cell?_alloc_new]
    exact noughts_get hp
  have hgf : ∀ p, ((w1.alloc (.cells noughts 3)).alloc (.cells #[.int .u64 0, .int .u64 0] 56)).frozen? ⟨w1.heap.size, p, none⟩ = false := by
    intro p
    simp
  go_loopw [9] (fun i wr => ∃ j : Nat, j ≤ 128 ∧ i = .int .i64 ((j : Int) - 1) ∧ Blk wr (w1.heap.size + 1) 56 #[.int .u64 (hi (ovL a k j)), .int .u64 (lo (ovL a k j))] ∧ (∀ p, p < 128 → wr.cell? ⟨w1.heap.size, p, none⟩ = some (.int .i64 (ovO a k j p))) ∧ (∀ p, wr.frozen? ⟨w1.heap.size, p, none⟩ = false) ∧ Below w1.heap.size w1 wr) (fun i _ => (intOf i + 1).toNat)
  case atStart => exact ⟨128, by omega, rfl, by rw [ov_high ha]; exact Blk.new' _ _ _ _ (by simp), hgo, hgf, (by repeat (first | (with_reducible exact Below.refl _ _) | (with_reducible assumption) | (with_reducible refine bl_alloc ?_ _) | (with_reducible refine bl_drew ?_) | (with_reducible refine bl_drewN ?_ _) | (with_reducible refine bl_set ?_ (by first | (simp; done) | (simp; omega)) _) | (with_reducible refine bl_trans ?_ ‹_›)))⟩
  case round =>
    obtain ⟨j, hj, rfl, hbL, hO, hOf, hbel⟩ := hrel
    have hzz := hbel.size
    have hlW := hbL.lt
    have H1 := Lib.hid hO
    have H2 := Lib.hid hOf
    clear hO hOf
    by_cases h0j : j = 0
    · subst h0j
      rw [show ((0 : Nat) : Int) - 1 = (-1 : Int) from rfl]
      have hbR2 : Blk wr (w.heap.size + 1) 56 #[.int .u64 0, .int .u64 0] := hbR.after hbel
      have HE := Lib.hid (ov_end (a := a) (k := k))
      obtain ⟨l0, l1, _⟩ := blk_two hbL
      have hgR := hbR2.lt
      obtain ⟨r0, r1, _⟩ := blk_two hbR2
      have rz0 := hbR2.frozen 0
      have rz1 := hbR2.frozen 1
      have hzR : w.heap.size + 1 < w1.heap.size := hbR.lt
      have hqlt : a / k < 340282366920938463463374607431768211456 := Nat.lt_of_le_of_lt (Nat.div_le_self _ _) ha
      have hcq : ∀ p, p < 128 → wr.cell? ⟨w1.heap.size, p, none⟩ = some (.int .i64 (bitI (a / k) p)) := fun p hp => by rw [H1.out p hp, ovO_all]
      have HQ := Lib.hid hcq
      clear hcq hbR HX hgo hgf H1 H2
      go_upto_region 14 with (fail)
      go_region_held3 (fun w' => (w'.cell? ⟨(w1.heap.size + 1), 0, none⟩ = some (.int .u64 (hi (ovL a k 0))) ∧ w'.cell? ⟨(w1.heap.size + 1), 1, none⟩ = some (.int .u64 (lo (ovL a k 0))) ∧ Blk w' (w1.heap.size + 1) 56 #[.int .u64 (hi (ovL a k 0)), .int .u64 (lo (ovL a k 0))])) (exact blk_two (by repeat (first | (with_reducible assumption) | (with_reducible refine blk_fill (u := .int .u64 0) (v := .int .u64 0) ?_) | (with_reducible refine Blk.drew ?_) | (with_reducible refine Blk.new' _ _ _ _ (by first | (with_reducible rfl) | (simp; done))) | (with_reducible refine Blk.alloc ?_ _) | (with_reducible refine Blk.after ?_ ‹_›) | (with_reducible refine Blk.far ?_ (by first | (simp; done) | (simp; omega)) _))))
        (first
        | (go_at_call 74; refine (refnum_row w1.heap.size (a / k) 128 wr.drew hqlt (by first | exact Nat.lt_of_succ_lt hlW) (fun p hp => HQ.out p hp)).mono ?_; rintro e w3 ⟨rfl, hb3⟩; obtain ⟨hc3, hf3⟩ := bcell hb3; have s0 := (hc3 _ 0 hgR).trans r0; have s1 := (hc3 _ 1 hgR).trans r1; have s2 := (hf3 _ 0 hgR).trans rz0; have s3 := (hf3 _ 1 hgR).trans rz1; clear hc3 hf3))
      all_goals
        go_wp2_with fail
        have hbR3 : Blk w3 (w.heap.size + 1) 56 #[.int .u64 0, .int .u64 0] := (Blk.drew hbR2).after hb3
        obtain ⟨f0, f1, _⟩ := blk_two (blk_fill (x := .int .u64 (hi (a / k))) (y := .int .u64 (lo (a / k))) hbR3)
        have hlo : lo (ovL a k 0) = ((a % k : Nat) : Int) := by
          rw [HE.out]; unfold lo; have := Nat.mod_lt a (show 0 < k by omega); omega
        refine bodyPost_ret (v := .tuple #[numV (a / k), .int .u64 (lo (ovL a k 0))]) (by simp [results, Tryd.results55, go_sem, f0, f1]) rfl ⟨by rw [hlo], bl_set (bl_set (bl_trans (bl_drew (bl_trans hbel1 hbel)) hb3) (by simp) _) (by simp) _⟩
    · obtain ⟨m, rfl⟩ : ∃ m, j = m + 1 := ⟨j - 1, by omega⟩
      rw [show (((m + 1 : Nat) : Int) - 1) = (m : Int) from by omega]
      have dj : decide ((0 : Int) ≤ (m : Int)) = true := decide_eq_true (by omega)
      have hL0 : ovL a k (m + 1) < k := ov_lt (by omega)
      obtain ⟨q1, q2⟩ := ov_step (a := a) (k := k) (i := m) (by omega)
      obtain ⟨t1, t2, t3, t4⟩ := ov_two (x := ovL a k (m + 1)) (b := (bitI a m).toNat) (by omega) (by have := bitI_bd a m; omega)
      have Q1 := Lib.hid q1
      have Q2 := Lib.hid q2
      have T1 := Lib.hid t1
      have T2 := Lib.hid t2
      have x0 : wr.cell? ⟨gx, m, none⟩ = some (.int .i64 (bitI a m)) := (hbel.cell (p := ⟨gx, m, none⟩) hgx2).trans (HX.out m (by omega))
      obtain ⟨b1, b2⟩ := bitI_bd a m
      rw [show (((bitI a m).toNat : Nat) : Int) = bitI a m from by omega] at t3
      have T3 := Lib.hid t3
      clear t1 t2 t3 q1 q2
      obtain ⟨l0, l1, _⟩ := blk_two hbL
      have lz0 := hbL.frozen 0
      have lz1 := hbL.frozen 1
      have hlx : ovL a k (m + 1) < 340282366920938463463374607431768211456 := by omega
      go_wp2_with fail
      refine (refshift_c (ovL a k (m + 1)) 1 _ hlx).mono ?_
      rw [T1.out]
      rintro e w2 ⟨rfl, hb2⟩
      obtain ⟨hc2, hf2⟩ := bcell hb2
      have hbL2 := hbL.after hb2
      have hbel2 := bl_trans hbel hb2
      go_upto_region 10 with (fail)
      generalize hW : (w2.setCell ⟨w1.heap.size + 1, 0, none⟩ (.int .u64 (hi (ovL a k (m + 1) * 2)))).setCell ⟨w1.heap.size + 1, 1, none⟩ (.int .u64 (lo (ovL a k (m + 1) * 2))) = W3
      have hbL3 : Blk W3 (w1.heap.size + 1) 56 #[.int .u64 (hi (ovL a k (m + 1) * 2)), .int .u64 (lo (ovL a k (m + 1) * 2))] := by rw [← hW]; exact blk_fill hbL2
      have hbel3 : Below w1.heap.size w1 W3 := by rw [← hW]; exact bl_set (bl_set hbel2 (by simp) _) (by simp) _
      have hO3 : ∀ p, p < 128 → W3.cell? ⟨w1.heap.size, p, none⟩ = some (.int .i64 (ovO a k (m + 1) p)) := by
        intro p hp
        rw [← hW, World.cell?_setCell_other _ _ _ _ (by simp), World.cell?_setCell_other _ _ _ _ (by simp), hc2 _ _ (by omega)]
        exact H1.out p hp
      have hOf3 : ∀ p, W3.frozen? ⟨w1.heap.size, p, none⟩ = false := by
        intro p
        rw [← hW]
        simp only [World.frozen?_setCell]
        rw [hf2 _ _ (by omega)]
        exact H2.out p
      have HO3 := Lib.hid hO3
      have HOf3 := Lib.hid hOf3
      clear hW hbel2 hbL2 hc2 hf2 hb2 lz0 lz1 l0 l1 hlx x0 hbL H1 H2 hbel hzz hlW hO3 hOf3 hgo hgf
      generalize hX : ovL a k (m + 1) * 2 + (bitI a m).toNat = X at *
      have hX2 : X < 340282366920938463463374607431768211456 := by omega
      have x0 : W3.cell? ⟨gx, m, none⟩ = some (.int .i64 (bitI a m)) := (hbel3.cell (p := ⟨gx, m, none⟩) hgx2).trans (HX.out m (by omega))
      obtain ⟨l0, l1, _⟩ := blk_two hbL3
      have lz0 := hbL3.frozen 0
      have lz1 := hbL3.frozen 1
      have lnn := lo_nn (ovL a k (m + 1) * 2)
      have hlW := hbL3.lt
      go_region
      go_upto_region 11 with (fail)
      rw [T3.out]
      generalize hW : (W3.setCell ⟨w1.heap.size + 1, 1, none⟩ (.int .u64 (lo X))).drew = W4
      have hbL4 : Blk W4 (w1.heap.size + 1) 56 #[.int .u64 (hi X), .int .u64 (lo X)] := by rw [← hW, ← T2.out]; exact (hbL3.put 1 _).drew
      have hbel4 : Below w1.heap.size w1 W4 := by rw [← hW]; exact bl_drew (bl_set hbel3 (by simp) _)
      have hO4 : ∀ p, p < 128 → W4.cell? ⟨w1.heap.size, p, none⟩ = some (.int .i64 (ovO a k (m + 1) p)) := by
        intro p hp
        rw [← hW]
        exact (World.cell?_setCell_other _ _ _ _ (by simp)).trans (HO3.out p hp)
      have hOf4 : ∀ p, W4.frozen? ⟨w1.heap.size, p, none⟩ = false := by
        intro p
        rw [← hW]
        show (W3.setCell _ _).frozen? _ = false
        rw [World.frozen?_setCell]
        exact HOf3.out p
      have HO4 := Lib.hid hO4
      have HOf4 := Lib.hid hOf4
      clear hW hbL3 hbel3 HO3 HOf3 x0 l0 l1 lz0 lz1 lnn hlW hO4 hOf4 T1 T2 T3 t4
      clear hX
      obtain ⟨l0, l1, _⟩ := blk_two hbL4
      have hlW := hbL4.lt
      go_wp2_with fail
      refine (refcmp_k X k _ hX2 hk).mono ?_
      rintro e w5 ⟨rfl, hb5⟩
      obtain ⟨hc5, hf5⟩ := bcell hb5
      have hz5 := hb5.size
      have dc := cmp_ge (x := X) (k := k)
      have hbL5 := hbL4.after hb5
      have hbel5 := bl_trans hbel4 hb5
      have hO5 : ∀ p, p < 128 → w5.cell? ⟨w1.heap.size, p, none⟩ = some (.int .i64 (ovO a k (m + 1) p)) := by
        intro p hp
        rw [hc5 _ _ (by omega)]; exact HO4.out p hp
      have hOf5 : ∀ p, w5.frozen? ⟨w1.heap.size, p, none⟩ = false := by
        intro p
        rw [hf5 _ _ (by omega)]; exact HOf4.out p
      have HO5 := Lib.hid hO5
      have HOf5 := Lib.hid hOf5
      clear hO5 hOf5 HO4 HOf4 hbL4 hbel4 l0 l1 hc5 hf5 hb5
      by_cases hge : k ≤ X
      · have dd : decide (k ≤ X) = true := decide_eq_true hge
        rw [dd] at dc
        have q1 := Q1.out
        have q2 := Q2.out
        rw [if_pos hge] at q1 q2
        have R1 := Lib.hid q1
        have R2 := Lib.hid q2
        clear dd q1 q2 Q1 Q2
        obtain ⟨l0, l1, _⟩ := blk_two hbL5
        go_wp2_with fail
        refine (refsub_k X k _ hX2 hk).mono ?_
        rw [subN_le hge hX2, ← R1.out]
        rintro e w6 ⟨rfl, hb6⟩
        obtain ⟨hc6, hf6⟩ := bcell hb6
        have hz6 := hb6.size
        have hlW2 := hbL5.lt
        have hbL6 := hbL5.after hb6
        have hbel6 := bl_trans hbel5 hb6
        have hO6 : ∀ p, p < 128 → w6.cell? ⟨w1.heap.size, p, none⟩ = some (.int .i64 (ovO a k (m + 1) p)) := by
          intro p hp
          rw [hc6 _ _ (by omega)]; exact HO5.out p hp
        have hOf6 : ∀ p, w6.frozen? ⟨w1.heap.size, p, none⟩ = false := by
          intro p
          rw [hf6 _ _ (by omega)]; exact HOf5.out p
        have HO6 := Lib.hid hO6
        have HOf6 := Lib.hid hOf6
        have lz0 := hbL6.frozen 0
        have lz1 := hbL6.frozen 1
        obtain ⟨l0, l1, _⟩ := blk_two hbL6
        have om := hO6 m (by omega)
        have omf := hOf6 m
        clear hO6 hOf6 HO5 HOf5 hbL5 hbel5 hc6 hf6 hb6
        go_wp2_with fail
        go_roundw
        case rel =>
          refine ⟨m, by omega, rfl, ?_, ?_, ?_, ?_⟩
          · exact (blk_fill hbL6).far (by simp) _
          · intro p hp
            rw [ovO_step a k m p]
            by_cases hpm : p = m
            · subst hpm
              rw [if_pos rfl, R2.out]
              exact cell_put (x := .int .i64 (ovO a k (p + 1) p)) (by rw [World.cell?_setCell_other _ _ _ _ (by simp), World.cell?_setCell_other _ _ _ _ (by simp)]; exact HO6.out p hp)
            · rw [if_neg hpm, World.cell?_setCell_other _ _ _ _ (by simp [hpm]), World.cell?_setCell_other _ _ _ _ (by simp), World.cell?_setCell_other _ _ _ _ (by simp)]
              exact HO6.out p hp
          · intro p
            simp only [World.frozen?_setCell]
            exact HOf6.out p
          · exact bl_set (bl_set (bl_set hbel6 (by simp) _) (by simp) _) (by simp) _
        case measure => simp [intOf]
      · have dd : decide (k ≤ X) = false := decide_eq_false hge
        rw [dd] at dc
        have q1 := Q1.out
        have q2 := Q2.out
        rw [if_neg hge] at q1 q2
        have R1 := Lib.hid q1
        have R2 := Lib.hid q2
        clear dd q1 q2 Q1 Q2
        go_wp2_with fail
        go_roundw
        case rel =>
          refine ⟨m, by omega, rfl, ?_, ?_, ?_, hbel5⟩
          · rw [R1.out]; exact hbL5
          · intro p hp
            rw [HO5.out p hp, ovO_step a k m p]
            split
            · rename_i h; subst h; rw [R2.out]; unfold ovO; rw [if_neg (by omega)]
            · rfl
          · exact HOf5.out
        case measure => simp [intOf]
end Go.Proofs.YtnhaejbakgjelaaDoor
