/- The walks of the reference's product and quotient. -/
import Derived.Test.YtnhaejbakgjelaaDoorRefD
import Derived.Test.YtnhaejbakgjelaaDoorRefE
import Derived.Test.YtnhaejbakgjelaaDoorLd
namespace Go.Proofs.YtnhaejbakgjelaaDoor
open Go.RowKit

theorem num_low (k : Nat) : num 0 (k : Int) = k := by unfold num; omega
set_option maxRecDepth 100000 in
set_option maxRecDepth 20000 in
set_option maxHeartbeats 1600000 in
theorem reftimes_c (a k : Nat) (w : World) (ha : a < 340282366920938463463374607431768211456) (hk : k < 18446744073709551616) :
    Calls Tryd.prog 53 #[numV a, .int .u64 k] w fun e w' => e = .returned (.tuple #[numV (timesN a k), .bool (timesF a k)]) ∧ Below w.heap.size w w' := by
  obtain ⟨e1, e2⟩ := times_end (a := a) hk
  rw [← e1, ← e2]
  clear e1 e2
  go_enter Tryd.func53, Tryd.ntmps53
  go_wp2_with fail
  refine (bits_f 0 k _ (by omega) (by omega) (by omega) (by omega)).mono ?_
  rw [num_low]
  rintro e w1 ⟨gx, cx, rfl, hcx, hgx, hgx2, hxc, _, hb1⟩
  have hz1' := hb1.size
  simp only [size_alloc'] at hz1' hgx
  have hbA : Blk w1 w.heap.size 56 #[.int .u64 (hi a), .int .u64 (lo a)] := (by repeat (first | (with_reducible assumption) | (with_reducible refine blk_fill (u := .int .u64 0) (v := .int .u64 0) ?_) | (with_reducible refine Blk.drew ?_) | (with_reducible refine Blk.new' _ _ _ _ (by first | (with_reducible rfl) | (simp; done))) | (with_reducible refine Blk.alloc ?_ _) | (with_reducible refine Blk.after ?_ ‹_›) | (with_reducible refine Blk.far ?_ (by first | (simp; done) | (simp; omega)) _)))
  have hbR : Blk w1 (w.heap.size + 1) 56 #[.int .u64 0, .int .u64 0] := (by repeat (first | (with_reducible assumption) | (with_reducible refine blk_fill (u := .int .u64 0) (v := .int .u64 0) ?_) | (with_reducible refine Blk.drew ?_) | (with_reducible refine Blk.new' _ _ _ _ (by first | (with_reducible rfl) | (simp; done))) | (with_reducible refine Blk.alloc ?_ _) | (with_reducible refine Blk.after ?_ ‹_›) | (with_reducible refine Blk.far ?_ (by first | (simp; done) | (simp; omega)) _)))
  have hbel1 : Below w.heap.size w w1 := (by repeat (first | (with_reducible exact Below.refl _ _) | (with_reducible assumption) | (with_reducible refine bl_alloc ?_ _) | (with_reducible refine bl_drew ?_) | (with_reducible refine bl_drewN ?_ _) | (with_reducible refine bl_set ?_ (by first | (simp; done) | (simp; omega)) _) | (with_reducible refine bl_trans ?_ ‹_›)))
  have HX := Lib.hid hxc
  clear hxc hb1
  go_wp2_with fail
  go_loopw [8, 9] (fun f i wr => ∃ j : Nat, j ≤ 64 ∧ i = .int .i64 j ∧ f = .bool (tF a k j) ∧ Blk wr w1.heap.size 56 #[.int .u64 (hi (tM a k j)), .int .u64 (lo (tM a k j))] ∧ Below w1.heap.size w1 wr) (fun _ i _ => 64 - (intOf i).toNat)
  case atStart => exact ⟨0, by omega, rfl, by rw [tF_zero], by rw [tM_zero]; exact Blk.new _ _ _, (by repeat (first | (with_reducible exact Below.refl _ _) | (with_reducible assumption) | (with_reducible refine bl_alloc ?_ _) | (with_reducible refine bl_drew ?_) | (with_reducible refine bl_drewN ?_ _) | (with_reducible refine bl_set ?_ (by first | (simp; done) | (simp; omega)) _) | (with_reducible refine bl_trans ?_ ‹_›)))⟩
  case round =>
    obtain ⟨j, hj, rfl, rfl, hbO, hbel⟩ := hrel
    have hzz := hbel.size
    have hoW := hbO.lt
    have hbA2 : Blk wr w.heap.size 56 #[.int .u64 (hi a), .int .u64 (lo a)] := hbA.after hbel
    by_cases hlt : j < 64
    · have x0 : wr.cell? ⟨gx, j, none⟩ = some (.int .i64 (bitI k j)) := (hbel.cell (p := ⟨gx, j, none⟩) hgx2).trans (HX.out j (by omega))
      have dk : decide ((j : Int) < 64) = true := decide_eq_true (by omega)
      rcases bitI_or k j with hb | hb
      · have S1 := Lib.hid (tF_step0 (a := a) hb)
        have S2 := Lib.hid (tM_step0 (a := a) hb)
        rw [hb] at x0
        clear hb
        go_wp2_with fail
        go_roundw
        case rel => exact ⟨j + 1, by omega, by go_num, by rw [S1.out], by rw [S2.out]; exact hbO, hbel⟩
        case measure => simp [intOf]; omega
      · have S1 := Lib.hid (tF_step (a := a) (by omega) hb)
        have S2 := Lib.hid (tM_step (a := a) (by omega) hb)
        rw [hb] at x0
        clear hb
        have hshl := shlN_lt a (j : Int) ha
        have hmod : tM a k j < 340282366920938463463374607431768211456 := tM_lt _ _ _
        have hl128 : lenN a ≤ 128 := lenN_le ha
        generalize tM a k j = o at *
        obtain ⟨a0, a1, _⟩ := blk_two hbA2
        go_upto_region 8 with (fail)
        go_cut [8] (fun f wc => f = .bool (tF a k j && decide ((lenN a : Int) + (j : Int) ≤ 128)) ∧ Blk wc w1.heap.size 56 #[.int .u64 (hi o), .int .u64 (lo o)] ∧ Below w1.heap.size w1 wc)
        case first =>
          have hw : IntKind.i64.wrap ((lenN a : Int) + (j : Int)) = (lenN a : Int) + (j : Int) := IntWalk.i64_in _ (by omega)
          rcases hf : tF a k j with _ | _
          · have HF := Lib.hid hf
            clear hf
            go_wp2_with fail
            go_meet
            case rel => exact ⟨by rw [HF.out]; rfl, hbO, hbel⟩
          · have HF := Lib.hid hf
            clear hf
            go_wp2_with fail
            refine (reflen_c a _ ha).mono ?_
            rintro e w2 ⟨rfl, hb2⟩
            go_wp2_with fail
            go_meet
            case rel => exact ⟨by rw [HF.out]; rfl, hbO.after hb2, bl_trans hbel hb2⟩
        case rest =>
          clear hbO hbel a0 a1 hbA2
          obtain ⟨rfl, hbO, hbel⟩ := hcut
          generalize (tF a k j && decide ((lenN a : Int) + (j : Int) ≤ 128)) = f1 at *
          clear hz1' hgx hcx x0 hoW hzz dk
          have hoW := hbO.lt
          have hbA2 : Blk wc w.heap.size 56 #[.int .u64 (hi a), .int .u64 (lo a)] := hbA.after hbel
          have hoa : w.heap.size < w1.heap.size := hbA.lt
          clear hbA hbR
          go_upto_region 9 with (fail)
          go_cut [10, 11] (fun s10 s11 wd => ∃ g : Nat, s10 = .pointer (some ⟨g, 0, none⟩) ∧ s11 = .bool (addF o (shlN a j)) ∧ Blk wd g 56 #[.int .u64 (hi (tM a k (j + 1))), .int .u64 (lo (tM a k (j + 1)))] ∧ Blk wd w1.heap.size 56 #[.int .u64 (hi o), .int .u64 (lo o)] ∧ Below w1.heap.size w1 wd)
          case first =>
            go_region_held3 (fun w' => (w'.cell? ⟨w1.heap.size, 0, none⟩ = some (.int .u64 (hi o)) ∧ w'.cell? ⟨w1.heap.size, 1, none⟩ = some (.int .u64 (lo o)) ∧ Blk w' w1.heap.size 56 #[.int .u64 (hi o), .int .u64 (lo o)]) ∧ (w'.cell? ⟨w.heap.size, 0, none⟩ = some (.int .u64 (hi a)) ∧ w'.cell? ⟨w.heap.size, 1, none⟩ = some (.int .u64 (lo a)) ∧ Blk w' w.heap.size 56 #[.int .u64 (hi a), .int .u64 (lo a)])) (exact ⟨blk_two (by repeat (first | (with_reducible assumption) | (with_reducible refine blk_fill (u := .int .u64 0) (v := .int .u64 0) ?_) | (with_reducible refine Blk.drew ?_) | (with_reducible refine Blk.new' _ _ _ _ (by first | (with_reducible rfl) | (simp; done))) | (with_reducible refine Blk.alloc ?_ _) | (with_reducible refine Blk.after ?_ ‹_›) | (with_reducible refine Blk.far ?_ (by first | (simp; done) | (simp; omega)) _))), blk_two (by repeat (first | (with_reducible assumption) | (with_reducible refine blk_fill (u := .int .u64 0) (v := .int .u64 0) ?_) | (with_reducible refine Blk.drew ?_) | (with_reducible refine Blk.new' _ _ _ _ (by first | (with_reducible rfl) | (simp; done))) | (with_reducible refine Blk.alloc ?_ _) | (with_reducible refine Blk.after ?_ ‹_›) | (with_reducible refine Blk.far ?_ (by first | (simp; done) | (simp; omega)) _)))⟩)
              (first
              | (go_at_call 73; refine (refshift_c a j _ ha).mono ?_; rintro e w3 ⟨rfl, hb3⟩; obtain ⟨hc3, hf3⟩ := bcell hb3; have hz3 := hb3.size; (try simp only [size_alloc', size_setCell', size_drew'] at hz3); (try have hs3 : wc.heap.size < w3.heap.size := by omega))
              | (go_at_call 54; refine (refadd_c o (shlN a j) _ hmod hshl).mono ?_; rw [S2.out]; rintro e w4 ⟨rfl, hb4⟩; obtain ⟨hc4, hf4⟩ := bcell hb4; have hz4 := hb4.size; (try simp only [size_alloc', size_setCell', size_drew'] at hz4); (try have hs4 : wc.heap.size < w4.heap.size := by omega); (try have hs5 : w3.heap.size < w4.heap.size := by omega)))
            all_goals
              go_wp2_with fail
              go_meet
              case rel => exact ⟨_, rfl, rfl, (by repeat (first | (with_reducible assumption) | (with_reducible refine blk_fill (u := .int .u64 0) (v := .int .u64 0) ?_) | (with_reducible refine Blk.drew ?_) | (with_reducible refine Blk.new' _ _ _ _ (by first | (with_reducible rfl) | (simp; done))) | (with_reducible refine Blk.alloc ?_ _) | (with_reducible refine Blk.after ?_ ‹_›) | (with_reducible refine Blk.far ?_ (by first | (simp; done) | (simp; omega)) _))), (by repeat (first | (with_reducible assumption) | (with_reducible refine blk_fill (u := .int .u64 0) (v := .int .u64 0) ?_) | (with_reducible refine Blk.drew ?_) | (with_reducible refine Blk.new' _ _ _ _ (by first | (with_reducible rfl) | (simp; done))) | (with_reducible refine Blk.alloc ?_ _) | (with_reducible refine Blk.after ?_ ‹_›) | (with_reducible refine Blk.far ?_ (by first | (simp; done) | (simp; omega)) _))), (by repeat (first | (with_reducible exact Below.refl _ _) | (with_reducible assumption) | (with_reducible refine bl_alloc ?_ _) | (with_reducible refine bl_drew ?_) | (with_reducible refine bl_drewN ?_ _) | (with_reducible refine bl_set ?_ (by first | (simp; done) | (simp; omega)) _) | (with_reducible refine bl_trans ?_ ‹_›)))⟩
          case rest =>
            clear hbO hbel hbA2 hoW
            obtain ⟨gn, rfl, rfl, hbN, hbO, hbel⟩ := hcut
            have hoW := hbO.lt
            have hnW := hbN.lt
            obtain ⟨n0, n1, _⟩ := blk_two hbN
            obtain ⟨o0, o1, _⟩ := blk_two hbO
            have oz0 := hbO.frozen 0
            have oz1 := hbO.frozen 1
            rcases f1 with _ | _
            all_goals
              go_wp2_with fail
              go_roundw
              case rel => exact ⟨j + 1, by omega, by go_num, by rw [← S1.out]; rfl, blk_fill hbO, bl_set (bl_set hbel (by simp) _) (by simp) _⟩
              case measure => simp [intOf]; omega
    · obtain rfl : j = 64 := by omega
      have hbR2 : Blk wr (w.heap.size + 1) 56 #[.int .u64 0, .int .u64 0] := hbR.after hbel
      obtain ⟨r0, r1, _⟩ := blk_two hbR2
      have rz0 := hbR2.frozen 0
      have rz1 := hbR2.frozen 1
      obtain ⟨o0, o1, _⟩ := blk_two hbO
      rw [show ((64 : Nat) : Int) = (64 : Int) from rfl]
      go_wp2_with fail
      refine bodyPost_ret (v := .tuple #[numV (tM a k 64), .bool (tF a k 64)]) (by simp [results, Tryd.results53, go_sem, r0, r1]) rfl ⟨rfl, (by repeat (first | (with_reducible exact Below.refl _ _) | (with_reducible assumption) | (with_reducible refine bl_alloc ?_ _) | (with_reducible refine bl_drew ?_) | (with_reducible refine bl_drewN ?_ _) | (with_reducible refine bl_set ?_ (by first | (simp; done) | (simp; omega)) _) | (with_reducible refine bl_trans ?_ ‹_›)))⟩
end Go.Proofs.YtnhaejbakgjelaaDoor
