/- The walk of the reference's number of bits. -/
import Derived.Test.YtgdgklibilddgaaDoorRefA
import Derived.Test.YtgdgklibilddgaaDoorBlk
namespace Go.Proofs.YtgdgklibilddgaaDoor
open Go.RowKit

theorem num_put2 {wr : World} {g : Nat} {t : TypeId} {a b : Value} (h : Blk wr g t #[a, b]) (x y : Value) : Blk ((wr.setCell ⟨g, 0, none⟩ x).setCell ⟨g, 0, none⟩ y) g t #[y, b] := (h.put 0 x).put 0 y

theorem sum_half {f : Nat → Int} (hf : ∀ j, f j ≤ 1) {c from_ : Nat} (hc : c ≤ 63) : sumB f from_ c < 9223372036854775808 :=
  Nat.lt_of_lt_of_le (sumB_lt hf c from_) (by rw [show (9223372036854775808 : Nat) = 2 ^ 63 from by decide]; exact Nat.pow_le_pow_right (by omega) hc)

set_option maxRecDepth 100000 in
set_option maxHeartbeats 1600000 in
theorem refnum_c (g o n cap : Nat) (f : Nat → Int) (w : World) (hn : n ≤ 140737488355328) (hf : ∀ j, 0 ≤ f j ∧ f j ≤ 1) (hf0 : ∀ j, n ≤ j → f j = 0) (hg : g < w.heap.size)
    (hc : ∀ j, j < n → w.cell? ⟨g, o + j, none⟩ = some (.int .i64 (f j))) :
    Calls Tryd.prog 66 #[.slice (some ⟨g, o, none⟩) n cap] w fun e w' => e = .returned (numV (sumB f 0 128)) ∧ Below w.heap.size w w' := by
  have HF := Lib.hid hf
  have HF0 := Lib.hid hf0
  have HC := Lib.hid hc
  clear hf hf0 hc
  go_enter Tryd.func66, Tryd.ntmps66
  go_wp2
  go_loopw [4] (fun i wr => ∃ c : Nat, 64 ≤ c ∧ c ≤ 128 ∧ i = .int .i64 ((c : Int) - 1) ∧ Blk wr w.heap.size 24 #[.int .u64 0, .int .u64 0] ∧ Blk wr (w.heap.size + 1) 24 #[.int .u64 (sumB f c (128 - c) : Nat), .int .u64 0] ∧ Below w.heap.size w wr) (fun i _ => (intOf i + 1).toNat)
  case atStart => exact ⟨128, by omega, by omega, rfl, (Blk.new _ _ _).alloc _, by rw [← size_alloc' w (.cells #[.int .u64 0, .int .u64 0] 24)]; exact Blk.new _ _ _, (by repeat (first | (with_reducible exact Below.refl _ _) | (with_reducible assumption) | (with_reducible refine bl_alloc ?_ _) | (with_reducible refine bl_drew ?_) | (with_reducible refine bl_drewN ?_ _) | (with_reducible refine bl_set ?_ (by first | (simp; done) | (simp; omega)) _) | (with_reducible refine bl_trans ?_ ‹_›)))⟩
  case round =>
    obtain ⟨c, hc1, hc2, rfl, hb1, hb2, hbel⟩ := hrel
    have k0 := hb2.cell 0
    have k1 := hb2.cell 1
    have z0 := hb2.frozen 0
    have z1 := hb2.frozen 1
    by_cases hlt : 65 ≤ c
    · obtain ⟨j, rfl⟩ : ∃ j, c = j + 1 := ⟨c - 1, by omega⟩
      rw [show (((j + 1 : Nat) : Int) - 1) = (j : Int) from by omega]
      have hs2 := sum_half (f := f) (fun j => (HF.out j).2) (c := 128 - (j + 1)) (from_ := j + 1) (by omega)
      have hsum : sumB f j (128 - j) = sumB f (j + 1) (128 - (j + 1)) * 2 + (f j).toNat := by rw [show 128 - j = (128 - (j + 1)) + 1 from by omega]; rfl
      generalize sumB f (j + 1) (128 - (j + 1)) = H at *
      have HS := Lib.hid hsum
      clear hsum
      simp at k0 k1
      have dj : decide (64 ≤ (j : Int)) = true := by simp; omega
      obtain ⟨m1, m2⟩ := HF.out j
      by_cases hjn : j < n
      · have hcr : wr.cell? ⟨g, o + j, none⟩ = some (.int .i64 (f j)) := (hbel.cell (p := ⟨g, o + j, none⟩) hg).trans (HC.out j hjn)
        have hgne : g ≠ w.heap.size + 1 := by omega
        have dn : decide (j < n) = true := by simpa using hjn
        go_wp2
        go_region
        go_wp2
        go_roundw
        case rel =>
          refine ⟨j, by omega, by omega, rfl, ((hb1.far (by simp) _).far (by simp) _).drew, ?_, (by repeat (first | (with_reducible exact Below.refl _ _) | (with_reducible assumption) | (with_reducible refine bl_alloc ?_ _) | (with_reducible refine bl_drew ?_) | (with_reducible refine bl_drewN ?_ _) | (with_reducible refine bl_set ?_ (by first | (simp; done) | (simp; omega)) _) | (with_reducible refine bl_trans ?_ ‹_›)))⟩
          rw [HS.out, show ((H * 2 + (f j).toNat : Nat) : Int) = (H : Int) * 2 + f j from by omega]
          exact ((hb2.put 0 _).put 0 _).drew
        case measure => simp [intOf] <;> omega
      · have dn : decide (j < n) = false := by simpa using hjn
        have hfz := HF0.out j (by omega)
        have HFZ := Lib.hid hfz
        clear hfz m1 m2
        go_wp2
        go_roundw
        case rel =>
          refine ⟨j, by omega, by omega, rfl, hb1.far (by simp) _, ?_, (by repeat (first | (with_reducible exact Below.refl _ _) | (with_reducible assumption) | (with_reducible refine bl_alloc ?_ _) | (with_reducible refine bl_drew ?_) | (with_reducible refine bl_drewN ?_ _) | (with_reducible refine bl_set ?_ (by first | (simp; done) | (simp; omega)) _) | (with_reducible refine bl_trans ?_ ‹_›)))⟩
          rw [HS.out, HFZ.out, show ((H * 2 + (0 : Int).toNat : Nat) : Int) = (H : Int) * 2 from by simp]
          exact hb2.put 0 _
        case measure => simp [intOf] <;> omega
    · obtain rfl : c = 64 := by omega
      rw [show ((64 : Nat) : Int) - 1 = (63 : Int) from rfl]
      obtain ⟨H, hH⟩ : ∃ H, sumB f 64 (128 - 64) = H := ⟨_, rfl⟩
      rw [hH] at hb2 k0
      have HH := Lib.hid hH
      clear hH k0 k1 z0 z1
      go_wp2
      go_loopw [5] (fun i ws => ∃ c : Nat, c ≤ 64 ∧ i = .int .i64 ((c : Int) - 1) ∧ Blk ws w.heap.size 24 #[.int .u64 0, .int .u64 0] ∧ Blk ws (w.heap.size + 1) 24 #[.int .u64 H, .int .u64 (sumB f c (64 - c) : Nat)] ∧ Below w.heap.size w ws) (fun i _ => (intOf i + 1).toNat)
      case atStart => exact ⟨64, by omega, rfl, hb1, hb2, hbel⟩
      case round =>
        obtain ⟨c, hc2, rfl, hb1, hb2, hbel⟩ := hrel
        have k0 := hb2.cell 0
        have k1 := hb2.cell 1
        have z0 := hb2.frozen 0
        have z1 := hb2.frozen 1
        have y0 := hb1.cell 0
        have y1 := hb1.cell 1
        have x0 := hb1.frozen 0
        have x1 := hb1.frozen 1
        simp at k0 k1 y0 y1
        by_cases hlt : 1 ≤ c
        · obtain ⟨j, rfl⟩ : ∃ j, c = j + 1 := ⟨c - 1, by omega⟩
          rw [show (((j + 1 : Nat) : Int) - 1) = (j : Int) from by omega]
          have hs2 := sum_half (f := f) (fun j => (HF.out j).2) (c := 64 - (j + 1)) (from_ := j + 1) (by omega)
          have hsum : sumB f j (64 - j) = sumB f (j + 1) (64 - (j + 1)) * 2 + (f j).toNat := by rw [show 64 - j = (64 - (j + 1)) + 1 from by omega]; rfl
          generalize sumB f (j + 1) (64 - (j + 1)) = L at *
          have HS := Lib.hid hsum
          clear hsum
          have dj : decide (0 ≤ (j : Int)) = true := by simp
          obtain ⟨m1, m2⟩ := HF.out j
          by_cases hjn : j < n
          · have hcr : wr.cell? ⟨g, o + j, none⟩ = some (.int .i64 (f j)) := (hbel.cell (p := ⟨g, o + j, none⟩) hg).trans (HC.out j hjn)
            have hgne : g ≠ w.heap.size + 1 := by omega
            have dn : decide (j < n) = true := by simpa using hjn
            go_wp2
            go_region
            go_wp2
            go_roundw
            case rel =>
              refine ⟨j, by omega, rfl, ((hb1.far (by simp) _).far (by simp) _).drew, ?_, (by repeat (first | (with_reducible exact Below.refl _ _) | (with_reducible assumption) | (with_reducible refine bl_alloc ?_ _) | (with_reducible refine bl_drew ?_) | (with_reducible refine bl_drewN ?_ _) | (with_reducible refine bl_set ?_ (by first | (simp; done) | (simp; omega)) _) | (with_reducible refine bl_trans ?_ ‹_›)))⟩
              rw [HS.out, show ((L * 2 + (f j).toNat : Nat) : Int) = (L : Int) * 2 + f j from by omega]
              exact ((hb2.put 1 _).put 1 _).drew
            case measure => simp [intOf] <;> omega
          · have dn : decide (j < n) = false := by simpa using hjn
            have hfz := HF0.out j (by omega)
            have HFZ := Lib.hid hfz
            clear hfz m1 m2
            go_wp2
            go_roundw
            case rel =>
              refine ⟨j, by omega, rfl, hb1.far (by simp) _, ?_, (by repeat (first | (with_reducible exact Below.refl _ _) | (with_reducible assumption) | (with_reducible refine bl_alloc ?_ _) | (with_reducible refine bl_drew ?_) | (with_reducible refine bl_drewN ?_ _) | (with_reducible refine bl_set ?_ (by first | (simp; done) | (simp; omega)) _) | (with_reducible refine bl_trans ?_ ‹_›)))⟩
              rw [HS.out, HFZ.out, show ((L * 2 + (0 : Int).toNat : Nat) : Int) = (L : Int) * 2 from by simp]
              exact hb2.put 1 _
            case measure => simp [intOf] <;> omega
        · obtain rfl : c = 0 := by omega
          rw [show ((0 : Nat) : Int) - 1 = (-1 : Int) from rfl]
          obtain ⟨L, hL⟩ : ∃ L, sumB f 0 (64 - 0) = L := ⟨_, rfl⟩
          rw [hL] at hb2 k1
          have hbd := HF.out
          have q : numV (sumB f 0 128) = .agg #[.int .u64 H, .int .u64 L] := by
            have e1 := sumB_join f 64 64 0
            rw [Nat.zero_add, show sumB f 64 64 = H from HH.out, show sumB f 0 64 = L from hL] at e1
            have e2 := sumB_lt (fun j => (hbd j).2) 64 64
            rw [show sumB f 64 64 = H from HH.out] at e2
            have e3 := sumB_lt (fun j => (hbd j).2) 64 0
            rw [show sumB f 0 64 = L from hL] at e3
            rw [two64] at e1 e2 e3
            exact (numV_nat e2 e3 e1.symm).symm
          have QQ := Lib.hid q
          clear q hL hbd
          go_wp2
          refine bodyPost_ret (v := .agg #[.int .u64 H, .int .u64 L]) (by simp [results, Tryd.results66, go_sem, y0, y1]) rfl ⟨by rw [QQ.out], (by repeat (first | (with_reducible exact Below.refl _ _) | (with_reducible assumption) | (with_reducible refine bl_alloc ?_ _) | (with_reducible refine bl_drew ?_) | (with_reducible refine bl_drewN ?_ _) | (with_reducible refine bl_set ?_ (by first | (simp; done) | (simp; omega)) _) | (with_reducible refine bl_trans ?_ ‹_›)))⟩
end Go.Proofs.YtgdgklibilddgaaDoor
