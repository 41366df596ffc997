/- The walks of the reference's rows of bits. -/
import Derived.Test.YtgdgklibilddgaaDoorNumD
import Derived.Test.YtgdgklibilddgaaDoorOwn
import Derived.Test.YtgdgklibilddgaaDoorRefP
import Derived.Laws.AppendOwn
import Derived.Laws.OwnMore
import Derived.OwnWalk
namespace Go.Proofs.YtgdgklibilddgaaDoor
open Go.RowKit

theorem info_int : (Tryd.prog.info? 3).map (fun i => (i.zero, i.size, i.bytes)) = some (some (.int .i64 0), 1, 8) := by kernel_rfl

theorem one_cell_int (n : Int) : ∀ u ∈ [Value.int .i64 n], u.oneCell' = true := by intro u hu; simp at hu; subst hu; rfl
theorem own_empty (w : World) (t : TypeId) (base : Nat) (h : base ≤ w.heap.size) : (w.alloc (.cells #[] t)).ownsRow base t 1 (.slice (some ⟨w.heap.size, 0, none⟩) 0 0) 0 [] :=
  World.ownsRow_made w #[] 0 h (by simp [maxLen]) (by simp)
set_option maxRecDepth 100000 in
set_option maxHeartbeats 800000 in
theorem bits_c (ah al : Int) (w : World) (h0_ah : 0 ≤ ah) (h1_ah : ah < 18446744073709551616) (h0_al : 0 ≤ al) (h1_al : al < 18446744073709551616) :
    Calls Tryd.prog 46 #[.agg #[.int .u64 ah, .int .u64 al]] w fun e w' =>
      ∃ v, e = .returned v ∧ w'.ownsRow w.heap.size 3 1 v 128 (rowV (bitI (num ah al)) 128) ∧ Below w.heap.size w w' := by
  obtain ⟨i0, hi0, hz0, hz1, hz2⟩ := info_parts info_int
  have ho := own_empty (w.alloc (.cells #[.int .u64 ah, .int .u64 al] 24)) 3 w.heap.size (by simp)
  simp only [size_alloc'] at ho
  have hlo : ∀ k, k < 64 → bitI (num ah al) k = shrI al k % 2 := fun k hk => bit_lo h0_ah h0_al hk
  have hhi : ∀ k, bitI (num ah al) (64 + k) = shrI ah k % 2 := fun k => bit_hi h0_ah h0_al h1_al k
  have HLO := Lib.hid hlo
  have HHI := Lib.hid hhi
  have hsl : ∀ k, 0 ≤ shrI al k ∧ shrI al k < 18446744073709551616 := fun k => shrI_bd h0_al h1_al k
  have hsh : ∀ k, 0 ≤ shrI ah k ∧ shrI ah k < 18446744073709551616 := fun k => shrI_bd h0_ah h1_ah k
  have HSL := Lib.hid hsl
  have HSH := Lib.hid hsh
  clear hlo hhi hsl hsh
  generalize hf : bitI (num ah al) = f at *
  clear hf
  go_enter Tryd.func46, Tryd.ntmps46
  go_wp2
  go_loopw [3, 4, 6] (fun l lo i wr => ∃ k : Nat, k ≤ 64 ∧ i = .int .i64 k ∧ lo = .int .u64 (shrI al k) ∧ wr.ownsRow w.heap.size 3 1 l k (rowV f k) ∧ Below w.heap.size w wr) (fun _ _ i _ => 64 - (intOf i).toNat)
  case atStart => exact ⟨0, by omega, rfl, by rw [shrI_zero], ho, (by repeat (first | (with_reducible exact Below.refl _ _) | (with_reducible assumption) | (with_reducible refine bl_alloc ?_ _) | (with_reducible refine bl_drew ?_) | (with_reducible refine bl_drewN ?_ _) | (with_reducible refine bl_set ?_ (by first | (simp; done) | (simp; omega)) _) | (with_reducible refine bl_trans ?_ ‹_›)))⟩
  case round =>
    obtain ⟨k, hk, rfl, rfl, hown, hbel⟩ := hrel
    by_cases hlt : k < 64
    · obtain ⟨g1, g2⟩ := HSL.out k
      have hv := HLO.out k hlt
      have HV := Lib.hid hv
      clear hv
      have hz := hbel.size
      go_wp2_with (at_builtin; refine wpList_append_own _ rfl _ _ 56 rfl w.heap.size 3 i0 (.int .i64 0) 1 8 Tryd.underlying56 hi0 hz0 hz1 hz2 rfl (by decide) _ _ _ rfl (hown.alloc _) ⟨wr.heap.size, 0, none⟩ 1 1 [.int .i64 (shrI al k % 2)] rfl rfl ?q1_1 ?q1_2 ?q1_3 ?q1_4 ?q1_5 ?_)
      (try case q1_1 => exact cell_one _ _ _)
      (try case q1_2 => (first | exact one_cell_int _ | rfl))
      case q1_3 => (first | (simp only [maxLen]; omega) | omega)
      case q1_4 => omega
      case q1_5 => (first | (rw [size_alloc']; omega) | omega)
      intro v' w1 hown' hgrow _
      have hbel1 := below_own hbel hown (Nat.le_refl _) hgrow
      clear hown hgrow
      go_wp2
      go_roundw
      case rel => exact ⟨k + 1, by omega, by go_num, by rw [shrI_succ], by rw [rowV_succ, HV.out]; exact hown', hbel1⟩
      case measure => simp [intOf]; omega
    · have hk64 : k = 64 := by omega
      subst hk64
      rw [show ((64 : Nat) : Int) = (64 : Int) from rfl]
      go_wp2
      go_loopw [3, 5, 7] (fun l hi i ws => ∃ k : Nat, k ≤ 64 ∧ i = .int .i64 k ∧ hi = .int .u64 (shrI ah k) ∧ ws.ownsRow w.heap.size 3 1 l (64 + k) (rowV f (64 + k)) ∧ Below w.heap.size w ws) (fun _ _ i _ => 64 - (intOf i).toNat)
      case atStart => exact ⟨0, by omega, rfl, by rw [shrI_zero], hown, hbel⟩
      case round =>
        obtain ⟨k, hk, rfl, rfl, hown, hbel⟩ := hrel
        by_cases hlt : k < 64
        · obtain ⟨g1, g2⟩ := HSH.out k
          have hv := HHI.out k
          have HV := Lib.hid hv
          clear hv
          have hz := hbel.size
          go_wp2_with (at_builtin; refine wpList_append_own _ rfl _ _ 56 rfl w.heap.size 3 i0 (.int .i64 0) 1 8 Tryd.underlying56 hi0 hz0 hz1 hz2 rfl (by decide) _ _ _ rfl (hown.alloc _) ⟨wr.heap.size, 0, none⟩ 1 1 [.int .i64 (shrI ah k % 2)] rfl rfl ?q2_1 ?q2_2 ?q2_3 ?q2_4 ?q2_5 ?_)
          (try case q2_1 => exact cell_one _ _ _)
          (try case q2_2 => (first | exact one_cell_int _ | rfl))
          case q2_3 => (first | (simp only [maxLen]; omega) | omega)
          case q2_4 => omega
          case q2_5 => (first | (rw [size_alloc']; omega) | omega)
          intro v' w1 hown' hgrow _
          have hbel1 := below_own hbel hown (Nat.le_refl _) hgrow
          clear hown hgrow
          go_wp2
          go_roundw
          case rel => exact ⟨k + 1, by omega, by go_num, by rw [shrI_succ], by rw [show 64 + (k + 1) = 64 + k + 1 from by omega, rowV_succ, HV.out]; exact hown', hbel1⟩
          case measure => simp [intOf]; omega
        · have hk64 : k = 64 := by omega
          subst hk64
          go_wp2
          go_ret
          exact ⟨_, rfl, hown, hbel⟩
end Go.Proofs.YtgdgklibilddgaaDoor
