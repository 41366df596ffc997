/- Addresses: the reference's digits, in base 10 and in base 16. -/
import Derived.Test.YtgdgklibilddgaaDoorAdT
import Derived.Test.YtgdgklibilddgaaDoorAdS
import Derived.Deep.Cut
namespace Go.Proofs.YtgdgklibilddgaaDoor
open Go.RowKit

def decL (n : Nat) : List Int := (if 100 ≤ n then [48 + (n : Int) / 100] else []) ++ (if 10 ≤ n then [48 + (n : Int) / 10 % 10] else []) ++ [48 + (n : Int) % 10]
theorem decL_all : ∀ n, n < 256 → ints ((Lib.decDigits n).map UInt8.toNat) = decL n := by decide +kernel
theorem decL_txt {n : Nat} (h : n < 256) : strOfNums (decL n) = itoaT n := by
  rw [← decL_all n h, txt_back]; rfl
set_option maxRecDepth 100000 in
set_option maxHeartbeats 3200000 in
theorem rdec_c (n : Nat) (w : World) (hn : n < 256) :
    Calls Tryd.prog 30 #[.int .i64 n] w fun e w' => e = .returned (.string (itoaT n)) ∧ Below w.heap.size w w' := by
  obtain ⟨i0, hi0, hz0, hz1, hz2⟩ := info_parts info_u8
  have HT := Lib.hid (decL_txt hn)
  rw [← HT.out]
  have hbase : (w.alloc (.cells #[] 5)).ownsRow w.heap.size 5 1 (.slice (some ⟨w.heap.size, 0, none⟩) 0 0) 0 [] := own_empty w _ _ (Nat.le_refl _)
  have hbel : Below w.heap.size w (w.alloc (.cells #[] 5)) := (by repeat (first | (with_reducible exact Below.refl _ _) | (with_reducible assumption) | (with_reducible refine bl_alloc ?_ _) | (with_reducible refine bl_drew ?_) | (with_reducible refine bl_drewN ?_ _) | (with_reducible refine bl_set ?_ (by first | (simp; done) | (simp; omega)) _) | (with_reducible refine bl_trans ?_ ‹_›)))
  have hs0 := hbel.size
  by_cases h100 : 100 ≤ n
  · have d1 : (100 : Int) ≤ n := by omega
    have d2 : (10 : Int) ≤ n := by omega
    have hL : decL n = [48 + (n : Int) / 100, 48 + (n : Int) / 10 % 10, 48 + (n : Int) % 10] := by
      unfold decL; rw [if_pos h100, if_pos (by omega)]; rfl
    rw [hL]
    clear hL
    go_enter Tryd.func30, Tryd.ntmps30
    go_upto_region 2 with (fail)
    have hown := hbase
    generalize w.alloc (.cells #[] 5) = w1 at *
    go_wp2_with (at_builtin; refine wpList_append_own _ rfl _ _ 34 rfl w.heap.size 5 i0 (.int .u8 0) 1 1 Tryd.underlying34 hi0 hz0 hz1 hz2 rfl (by decide) _ _ _ rfl (hown.alloc _) ⟨w1.heap.size, 0, none⟩ 1 1 [.int .u8 (48 + (n : Int) / 100)] rfl rfl ?z1_1 ?z1_2 ?z1_3 ?z1_4 ?z1_5 ?_)
    (try case z1_1 => exact cell_list _ _ _)
    (try case z1_2 => (first | exact one_cell_k _ _ | rfl | (intro u hu; simp at hu; (try rcases hu with rfl | rfl) <;> (try subst hu) <;> rfl)))
    case z1_3 => (first | (simp only [maxLen]; omega) | omega)
    (try case z1_4 => omega)
    (try case z1_5 => (first | omega | (simp; omega)))
    (try case z1_2 => (first | exact one_cell_k _ _ | rfl | (intro u hu; simp at hu; (try rcases hu with rfl | rfl) <;> (try subst hu) <;> rfl)))
    intro v' wa hown' hgrow _
    have hbel1 := below_own hbel hown (by first | exact Nat.le_refl _ | omega) hgrow
    replace hown : wa.ownsRow w.heap.size 5 1 v' 1 (bytesV [48 + (n : Int) / 100]) := hown'
    have hs1 := hbel1.size
    go_wp2_with (at_builtin; refine wpList_append_own _ rfl _ _ 34 rfl w.heap.size 5 i0 (.int .u8 0) 1 1 Tryd.underlying34 hi0 hz0 hz1 hz2 rfl (by decide) _ _ _ rfl (hown.alloc _) ⟨wa.heap.size, 0, none⟩ 1 1 [.int .u8 (48 + (n : Int) / 10 % 10)] rfl rfl ?z2_1 ?z2_2 ?z2_3 ?z2_4 ?z2_5 ?_)
    (try case z2_1 => exact cell_list _ _ _)
    (try case z2_2 => (first | exact one_cell_k _ _ | rfl | (intro u hu; simp at hu; (try rcases hu with rfl | rfl) <;> (try subst hu) <;> rfl)))
    case z2_3 => (first | (simp only [maxLen]; omega) | omega)
    (try case z2_4 => omega)
    (try case z2_5 => (first | omega | (simp; omega)))
    (try case z2_2 => (first | exact one_cell_k _ _ | rfl | (intro u hu; simp at hu; (try rcases hu with rfl | rfl) <;> (try subst hu) <;> rfl)))
    intro v' wa hown' hgrow _
    have hbel1 := below_own hbel1 hown (by first | exact Nat.le_refl _ | omega) hgrow
    replace hown : wa.ownsRow w.heap.size 5 1 v' 2 (bytesV [48 + (n : Int) / 100, 48 + (n : Int) / 10 % 10]) := hown'
    have hs1 := hbel1.size
    go_wp2_with (at_builtin; refine wpList_append_own _ rfl _ _ 34 rfl w.heap.size 5 i0 (.int .u8 0) 1 1 Tryd.underlying34 hi0 hz0 hz1 hz2 rfl (by decide) _ _ _ rfl (hown.alloc _) ⟨wa.heap.size, 0, none⟩ 1 1 [.int .u8 (48 + (n : Int) % 10)] rfl rfl ?z3_1 ?z3_2 ?z3_3 ?z3_4 ?z3_5 ?_)
    (try case z3_1 => exact cell_list _ _ _)
    (try case z3_2 => (first | exact one_cell_k _ _ | rfl | (intro u hu; simp at hu; (try rcases hu with rfl | rfl) <;> (try subst hu) <;> rfl)))
    case z3_3 => (first | (simp only [maxLen]; omega) | omega)
    (try case z3_4 => omega)
    (try case z3_5 => (first | omega | (simp; omega)))
    (try case z3_2 => (first | exact one_cell_k _ _ | rfl | (intro u hu; simp at hu; (try rcases hu with rfl | rfl) <;> (try subst hu) <;> rfl)))
    intro v' wa hown' hgrow _
    have hbel1 := below_own hbel1 hown (by first | exact Nat.le_refl _ | omega) hgrow
    have hconv := conv_own (l := [48 + (n : Int) / 100, 48 + (n : Int) / 10 % 10, 48 + (n : Int) % 10]) hown'
    go_wp2_with fail
    go_ret
    exact ⟨rfl, hbel1⟩
  · by_cases h10 : 10 ≤ n
    · have d1 : ¬ (100 : Int) ≤ n := by omega
      have d2 : (10 : Int) ≤ n := by omega
      have hL : decL n = [48 + (n : Int) / 10 % 10, 48 + (n : Int) % 10] := by
        unfold decL; rw [if_neg h100, if_pos (by omega)]; rfl
      rw [hL]
      clear hL
      go_enter Tryd.func30, Tryd.ntmps30
      go_upto_region 2 with (fail)
      have hown := hbase
      generalize w.alloc (.cells #[] 5) = w1 at *
      go_wp2_with (at_builtin; refine wpList_append_own _ rfl _ _ 34 rfl w.heap.size 5 i0 (.int .u8 0) 1 1 Tryd.underlying34 hi0 hz0 hz1 hz2 rfl (by decide) _ _ _ rfl (hown.alloc _) ⟨w1.heap.size, 0, none⟩ 1 1 [.int .u8 (48 + (n : Int) / 10 % 10)] rfl rfl ?z4_1 ?z4_2 ?z4_3 ?z4_4 ?z4_5 ?_)
      (try case z4_1 => exact cell_list _ _ _)
      (try case z4_2 => (first | exact one_cell_k _ _ | rfl | (intro u hu; simp at hu; (try rcases hu with rfl | rfl) <;> (try subst hu) <;> rfl)))
      case z4_3 => (first | (simp only [maxLen]; omega) | omega)
      (try case z4_4 => omega)
      (try case z4_5 => (first | omega | (simp; omega)))
      (try case z4_2 => (first | exact one_cell_k _ _ | rfl | (intro u hu; simp at hu; (try rcases hu with rfl | rfl) <;> (try subst hu) <;> rfl)))
      intro v' wa hown' hgrow _
      have hbel1 := below_own hbel hown (by first | exact Nat.le_refl _ | omega) hgrow
      replace hown : wa.ownsRow w.heap.size 5 1 v' 1 (bytesV [48 + (n : Int) / 10 % 10]) := hown'
      have hs1 := hbel1.size
      go_wp2_with (at_builtin; refine wpList_append_own _ rfl _ _ 34 rfl w.heap.size 5 i0 (.int .u8 0) 1 1 Tryd.underlying34 hi0 hz0 hz1 hz2 rfl (by decide) _ _ _ rfl (hown.alloc _) ⟨wa.heap.size, 0, none⟩ 1 1 [.int .u8 (48 + (n : Int) % 10)] rfl rfl ?z5_1 ?z5_2 ?z5_3 ?z5_4 ?z5_5 ?_)
      (try case z5_1 => exact cell_list _ _ _)
      (try case z5_2 => (first | exact one_cell_k _ _ | rfl | (intro u hu; simp at hu; (try rcases hu with rfl | rfl) <;> (try subst hu) <;> rfl)))
      case z5_3 => (first | (simp only [maxLen]; omega) | omega)
      (try case z5_4 => omega)
      (try case z5_5 => (first | omega | (simp; omega)))
      (try case z5_2 => (first | exact one_cell_k _ _ | rfl | (intro u hu; simp at hu; (try rcases hu with rfl | rfl) <;> (try subst hu) <;> rfl)))
      intro v' wa hown' hgrow _
      have hbel1 := below_own hbel1 hown (by first | exact Nat.le_refl _ | omega) hgrow
      have hconv := conv_own (l := [48 + (n : Int) / 10 % 10, 48 + (n : Int) % 10]) hown'
      go_wp2_with fail
      go_ret
      exact ⟨rfl, hbel1⟩
    · have d1 : ¬ (100 : Int) ≤ n := by omega
      have d2 : ¬ (10 : Int) ≤ n := by omega
      have hL : decL n = [48 + (n : Int) % 10] := by
        unfold decL; rw [if_neg h100, if_neg (by omega)]; rfl
      rw [hL]
      clear hL
      go_enter Tryd.func30, Tryd.ntmps30
      go_upto_region 2 with (fail)
      have hown := hbase
      generalize w.alloc (.cells #[] 5) = w1 at *
      go_wp2_with (at_builtin; refine wpList_append_own _ rfl _ _ 34 rfl w.heap.size 5 i0 (.int .u8 0) 1 1 Tryd.underlying34 hi0 hz0 hz1 hz2 rfl (by decide) _ _ _ rfl (hown.alloc _) ⟨w1.heap.size, 0, none⟩ 1 1 [.int .u8 (48 + (n : Int) % 10)] rfl rfl ?z6_1 ?z6_2 ?z6_3 ?z6_4 ?z6_5 ?_)
      (try case z6_1 => exact cell_list _ _ _)
      (try case z6_2 => (first | exact one_cell_k _ _ | rfl | (intro u hu; simp at hu; (try rcases hu with rfl | rfl) <;> (try subst hu) <;> rfl)))
      case z6_3 => (first | (simp only [maxLen]; omega) | omega)
      (try case z6_4 => omega)
      (try case z6_5 => (first | omega | (simp; omega)))
      (try case z6_2 => (first | exact one_cell_k _ _ | rfl | (intro u hu; simp at hu; (try rcases hu with rfl | rfl) <;> (try subst hu) <;> rfl)))
      intro v' wa hown' hgrow _
      have hbel1 := below_own hbel hown (by first | exact Nat.le_refl _ | omega) hgrow
      have hconv := conv_own (l := [48 + (n : Int) % 10]) hown'
      go_wp2_with fail
      go_ret
      exact ⟨rfl, hbel1⟩
end Go.Proofs.YtgdgklibilddgaaDoor
