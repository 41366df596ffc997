/- The walk of num.Parse. -/
import Derived.Test.YtnhaejbakgjelaaDoorTxA
import Derived.Deep.RegionHeld3
import Derived.Lib.Bytes
import Derived.Deep.Cut
namespace Go.Proofs.YtnhaejbakgjelaaDoor
open Go.RowKit

theorem numV_zero : numV 0 = .agg #[.int .u64 0, .int .u64 0] := rfl
theorem str_eq {s : ByteArray} (h : s.size = 0) : s = ⟨#[]⟩ := by
  apply ByteArray.ext
  exact Array.eq_empty_of_size_eq_zero h
theorem emp_no {s : ByteArray} (h : ¬ s = ⟨#[]⟩) : s.toList.isEmpty = false := by
  rw [Lib.toList_data]
  cases hs : s.data.toList with
  | nil => exact absurd (ByteArray.ext (by simpa using hs)) h
  | cons a l => rfl
theorem emp_yes {s : ByteArray} (h : s = ⟨#[]⟩) : s.toList.isEmpty = true := by
  rw [h, Lib.toList_data]; rfl
set_option maxRecDepth 100000 in
theorem parse_no (s : ByteArray) (w : World) (hs : s.size ≤ 1000) (h : ¬ formed s) :
    Calls Tryd.prog 31 #[.string s] w fun e w' => e = .returned (.tuple #[numV 0, .int .i64 4]) ∧ Below w.heap.size w w' := by
  rw [numV_zero]
  by_cases h0 : s.size = 0
  · have e := str_eq h0
    subst e
    go_enter Tryd.func31, Tryd.ntmps31
    go_wp2_with fail
    refine bodyPost_ret (v := .tuple #[.agg #[.int .u64 0, .int .u64 0], .int .i64 4]) (by simp [results, Tryd.results31, go_sem]) rfl ⟨rfl, (by repeat (first | (with_reducible exact Below.refl _ _) | (with_reducible assumption) | (with_reducible refine bl_alloc ?_ _) | (with_reducible refine bl_drew ?_) | (with_reducible refine bl_drewN ?_ _) | (with_reducible refine bl_set ?_ (by first | (simp; done) | (simp; omega)) _) | (with_reducible refine bl_trans ?_ ‹_›)))⟩
  · have hne : ¬ s = ⟨#[]⟩ := fun e => h0 (by rw [e]; rfl)
    have he := emp_no hne
    by_cases hd : allDig s
    · have h1 : 1 < s.size ∧ tB s 0 = 48 := by
        by_cases k : 1 < s.size ∧ tB s 0 = 48
        · exact k
        · exact absurd ⟨h0, k, hd⟩ h
      have h2 : s[0]'(by omega) = 48 := UInt8.toNat.inj (by rw [← tB_at]; exact h1.2)
      have h3 := h1.1
      go_enter Tryd.func31, Tryd.ntmps31
      go_wp2_with fail
      refine (trim_c s _ (by omega)).mono ?_
      rintro e w1 ⟨t, rfl, ht, hb1⟩
      have hte := emp_yes (ht.2 hd)
      have hx : Blk w1 w.heap.size 56 #[.int .u64 0, .int .u64 0] := (by repeat (first | (with_reducible assumption) | (with_reducible refine blk_fill (u := .int .u64 0) (v := .int .u64 0) ?_) | (with_reducible refine Blk.drew ?_) | (with_reducible refine Blk.new' _ _ _ _ (by first | (with_reducible rfl) | (simp; done))) | (with_reducible refine Blk.alloc ?_ _) | (with_reducible refine Blk.after ?_ ‹_›) | (with_reducible refine Blk.far ?_ (by first | (simp; done) | (simp; omega)) _)))
      have hb2 : Below w.heap.size w w1 := (by repeat (first | (with_reducible exact Below.refl _ _) | (with_reducible assumption) | (with_reducible refine bl_alloc ?_ _) | (with_reducible refine bl_drew ?_) | (with_reducible refine bl_drewN ?_ _) | (with_reducible refine bl_set ?_ (by first | (simp; done) | (simp; omega)) _) | (with_reducible refine bl_trans ?_ ‹_›)))
      obtain ⟨x0, x1, _⟩ := blk_two hx
      have z0 := hx.frozen 0
      have z1 := hx.frozen 1
      clear ht hb1
      go_wp2_with fail
      refine bodyPost_ret (v := .tuple #[.agg #[.int .u64 0, .int .u64 0], .int .i64 4]) (by simp [results, Tryd.results31, go_sem, x0, x1]) rfl ⟨rfl, (by repeat (first | (with_reducible exact Below.refl _ _) | (with_reducible assumption) | (with_reducible refine bl_alloc ?_ _) | (with_reducible refine bl_drew ?_) | (with_reducible refine bl_drewN ?_ _) | (with_reducible refine bl_set ?_ (by first | (simp; done) | (simp; omega)) _) | (with_reducible refine bl_trans ?_ ‹_›)))⟩
    · go_enter Tryd.func31, Tryd.ntmps31
      go_wp2_with fail
      refine (trim_c s _ (by omega)).mono ?_
      rintro e w1 ⟨t, rfl, ht, hb1⟩
      have hte := emp_no (fun e => hd (ht.1 e))
      have hx : Blk w1 w.heap.size 56 #[.int .u64 0, .int .u64 0] := (by repeat (first | (with_reducible assumption) | (with_reducible refine blk_fill (u := .int .u64 0) (v := .int .u64 0) ?_) | (with_reducible refine Blk.drew ?_) | (with_reducible refine Blk.new' _ _ _ _ (by first | (with_reducible rfl) | (simp; done))) | (with_reducible refine Blk.alloc ?_ _) | (with_reducible refine Blk.after ?_ ‹_›) | (with_reducible refine Blk.far ?_ (by first | (simp; done) | (simp; omega)) _)))
      have hb2 : Below w.heap.size w w1 := (by repeat (first | (with_reducible exact Below.refl _ _) | (with_reducible assumption) | (with_reducible refine bl_alloc ?_ _) | (with_reducible refine bl_drew ?_) | (with_reducible refine bl_drewN ?_ _) | (with_reducible refine bl_set ?_ (by first | (simp; done) | (simp; omega)) _) | (with_reducible refine bl_trans ?_ ‹_›)))
      obtain ⟨x0, x1, _⟩ := blk_two hx
      have z0 := hx.frozen 0
      have z1 := hx.frozen 1
      clear ht hb1
      go_wp2_with fail
      refine bodyPost_ret (v := .tuple #[.agg #[.int .u64 0, .int .u64 0], .int .i64 4]) (by simp [results, Tryd.results31, go_sem, x0, x1]) rfl ⟨rfl, (by repeat (first | (with_reducible exact Below.refl _ _) | (with_reducible assumption) | (with_reducible refine bl_alloc ?_ _) | (with_reducible refine bl_drew ?_) | (with_reducible refine bl_drewN ?_ _) | (with_reducible refine bl_set ?_ (by first | (simp; done) | (simp; omega)) _) | (with_reducible refine bl_trans ?_ ‹_›)))⟩
end Go.Proofs.YtnhaejbakgjelaaDoor
