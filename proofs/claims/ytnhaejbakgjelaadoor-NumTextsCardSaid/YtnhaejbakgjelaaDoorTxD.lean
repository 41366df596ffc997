/- The walk of the reference's Parse. -/
import Derived.Test.YtnhaejbakgjelaaDoorTxC
import Derived.Test.YtnhaejbakgjelaaDoorRefG
namespace Go.Proofs.YtnhaejbakgjelaaDoor
open Go.RowKit

theorem reftimes_k (v : Nat) (w : World) (hv : v < 340282366920938463463374607431768211456) :
    Calls Tryd.prog 53 #[numV v, .int .u64 10] w fun e w' => e = .returned (.tuple #[numV (timesN v 10), .bool (timesF v 10)]) ∧ Below w.heap.size w w' :=
  reftimes_c v 10 w hv (by omega)
theorem refadd_k (a d : Nat) (w : World) (ha : a < 340282366920938463463374607431768211456) (hd : d < 18446744073709551616) :
    Calls Tryd.prog 54 #[numV a, .agg #[.int .u64 0, .int .u64 d]] w fun e w' => e = .returned (.tuple #[numV (addN a d), .bool (addF a d)]) ∧ Below w.heap.size w w' := by
  rw [← numV_low hd]; exact refadd_c a d w ha (by omega)
theorem lead_cases {s : ByteArray} (h0 : s.size ≠ 0) (h1 : ¬ (1 < s.size ∧ tB s 0 = 48)) :
    decide (1 < (s.size : Int)) = false ∨ (decide (1 < (s.size : Int)) = true ∧ ((((s[0]'(by omega)).toNat : Nat) : Int) == 48) = false) := by
  by_cases k : 1 < s.size
  · refine .inr ⟨decide_eq_true (by omega), Bool.eq_false_iff.2 fun e => h1 ⟨k, ?_⟩⟩
    rw [tB_at (by omega)]
    have := eq_of_beq e
    omega
  · exact .inl (decide_eq_false (by omega))
theorem dig_more {s : ByteArray} {k : Nat} (h : ∀ j, j < k → 48 ≤ tB s j ∧ tB s j ≤ 57) (hk : 48 ≤ tB s k ∧ tB s k ≤ 57) : ∀ j, j < k + 1 → 48 ≤ tB s j ∧ tB s j ≤ 57 := by
  intro j hj
  by_cases e : j = k
  · rw [e]; exact hk
  · exact h j (by omega)
set_option maxRecDepth 100000 in
set_option maxHeartbeats 1600000 in
theorem rparse_no (s : ByteArray) (w : World) (hs : s.size ≤ 1000) (h : ¬ formed s) :
    Calls Tryd.prog 32 #[.string s] w fun e w' => e = .returned (.tuple #[numV 0, .int .i64 4]) ∧ Below w.heap.size w w' := by
  rw [numV_zero]
  by_cases h0 : s.size = 0
  · have d0 : decide (s.size = 0) = true := decide_eq_true h0
    go_enter Tryd.func32, Tryd.ntmps32
    go_wp2_with fail
    refine bodyPost_ret (v := .tuple #[.agg #[.int .u64 0, .int .u64 0], .int .i64 4]) (by simp [results, Tryd.results32, go_sem]) rfl ⟨rfl, (by repeat (first | (with_reducible exact Below.refl _ _) | (with_reducible assumption) | (with_reducible refine bl_alloc ?_ _) | (with_reducible refine bl_drew ?_) | (with_reducible refine bl_drewN ?_ _) | (with_reducible refine bl_set ?_ (by first | (simp; done) | (simp; omega)) _) | (with_reducible refine bl_trans ?_ ‹_›)))⟩
  · by_cases h1 : 1 < s.size ∧ tB s 0 = 48
    · have h2 : s[0]'(by omega) = 48 := UInt8.toNat.inj (by rw [← tB_at]; exact h1.2)
      have h3 := h1.1
      go_enter Tryd.func32, Tryd.ntmps32
      go_wp2_with fail
      refine bodyPost_ret (v := .tuple #[.agg #[.int .u64 0, .int .u64 0], .int .i64 4]) (by simp [results, Tryd.results32, go_sem]) rfl ⟨rfl, (by repeat (first | (with_reducible exact Below.refl _ _) | (with_reducible assumption) | (with_reducible refine bl_alloc ?_ _) | (with_reducible refine bl_drew ?_) | (with_reducible refine bl_drewN ?_ _) | (with_reducible refine bl_set ?_ (by first | (simp; done) | (simp; omega)) _) | (with_reducible refine bl_trans ?_ ‹_›)))⟩
    · have hd : ¬ allDig s := fun hd => h ⟨h0, h1, hd⟩
      rcases lead_cases h0 h1 with c1 | ⟨c1, c2⟩
      all_goals
        go_enter Tryd.func32, Tryd.ntmps32
        go_wp2_with fail
        go_loopw [4] (fun i wr => ∃ k : Nat, k ≤ s.size ∧ i = .int .i64 k ∧ (∀ j, j < k → 48 ≤ tB s j ∧ tB s j ≤ 57) ∧ Blk wr w.heap.size 56 #[.int .u64 0, .int .u64 0] ∧ Below w.heap.size w wr) (fun i _ => s.size - (intOf i).toNat)
        case atStart => exact ⟨0, by omega, rfl, fun j hj => absurd hj (by omega), (by repeat (first | (with_reducible assumption) | (with_reducible refine blk_fill (u := .int .u64 0) (v := .int .u64 0) ?_) | (with_reducible refine Blk.drew ?_) | (with_reducible refine Blk.new' _ _ _ _ (by first | (with_reducible rfl) | (simp; done))) | (with_reducible refine Blk.alloc ?_ _) | (with_reducible refine Blk.after ?_ ‹_›) | (with_reducible refine Blk.far ?_ (by first | (simp; done) | (simp; omega)) _))), (by repeat (first | (with_reducible exact Below.refl _ _) | (with_reducible assumption) | (with_reducible refine bl_alloc ?_ _) | (with_reducible refine bl_drew ?_) | (with_reducible refine bl_drewN ?_ _) | (with_reducible refine bl_set ?_ (by first | (simp; done) | (simp; omega)) _) | (with_reducible refine bl_trans ?_ ‹_›)))⟩
        case round =>
          obtain ⟨k, hk, rfl, hall, hbR, hbel⟩ := hrel
          have HA := Lib.hid hall
          have hlR := hbR.lt
          obtain ⟨r0, r1, _⟩ := blk_two hbR
          have rz0 := hbR.frozen 0
          have rz1 := hbR.frozen 1
          clear hall
          by_cases hlt : k < s.size
          · have dk : decide (k < s.size) = true := decide_eq_true hlt
            have hbt := tB_at hlt
            by_cases hlo : tB s k < 48
            · have t1 : decide (((s[k].toNat : Nat) : Int) < 48) = true := decide_eq_true (by omega)
              clear hbt hlo
              go_wp2_with fail
              refine bodyPost_ret (v := .tuple #[.agg #[.int .u64 0, .int .u64 0], .int .i64 4]) (by simp [results, Tryd.results32, go_sem, r0, r1]) rfl ⟨rfl, (by repeat (first | (with_reducible exact Below.refl _ _) | (with_reducible assumption) | (with_reducible refine bl_alloc ?_ _) | (with_reducible refine bl_drew ?_) | (with_reducible refine bl_drewN ?_ _) | (with_reducible refine bl_set ?_ (by first | (simp; done) | (simp; omega)) _) | (with_reducible refine bl_trans ?_ ‹_›)))⟩
            · have t1 : decide (((s[k].toNat : Nat) : Int) < 48) = false := decide_eq_false (by omega)
              by_cases hhi : 57 < tB s k
              · have t2 : decide (57 < ((s[k].toNat : Nat) : Int)) = true := decide_eq_true (by omega)
                clear hbt hlo hhi
                go_wp2_with fail
                refine bodyPost_ret (v := .tuple #[.agg #[.int .u64 0, .int .u64 0], .int .i64 4]) (by simp [results, Tryd.results32, go_sem, r0, r1]) rfl ⟨rfl, (by repeat (first | (with_reducible exact Below.refl _ _) | (with_reducible assumption) | (with_reducible refine bl_alloc ?_ _) | (with_reducible refine bl_drew ?_) | (with_reducible refine bl_drewN ?_ _) | (with_reducible refine bl_set ?_ (by first | (simp; done) | (simp; omega)) _) | (with_reducible refine bl_trans ?_ ‹_›)))⟩
              · have t2 : decide (57 < ((s[k].toNat : Nat) : Int)) = false := decide_eq_false (by omega)
                have HB := Lib.hid (show 48 ≤ tB s k ∧ tB s k ≤ 57 from ⟨by omega, by omega⟩)
                clear hbt hlo hhi
                go_wp2_with fail
                go_roundw
                case rel => exact ⟨k + 1, by omega, by go_num, dig_more HA.out HB.out, (by repeat (first | (with_reducible assumption) | (with_reducible refine blk_fill (u := .int .u64 0) (v := .int .u64 0) ?_) | (with_reducible refine Blk.drew ?_) | (with_reducible refine Blk.new' _ _ _ _ (by first | (with_reducible rfl) | (simp; done))) | (with_reducible refine Blk.alloc ?_ _) | (with_reducible refine Blk.after ?_ ‹_›) | (with_reducible refine Blk.far ?_ (by first | (simp; done) | (simp; omega)) _))), (by repeat (first | (with_reducible exact Below.refl _ _) | (with_reducible assumption) | (with_reducible refine bl_alloc ?_ _) | (with_reducible refine bl_drew ?_) | (with_reducible refine bl_drewN ?_ _) | (with_reducible refine bl_set ?_ (by first | (simp; done) | (simp; omega)) _) | (with_reducible refine bl_trans ?_ ‹_›)))⟩
                case measure => simp [intOf]; omega
          · exact absurd (fun i hi => HA.out i (by omega)) hd
end Go.Proofs.YtnhaejbakgjelaaDoor
