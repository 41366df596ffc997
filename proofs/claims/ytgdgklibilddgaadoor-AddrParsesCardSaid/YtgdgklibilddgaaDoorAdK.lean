/- Addresses: the groups of a long one. -/
import Derived.Test.YtgdgklibilddgaaDoorAdJ
namespace Go.Proofs.YtgdgklibilddgaaDoor
open Go.RowKit

/-- the groups of a number -/
def grps (n : Nat) : List Nat := (List.range 8).map fun i => n / 65536 ^ (7 - i) % 65536
theorem grps_len (n : Nat) : (grps n).length = 8 := by simp [grps]
theorem grps_lt {n g : Nat} (h : g ∈ grps n) : g < 65536 := by
  unfold grps at h
  obtain ⟨i, _, rfl⟩ := List.mem_map.1 h
  omega
theorem grps_at {n i : Nat} (hi : i < 8) : (grps n)[i]? = some (n / 65536 ^ (7 - i) % 65536) := by unfold grps; simp [hi]
theorem valG_grps {n : Nat} (hn : n < 340282366920938463463374607431768211456) : valG (grps n) = n := by
  have e : grps n = [n / 65536 ^ 7 % 65536, n / 65536 ^ 6 % 65536, n / 65536 ^ 5 % 65536, n / 65536 ^ 4 % 65536, n / 65536 ^ 3 % 65536, n / 65536 ^ 2 % 65536, n / 65536 ^ 1 % 65536, n / 65536 ^ 0 % 65536] := rfl
  have step : ∀ k, n / 65536 ^ k = 65536 * (n / 65536 ^ (k + 1)) + n / 65536 ^ k % 65536 := fun k => by
    rw [Nat.pow_succ, ← Nat.div_div_eq_div_mul]; omega
  have top : n / 65536 ^ 8 = 0 := Nat.div_eq_of_lt hn
  have s7 := step 7
  have s6 := step 6
  have s5 := step 5
  have s4 := step 4
  have s3 := step 3
  have s2 := step 2
  have s1 := step 1
  have s0 := step 0
  rw [e]
  unfold valG
  simp only [List.foldl_cons, List.foldl_nil]
  rw [top] at s7
  rw [show n / 65536 ^ 0 = n by simp] at s0 ⊢
  omega
/-- the first groups of a number, noughts behind -/
def gpad (n k : Nat) : List Value := ((grps n).take k).map (fun g => Value.int .u16 (g : Nat)) ++ List.replicate (8 - k) (.int .u16 0)
theorem gpad_put {n k g : Nat} (hk : k < 8) (hg : (grps n)[k]? = some g) : (gpad n k).toArray.setIfInBounds k (.int .u16 (g : Nat)) = (gpad n (k + 1)).toArray := by
  have hl : k < (grps n).length := by rw [grps_len]; exact hk
  rw [List.setIfInBounds_toArray]
  congr 1
  unfold gpad
  have hlen : (((grps n).take k).map (fun g => Value.int .u16 ((g : Nat) : Int))).length = k := by rw [List.length_map, List.length_take, grps_len]; omega
  rw [List.set_append_right _ _ (by rw [hlen]; exact Nat.le_refl _), hlen, Nat.sub_self]
  rw [show 8 - k = (8 - (k + 1)) + 1 by omega, List.replicate_succ]
  rw [List.getElem?_eq_getElem hl] at hg
  injection hg with hg
  rw [List.take_succ_eq_append_getElem hl, hg]
  simp
theorem gpad_len {n k : Nat} (hk : k ≤ 8) : (gpad n k).length = 8 := by
  unfold gpad; rw [List.length_append, List.length_map, List.length_take, grps_len, List.length_replicate]; omega
set_option maxRecDepth 100000 in
set_option maxHeartbeats 3200000 in
theorem pieces_c (v6 : Bool) (n : Nat) (w : World) (hn : n < 340282366920938463463374607431768211456) :
    Calls Tryd.prog 27 #[AddrV v6 n] w fun e w' => e = .returned (.agg (u16V (grps n)).toArray) ∧ Below w.heap.size w w' := by
  rw [AddrV_eq] at *
  unfold AddrC at *
  go_enter Tryd.func27, Tryd.ntmps27
  go_wp2_with fail
  have hA0 : Blk (((w.alloc (Obj.cells #[.bool v6, .int .u64 (hi n), .int .u64 (lo n)] 26)).alloc (Obj.cells #[.int .u16 0, .int .u16 0, .int .u16 0, .int .u16 0, .int .u16 0, .int .u16 0, .int .u16 0, .int .u16 0] 49)).alloc (Obj.cells #[.int .u16 0, .int .u16 0, .int .u16 0, .int .u16 0, .int .u16 0, .int .u16 0, .int .u16 0, .int .u16 0] 49)) w.heap.size 26 (AddrC v6 n) := ((Blk.new w _ _).alloc _).alloc _
  have hR0 : Blk (((w.alloc (Obj.cells #[.bool v6, .int .u64 (hi n), .int .u64 (lo n)] 26)).alloc (Obj.cells #[.int .u16 0, .int .u16 0, .int .u16 0, .int .u16 0, .int .u16 0, .int .u16 0, .int .u16 0, .int .u16 0] 49)).alloc (Obj.cells #[.int .u16 0, .int .u16 0, .int .u16 0, .int .u16 0, .int .u16 0, .int .u16 0, .int .u16 0, .int .u16 0] 49)) (w.heap.size + 1) 49 (gpad n 0).toArray := (Blk.new' _ _ _ _ (by simp)).alloc _
  have hL0 : Blk (((w.alloc (Obj.cells #[.bool v6, .int .u64 (hi n), .int .u64 (lo n)] 26)).alloc (Obj.cells #[.int .u16 0, .int .u16 0, .int .u16 0, .int .u16 0, .int .u16 0, .int .u16 0, .int .u16 0, .int .u16 0] 49)).alloc (Obj.cells #[.int .u16 0, .int .u16 0, .int .u16 0, .int .u16 0, .int .u16 0, .int .u16 0, .int .u16 0, .int .u16 0] 49)) (w.heap.size + 1 + 1) 49 (gpad n 0).toArray := Blk.new' _ _ _ _ (by simp)
  have hbel0 : Below w.heap.size w (((w.alloc (Obj.cells #[.bool v6, .int .u64 (hi n), .int .u64 (lo n)] 26)).alloc (Obj.cells #[.int .u16 0, .int .u16 0, .int .u16 0, .int .u16 0, .int .u16 0, .int .u16 0, .int .u16 0, .int .u16 0] 49)).alloc (Obj.cells #[.int .u16 0, .int .u16 0, .int .u16 0, .int .u16 0, .int .u16 0, .int .u16 0, .int .u16 0, .int .u16 0] 49)) := (by repeat (first | (with_reducible exact Below.refl _ _) | (with_reducible assumption) | (with_reducible refine bl_alloc ?_ _) | (with_reducible refine bl_drew ?_) | (with_reducible refine bl_drewN ?_ _) | (with_reducible refine bl_set ?_ (by first | (simp; done) | (simp; omega)) _) | (with_reducible refine bl_trans ?_ ‹_›)))
  generalize ((w.alloc (Obj.cells #[.bool v6, .int .u64 (hi n), .int .u64 (lo n)] 26)).alloc (Obj.cells #[.int .u16 0, .int .u16 0, .int .u16 0, .int .u16 0, .int .u16 0, .int .u16 0, .int .u16 0, .int .u16 0] 49)).alloc (Obj.cells #[.int .u16 0, .int .u16 0, .int .u16 0, .int .u16 0, .int .u16 0, .int .u16 0, .int .u16 0, .int .u16 0] 49) = w0 at *
  have HSH := Lib.hid (fun k w (hk : (0:Int) ≤ k) => shr_c (hi n) (lo n) k w (hi_nn _) (hi_lt _) (lo_nn _) (lo_lt _) (by omega))
  rw [num_hi_lo hn] at HSH
  go_loopw [5] (fun i wr => ∃ k : Nat, k ≤ 8 ∧ i = .int .i64 k ∧ Blk wr (w.heap.size + 1 + 1) 49 (gpad n k).toArray ∧ Below (w.heap.size + 1 + 1) w0 wr) (fun i _ => 8 - (intOf i).toNat)
  case atStart => exact ⟨0, by omega, rfl, hL0, Below.refl _ _⟩
  case round =>
    obtain ⟨k, hk, rfl, hL, hbw⟩ := hrel
    have hA := hA0.below hbw (by omega)
    have hR := hR0.below hbw (by omega)
    obtain ⟨c0, c1, c2, _⟩ := blk_adr hA
    by_cases hlt : k < 8
    · have d1 : (k : Int) < 8 := by omega
      have hsh : shrN n (128 - 16 * ((k : Int) + 1)) = n / 2 ^ (16 * (7 - k)) := by
        rw [show 128 - 16 * ((k : Int) + 1) = ((16 * (7 - k) : Nat) : Int) by omega]
        exact shrN_nat (by omega) hn
      have HSS := Lib.hid (fun w => HSH.out (128 - 16 * ((k : Int) + 1)) w (by omega))
      rw [hsh] at HSS
      have hgk : (grps n)[k]? = some (n / 65536 ^ (7 - k) % 65536) := grps_at hlt
      have hby : IntKind.u16.wrap (lo (n / 2 ^ (16 * (7 - k)))) = ((n / 65536 ^ (7 - k) % 65536 : Nat) : Int) := by
        rw [Nat.pow_mul]
        show lo _ % 65536 = _
        unfold lo
        rw [show (2 : Nat) ^ 16 = 65536 by decide]
        generalize n / 65536 ^ (7 - k) = x
        omega
      have hput := gpad_put hlt hgk
      have HPUT := Lib.hid hput
      unfold numV at HSS
      generalize n / 2 ^ (16 * (7 - k)) = x at *
      generalize n / 65536 ^ (7 - k) % 65536 = y at *
      have hfd : ∀ w : World, (Instr.field 24 (.agg #[.int .u64 (hi x), .int .u64 (lo x)]) 1).run Tryd.prog w = .ok (.int .u64 (lo x)) w := fun _ => by kernel_rfl
      clear hsh hput hgk HSH
      go_wp2_with fail
      refine (HSS.out _).mono ?_
      rintro e w3 ⟨rfl, hb3⟩
      have hL3 := hL.after hb3
      have hsz3 := hbw.size
      have hbw3 : Below (w.heap.size + 1 + 1) w0 w3 := hbw.trans (hb3.mono (Nat.le_of_lt hL.lt))
      obtain ⟨cv, hcell⟩ : ∃ cv, w3.cell? ⟨w.heap.size + 1 + 1, k, none⟩ = some cv := ⟨(gpad n k).toArray[k]'(by rw [List.size_toArray, gpad_len hk]; exact hlt), by rw [hL3.cell]; simp⟩
      have hfz := hL3.frozen k
      clear c0 c1 c2 hA hR hsz3
      go_wp2_with fail
      go_roundw
      case rel => exact ⟨k + 1, by omega, by go_num, by rw [← HPUT.out]; exact hL3.put k _, hbw3.setCell (Nat.le_refl _) _⟩
      case measure => simp [intOf]; omega
    · obtain rfl : k = 8 := by omega
      have d1 : ¬ (8 : Int) < 8 := by omega
      obtain ⟨a0, a1, a2, a3, a4, a5, a6, a7, hgr⟩ : ∃ a0 a1 a2 a3 a4 a5 a6 a7, grps n = [a0, a1, a2, a3, a4, a5, a6, a7] := ⟨_, _, _, _, _, _, _, _, rfl⟩
      have hpad : gpad n 8 = [.int .u16 (a0 : Nat), .int .u16 (a1 : Nat), .int .u16 (a2 : Nat), .int .u16 (a3 : Nat), .int .u16 (a4 : Nat), .int .u16 (a5 : Nat), .int .u16 (a6 : Nat), .int .u16 (a7 : Nat)] := by unfold gpad; rw [hgr]; rfl
      have hpz : gpad n 0 = [.int .u16 0, .int .u16 0, .int .u16 0, .int .u16 0, .int .u16 0, .int .u16 0, .int .u16 0, .int .u16 0] := rfl
      rw [hpad] at hL
      rw [hpz] at hR
      have HGR := Lib.hid hgr
      have l0 := (hL.cell 0).trans (show _ = some (Value.int .u16 (a0 : Nat)) from rfl)
      have l1 := (hL.cell 1).trans (show _ = some (Value.int .u16 (a1 : Nat)) from rfl)
      have l2 := (hL.cell 2).trans (show _ = some (Value.int .u16 (a2 : Nat)) from rfl)
      have l3 := (hL.cell 3).trans (show _ = some (Value.int .u16 (a3 : Nat)) from rfl)
      have l4 := (hL.cell 4).trans (show _ = some (Value.int .u16 (a4 : Nat)) from rfl)
      have l5 := (hL.cell 5).trans (show _ = some (Value.int .u16 (a5 : Nat)) from rfl)
      have l6 := (hL.cell 6).trans (show _ = some (Value.int .u16 (a6 : Nat)) from rfl)
      have l7 := (hL.cell 7).trans (show _ = some (Value.int .u16 (a7 : Nat)) from rfl)
      have r0 := (hR.cell 0).trans (show _ = some (Value.int .u16 0) from rfl)
      have z0 := hR.frozen 0
      have r1 := (hR.cell 1).trans (show _ = some (Value.int .u16 0) from rfl)
      have z1 := hR.frozen 1
      have r2 := (hR.cell 2).trans (show _ = some (Value.int .u16 0) from rfl)
      have z2 := hR.frozen 2
      have r3 := (hR.cell 3).trans (show _ = some (Value.int .u16 0) from rfl)
      have z3 := hR.frozen 3
      have r4 := (hR.cell 4).trans (show _ = some (Value.int .u16 0) from rfl)
      have z4 := hR.frozen 4
      have r5 := (hR.cell 5).trans (show _ = some (Value.int .u16 0) from rfl)
      have z5 := hR.frozen 5
      have r6 := (hR.cell 6).trans (show _ = some (Value.int .u16 0) from rfl)
      have z6 := hR.frozen 6
      have r7 := (hR.cell 7).trans (show _ = some (Value.int .u16 0) from rfl)
      have z7 := hR.frozen 7
      clear hgr hpad hpz HSH hA c0 c1 c2
      go_wp2_with fail
      refine bodyPost_ret (v := .agg [.int .u16 (a0 : Nat), .int .u16 (a1 : Nat), .int .u16 (a2 : Nat), .int .u16 (a3 : Nat), .int .u16 (a4 : Nat), .int .u16 (a5 : Nat), .int .u16 (a6 : Nat), .int .u16 (a7 : Nat)].toArray) (results_cell_row (t := 49) Tryd.results27 _ _ (w.heap.size + 1) _ (0, 0) _ rfl ((((((((hR.put 0 (.int .u16 (a0 : Nat))).put 1 (.int .u16 (a1 : Nat))).put 2 (.int .u16 (a2 : Nat))).put 3 (.int .u16 (a3 : Nat))).put 4 (.int .u16 (a4 : Nat))).put 5 (.int .u16 (a5 : Nat))).put 6 (.int .u16 (a6 : Nat))).put 7 (.int .u16 (a7 : Nat))) Tryd.underlying49 rfl (by kernel_rfl)) rfl ⟨by rw [HGR.out]; rfl, ?_⟩
      have hb8 := hbel0.trans (hbw.mono (by omega))
      exact (by repeat (first | (with_reducible exact Below.refl _ _) | (with_reducible assumption) | (with_reducible refine bl_alloc ?_ _) | (with_reducible refine bl_drew ?_) | (with_reducible refine bl_drewN ?_ _) | (with_reducible refine bl_set ?_ (by first | (simp; done) | (simp; omega)) _) | (with_reducible refine bl_trans ?_ ‹_›)))
end Go.Proofs.YtgdgklibilddgaaDoor
