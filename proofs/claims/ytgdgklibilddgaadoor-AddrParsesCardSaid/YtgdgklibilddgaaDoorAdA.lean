/- Addresses: the small walks. -/
import Derived.Test.YtgdgklibilddgaaDoorNumD
import Derived.Test.YtgdgklibilddgaaDoorOwn
import Derived.Laws.Rows
import Derived.Laws.Bits64b
import Derived.Deep.RegionHeld3
namespace Go.Proofs.YtgdgklibilddgaaDoor
open Go.RowKit

def AddrV (v6 : Bool) (n : Nat) : Value := .agg #[.bool v6, .int .u64 (hi n), .int .u64 (lo n)]
def widthN (v6 : Bool) : Nat := if v6 then 128 else 32
def rightB (v6 : Bool) (n : Nat) : Bool := decide (n < 2 ^ widthN v6)
set_option maxRecDepth 100000 in
theorem width_c (v6 : Bool) (n : Nat) (w : World) :
    Calls Tryd.prog 44 #[AddrV v6 n] w fun e w' => e = .returned (.int .i64 (widthN v6)) ∧ Below w.heap.size w w' := by
  unfold AddrV
  cases v6
  · go_enter Tryd.func44, Tryd.ntmps44
    go_wp2_with fail
    go_ret
    exact ⟨rfl, (by repeat (first | (with_reducible exact Below.refl _ _) | (with_reducible assumption) | (with_reducible refine bl_alloc ?_ _) | (with_reducible refine bl_drew ?_) | (with_reducible refine bl_drewN ?_ _) | (with_reducible refine bl_set ?_ (by first | (simp; done) | (simp; omega)) _) | (with_reducible refine bl_trans ?_ ‹_›)))⟩
  · go_enter Tryd.func44, Tryd.ntmps44
    go_wp2_with fail
    go_ret
    exact ⟨rfl, (by repeat (first | (with_reducible exact Below.refl _ _) | (with_reducible assumption) | (with_reducible refine bl_alloc ?_ _) | (with_reducible refine bl_drew ?_) | (with_reducible refine bl_drewN ?_ _) | (with_reducible refine bl_set ?_ (by first | (simp; done) | (simp; omega)) _) | (with_reducible refine bl_trans ?_ ‹_›)))⟩
def AddrC (v6 : Bool) (n : Nat) : Array Value := #[.bool v6, .int .u64 (hi n), .int .u64 (lo n)]
theorem AddrV_eq (v6 : Bool) (n : Nat) : AddrV v6 n = .agg (AddrC v6 n) := rfl
theorem blk_adr {w : World} {g : Nat} {v : Bool} {n : Nat} (h : Blk w g 26 (AddrC v n)) : (w.cell? ⟨g, 0, none⟩ = some (.bool v) ∧ w.cell? ⟨g, 1, none⟩ = some (.int .u64 (hi n)) ∧ w.cell? ⟨g, 2, none⟩ = some (.int .u64 (lo n)) ∧ Blk w g 26 (AddrC v n)) := ⟨h.cell 0, h.cell 1, h.cell 2, h⟩
theorem width_n (v6 : Bool) (n : Nat) (hn : n < 340282366920938463463374607431768211456) : decide ((lenN n : Int) ≤ (widthN v6 : Int)) = rightB v6 n := by
  unfold rightB
  rw [Bool.eq_iff_iff]
  simp only [decide_eq_true_eq]
  have key : lenN n ≤ widthN v6 ↔ n < 2 ^ widthN v6 := by
    unfold lenN
    by_cases h0 : n = 0
    · subst h0; simp [Nat.two_pow_pos]
    · rw [if_neg h0]
      rw [Nat.add_one_le_iff]
      exact Nat.log2_lt h0
  rw [← key]; omega
set_option maxRecDepth 100000 in
theorem v6_c (h l : Int) (w : World) :
    Calls Tryd.prog 24 #[.int .u64 h, .int .u64 l] w fun e w' => e = .returned (.agg #[.bool true, .int .u64 h, .int .u64 l]) ∧ Below w.heap.size w w' := by
  go_enter Tryd.func24, Tryd.ntmps24
  go_wp2_with fail
  refine bodyPost_ret (v := .agg #[.bool true, .int .u64 h, .int .u64 l]) (results_cell_row (t := 26) Tryd.results24 _ _ w.heap.size _ (0, 0) _ rfl (heap_alloc_new _ _) Tryd.underlying26 rfl (by kernel_rfl)) rfl ⟨rfl, (by repeat (first | (with_reducible exact Below.refl _ _) | (with_reducible assumption) | (with_reducible refine bl_alloc ?_ _) | (with_reducible refine bl_drew ?_) | (with_reducible refine bl_drewN ?_ _) | (with_reducible refine bl_set ?_ (by first | (simp; done) | (simp; omega)) _) | (with_reducible refine bl_trans ?_ ‹_›)))⟩
set_option maxRecDepth 100000 in
theorem v4_c (n : Nat) (w : World) (hn : n < 4294967296) :
    Calls Tryd.prog 34 #[.int .u32 n] w fun e w' => e = .returned (AddrV false n) ∧ Below w.heap.size w w' := by
  have hc : IntKind.u64.wrap (n : Int) = n := by show (n : Int) % 18446744073709551616 = n; omega
  have h1 : hi n = 0 := by unfold hi; omega
  have h2 : lo n = n := by unfold lo; omega
  have HO := Lib.hid (fun w => of_c (n : Int) w (by omega) (by omega))
  rw [Int.toNat_natCast] at HO
  go_enter Tryd.func34, Tryd.ntmps34
  go_wp2_with fail
  refine (HO.out _).mono ?_
  rintro e w1 ⟨rfl, hb1⟩
  have hR : Blk w1 w.heap.size 26 (AddrC false 0) := (Blk.new w 26 (AddrC false 0)).after hb1
  have hbel : Below w.heap.size w w1 := (by repeat (first | (with_reducible exact Below.refl _ _) | (with_reducible assumption) | (with_reducible refine bl_alloc ?_ _) | (with_reducible refine bl_drew ?_) | (with_reducible refine bl_drewN ?_ _) | (with_reducible refine bl_set ?_ (by first | (simp; done) | (simp; omega)) _) | (with_reducible refine bl_trans ?_ ‹_›)))
  obtain ⟨c0, c1, c2, _⟩ := blk_adr hR
  have z0 := hR.frozen 0
  have z1 := hR.frozen 1
  have z2 := hR.frozen 2
  unfold numV
  rw [h1, h2]
  go_wp2_with fail
  have hv : AddrV false n = .agg #[.bool false, .int .u64 0, .int .u64 n] := by unfold AddrV; rw [h1, h2]
  refine bodyPost_ret (v := .agg #[.bool false, .int .u64 0, .int .u64 n]) (results_cell_row (t := 26) Tryd.results34 _ _ w.heap.size _ (0, 0) _ rfl (((hR.put 0 _).put 1 _).put 2 _) Tryd.underlying26 rfl (by kernel_rfl)) rfl ⟨by rw [hv], (by repeat (first | (with_reducible exact Below.refl _ _) | (with_reducible assumption) | (with_reducible refine bl_alloc ?_ _) | (with_reducible refine bl_drew ?_) | (with_reducible refine bl_drewN ?_ _) | (with_reducible refine bl_set ?_ (by first | (simp; done) | (simp; omega)) _) | (with_reducible refine bl_trans ?_ ‹_›)))⟩
set_option maxRecDepth 100000 in
theorem right_c (v6 : Bool) (n : Nat) (w : World) (hn : n < 340282366920938463463374607431768211456) :
    Calls Tryd.prog 25 #[AddrV v6 n] w fun e w' => e = .returned (.bool (rightB v6 n)) ∧ Below w.heap.size w w' := by
  have HL := Lib.hid (fun w => len_c (hi n) (lo n) w (hi_nn _) (hi_lt _) (lo_nn _) (lo_lt _))
  rw [num_hi_lo hn] at HL
  have HW : Hid (decide (lenN n ≤ widthN v6) = rightB v6 n) := Lib.hid (by rw [← width_n v6 n hn]; congr 1; simp)
  rw [AddrV_eq]
  go_enter Tryd.func25, Tryd.ntmps25
  go_wp2_with fail
  have hA : Blk (w.alloc (.cells (AddrC v6 n) 26)) w.heap.size 26 (AddrC v6 n) := Blk.new _ _ _
  have hbel : Below w.heap.size w (w.alloc (.cells (AddrC v6 n) 26)) := (by repeat (first | (with_reducible exact Below.refl _ _) | (with_reducible assumption) | (with_reducible refine bl_alloc ?_ _) | (with_reducible refine bl_drew ?_) | (with_reducible refine bl_drewN ?_ _) | (with_reducible refine bl_set ?_ (by first | (simp; done) | (simp; omega)) _) | (with_reducible refine bl_trans ?_ ‹_›)))
  generalize w.alloc (.cells (AddrC v6 n) 26) = wz at *
  go_region_held3 (fun w' => (w'.cell? ⟨w.heap.size, 0, none⟩ = some (.bool v6) ∧ w'.cell? ⟨w.heap.size, 1, none⟩ = some (.int .u64 (hi n)) ∧ w'.cell? ⟨w.heap.size, 2, none⟩ = some (.int .u64 (lo n)) ∧ Blk w' w.heap.size 26 (AddrC v6 n)) ∧ Below w.heap.size w w')
    (exact ⟨blk_adr (by repeat (first | (with_reducible assumption) | (with_reducible refine blk_fill (u := .int .u64 0) (v := .int .u64 0) ?_) | (with_reducible refine Blk.drew ?_) | (with_reducible refine Blk.new' _ _ _ _ (by first | (with_reducible rfl) | (simp; done))) | (with_reducible refine Blk.alloc ?_ _) | (with_reducible refine Blk.after ?_ ‹_›) | (with_reducible refine Blk.far ?_ (by first | (simp; done) | (simp; omega)) _))), (by repeat (first | (with_reducible exact Below.refl _ _) | (with_reducible assumption) | (with_reducible refine bl_alloc ?_ _) | (with_reducible refine bl_drew ?_) | (with_reducible refine bl_drewN ?_ _) | (with_reducible refine bl_set ?_ (by first | (simp; done) | (simp; omega)) _) | (with_reducible refine bl_trans ?_ ‹_›)))⟩)
    (first
    | (go_at_call 56; refine (HL.out _).mono ?_; rintro e w3 ⟨rfl, hb3⟩; obtain ⟨hc3, hf3⟩ := bcell hb3; have hz3 := hb3.size; (try simp only [size_alloc', size_setCell', size_drew'] at hz3))
    | (go_at_call 44; refine (width_c v6 n _).mono ?_; rintro e w4 ⟨rfl, hb4⟩; obtain ⟨hc4, hf4⟩ := bcell hb4; have hz4 := hb4.size; (try simp only [size_alloc', size_setCell', size_drew'] at hz4)))
  all_goals
    rw [HW.out]
    go_wp2_with fail
    go_ret
    exact ⟨rfl, (by repeat (first | (with_reducible exact Below.refl _ _) | (with_reducible assumption) | (with_reducible refine bl_alloc ?_ _) | (with_reducible refine bl_drew ?_) | (with_reducible refine bl_drewN ?_ _) | (with_reducible refine bl_set ?_ (by first | (simp; done) | (simp; omega)) _) | (with_reducible refine bl_trans ?_ ‹_›)))⟩
theorem or_nat {a b : Nat} (ha : a < 340282366920938463463374607431768211456) (hb : b < 340282366920938463463374607431768211456) :
    Value.agg #[.int .u64 (bits .or .u64 (hi a) (hi b)), .int .u64 (bits .or .u64 (lo a) (lo b))] = numV (a ||| b) := by
  have e64 : (18446744073709551616 : Nat) = 2 ^ 64 := by decide
  unfold numV hi lo
  rw [bits_or_u64_nat _ _ (Nat.mod_lt _ (by omega)) (Nat.mod_lt _ (by omega)), bits_or_u64_nat _ _ (Nat.mod_lt _ (by omega)) (Nat.mod_lt _ (by omega)), e64]
  rw [← Nat.or_mod_two_pow, ← Nat.or_mod_two_pow, ← Nat.shiftRight_eq_div_pow, ← Nat.shiftRight_eq_div_pow, ← Nat.shiftRight_or_distrib, Nat.shiftRight_eq_div_pow]
set_option maxRecDepth 100000 in
theorem orn_c (a b : Nat) (w : World) (ha : a < 340282366920938463463374607431768211456) (hb : b < 340282366920938463463374607431768211456) :
    Calls Tryd.prog 41 #[numV a, numV b] w fun e w' => e = .returned (numV (a ||| b)) ∧ Below w.heap.size w w' := by
  rw [← or_nat ha hb]
  unfold numV
  have hA := hi_nn a
  generalize hi a = ah, lo a = al, hi b = bh, lo b = bl at *
  go_enter Tryd.func41, Tryd.ntmps41
  go_wp2_with fail
  refine bodyPost_ret (v := .agg #[.int .u64 (bits .or .u64 ah bh), .int .u64 (bits .or .u64 al bl)]) (results_cell_row (t := 24) Tryd.results41 _ _ (w.heap.size + 1 + 1) _ (0, 0) _ rfl (Blk.new' _ _ _ _ (by simp)) Tryd.underlying24 rfl (by kernel_rfl)) rfl ⟨rfl, (by repeat (first | (with_reducible exact Below.refl _ _) | (with_reducible assumption) | (with_reducible refine bl_alloc ?_ _) | (with_reducible refine bl_drew ?_) | (with_reducible refine bl_drewN ?_ _) | (with_reducible refine bl_set ?_ (by first | (simp; done) | (simp; omega)) _) | (with_reducible refine bl_trans ?_ ‹_›)))⟩
/-- so many bits more, with a small number behind -/
theorem shl_or {x k d : Nat} (hx : x * 2 ^ k < 340282366920938463463374607431768211456) (hk : k < 128) (hd : d < 2 ^ k) : shlN x k ||| d = x * 2 ^ k + d := by
  have h1 : shlN x (k : Int) = x * 2 ^ k := by
    unfold shlN
    rw [if_neg (by omega), if_neg (by omega), Int.toNat_natCast, Nat.mod_eq_of_lt hx]
  rw [h1, Nat.mul_comm, ← Nat.two_pow_add_eq_or_of_lt hd]
end Go.Proofs.YtgdgklibilddgaaDoor
