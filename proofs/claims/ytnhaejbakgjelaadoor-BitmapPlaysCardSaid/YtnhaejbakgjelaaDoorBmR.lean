/- The walks of the reference's maps: New, Has, Put, Drop, Set, Count, Next. -/
import Derived.Test.YtnhaejbakgjelaaDoorBmE
namespace Go.Proofs.YtnhaejbakgjelaaDoor
open Go.RowKit

def boolsV (f : Nat → Bool) (n : Nat) : List Value := (List.range n).map fun k => Value.bool (f k)
theorem boolsV_get (f : Nat → Bool) {n k : Nat} (h : k < n) : (boolsV f n).toArray[k]? = some (.bool (f k)) := by simp [boolsV, h]
theorem boolsV_put (f : Nat → Bool) {n k : Nat} (b : Bool) (hk : k < n) : (boolsV f n).toArray.setIfInBounds k (.bool b) = (boolsV (upd f k b) n).toArray := by
  apply Array.ext_getElem?
  intro j
  rw [Array.getElem?_setIfInBounds]
  simp only [boolsV, List.getElem?_toArray, List.getElem?_map, List.size_toArray, List.length_map, List.length_range]
  by_cases hjk : k = j
  · subst hjk; simp [hk, upd]
  · rw [if_neg hjk]
    by_cases hj : j < n
    · simp [hj]; rw [upd_ne (by omega)]
    · simp [hj]
/-- in w the reference's map of n bits f lies at block g, its truths at block c -/
structure RefAt (w : World) (g c n : Nat) (f : Nat → Bool) : Prop where
  head : Blk w g 41 #[.slice (some ⟨c, 0, none⟩) n n]
  row : Blk w c 4 (boolsV f n).toArray
  ne : g ≠ c
  small : n ≤ 65536
theorem RefAt.drew {w : World} {g c n : Nat} {f : Nat → Bool} (h : RefAt w g c n f) : RefAt w.drew g c n f := ⟨h.head, h.row, h.ne, h.small⟩
theorem RefAt.alloc {w : World} {g c n : Nat} {f : Nat → Bool} (h : RefAt w g c n f) (o : Obj) : RefAt (w.alloc o) g c n f := ⟨h.head.alloc o, h.row.alloc o, h.ne, h.small⟩
theorem RefAt.after {w w' : World} {g c n : Nat} {f : Nat → Bool} (h : RefAt w g c n f) (hb : Below w.heap.size w w') : RefAt w' g c n f := ⟨h.head.after hb, h.row.after hb, h.ne, h.small⟩
theorem RefAt.grown {w w' : World} {g c n : Nat} {f : Nat → Bool} {row : Option Nat} (h : RefAt w g c n f) (hb : w.grownBy w' row) (h1 : some g ≠ row) (h2 : some c ≠ row) : RefAt w' g c n f :=
  ⟨h.head.grown hb h1, h.row.grown hb h2, h.ne, h.small⟩
theorem RefAt.bools {w : World} {g c n : Nat} {f : Nat → Bool} (h : RefAt w g c n f) : w.cell? ⟨g, 0, none⟩ = some (.slice (some ⟨c, 0, none⟩) n n) := (h.head.cell 0).trans rfl
theorem RefAt.bit {w : World} {g c n : Nat} {f : Nat → Bool} (h : RefAt w g c n f) {k : Nat} (hk : k < n) : w.cell? ⟨c, k, none⟩ = some (.bool (f k)) := (h.row.cell k).trans (boolsV_get f hk)
theorem RefAt.free {w : World} {g c n : Nat} {f : Nat → Bool} (h : RefAt w g c n f) (k : Nat) : w.frozen? ⟨c, k, none⟩ = false := h.row.frozen k
theorem RefAt.put {w : World} {g c n i : Nat} {f : Nat → Bool} (h : RefAt w g c n f) (hi : i < n) (b : Bool) : RefAt (w.setCell ⟨c, i, none⟩ (.bool b)) g c n (upd f i b) := by
  refine ⟨h.head.far h.ne _, ?_, h.ne, h.small⟩
  rw [← boolsV_put f b hi]
  exact h.row.put _ _
theorem RefAt.same {w : World} {g c n : Nat} {f f' : Nat → Bool} (h : RefAt w g c n f) (e : f = f') : RefAt w g c n f' := e ▸ h

theorem info_bool : (Tryd.prog.info? 4).map (fun i => (i.zero, i.size, i.bytes)) = some (some (.bool false), 1, 1) := by kernel_rfl
theorem made_bools (K : Nat) : madeCells (Value.cells (.bool false)) K = (boolsV (fun _ => false) K).toArray := by
  apply Array.ext_getElem?
  intro j
  by_cases h : j < K
  · simp [madeCells, Value.cells, h, Nat.mod_one, boolsV]
  · simp [madeCells, Value.cells, h, boolsV]
theorem make_bools (K : Nat) (hK : K ≤ 65536) (w : World) : (Instr.makeSlice 39 (.int .i64 K) (.int .i64 K)).run Tryd.prog w = .ok (.slice (some ⟨w.heap.size, 0, none⟩) K K) (w.alloc (.cells (boolsV (fun _ => false) K).toArray 4)) := by
  obtain ⟨i0, hi0, hz0, hz1, hz2⟩ := info_parts info_bool
  have h := run_make (P := Tryd.prog) w 39 4 i0 (.bool false) Tryd.underlying39 hi0 hz0 .i64 .i64 K K (by omega) (by omega) (by rw [hz2]; omega) (by omega)
  rw [hz1, Nat.mul_one, made_bools] at h
  simpa using h

set_option maxRecDepth 20000 in
theorem rnew_no (n : Int) (w : World) (h : n < 0 ∨ 65536 < n) :
    Calls Tryd.prog 21 #[.int .i64 n] w fun e w' => e = .returned (.tuple #[.pointer none, .int .i64 1]) ∧ w = w' := by
  rcases h with h | h
  · have d1 : decide (n < 0) = true := decide_eq_true h
    go_enter Tryd.func21, Tryd.ntmps21
    go_wp2
    go_ret2
    exact ⟨rfl, rfl⟩
  · have d1 : decide (n < 0) = false := decide_eq_false (by omega)
    have d2 : decide (65536 < n) = true := decide_eq_true h
    go_enter Tryd.func21, Tryd.ntmps21
    go_wp2
    go_ret2
    exact ⟨rfl, rfl⟩
set_option maxRecDepth 100000 in
theorem rnew_c (n : Nat) (w : World) (h : n ≤ 65536) :
    Calls Tryd.prog 21 #[.int .i64 n] w fun e w' => e = .returned (.tuple #[.pointer (some ⟨w.heap.size + 1, 0, none⟩), .int .i64 0]) ∧ RefAt w' (w.heap.size + 1) w.heap.size n (fun _ => false) ∧ Below w.heap.size w w' := by
  have d1 : decide ((n : Int) < 0) = false := decide_eq_false (by omega)
  have d2 : decide (65536 < (n : Int)) = false := decide_eq_false (by omega)
  have hmk := make_bools n h
  go_enter Tryd.func21, Tryd.ntmps21
  go_wp2_with fail
  go_ret2
  exact ⟨rfl, ⟨Blk.new' _ _ _ _ (by simp), (Blk.new _ _ _).alloc _, by omega, h⟩, bl_alloc (bl_alloc (Below.refl _ _) _) _⟩

theorem rhas_no (g c n : Nat) (f : Nat → Bool) (i : Int) (w : World) (h : RefAt w g c n f) (hi : ¬ (0 ≤ i ∧ i < n)) :
    Calls Tryd.prog 23 #[.pointer (some ⟨g, 0, none⟩), .int .i64 i] w fun e w' => e = .returned (.bool false) ∧ w = w' := by
  have h0 := h.bools
  have hs := h.small
  by_cases h1 : 0 ≤ i
  · go_enter Tryd.func23, Tryd.ntmps23
    go_wp2_with fail
    go_ret
    exact ⟨rfl, rfl⟩
  · go_enter Tryd.func23, Tryd.ntmps23
    go_wp2_with fail
    go_ret
    exact ⟨rfl, rfl⟩
theorem rhas_yes (g c n : Nat) (f : Nat → Bool) (i : Nat) (w : World) (h : RefAt w g c n f) (hi : i < n) :
    Calls Tryd.prog 23 #[.pointer (some ⟨g, 0, none⟩), .int .i64 i] w fun e w' => e = .returned (.bool (f i)) ∧ w = w' := by
  have h0 := h.bools
  have h1 := h.bit hi
  have hs := h.small
  go_enter Tryd.func23, Tryd.ntmps23
  go_wp2_with fail
  go_ret
  exact ⟨rfl, rfl⟩
theorem rput_arg (g c n : Nat) (f : Nat → Bool) (i : Int) (w : World) (h : RefAt w g c n f) (hi : ¬ (0 ≤ i ∧ i < n)) :
    Calls Tryd.prog 42 #[.pointer (some ⟨g, 0, none⟩), .int .i64 i] w fun e w' => e = .returned (.int .i64 1) ∧ w = w' := by
  have h0 := h.bools
  have hs := h.small
  by_cases h1 : i < 0
  · go_enter Tryd.func42, Tryd.ntmps42
    go_wp2_with fail
    go_ret
    exact ⟨rfl, rfl⟩
  · go_enter Tryd.func42, Tryd.ntmps42
    go_wp2_with fail
    go_ret
    exact ⟨rfl, rfl⟩
theorem rput_used (g c n : Nat) (f : Nat → Bool) (i : Nat) (w : World) (h : RefAt w g c n f) (hi : i < n) (hf : f i = true) :
    Calls Tryd.prog 42 #[.pointer (some ⟨g, 0, none⟩), .int .i64 i] w fun e w' => e = .returned (.int .i64 14) ∧ w = w' := by
  have h0 := h.bools
  have h1 := h.bit hi
  rw [hf] at h1
  have hs := h.small
  go_enter Tryd.func42, Tryd.ntmps42
  go_wp2_with fail
  go_ret
  exact ⟨rfl, rfl⟩
theorem rput_c (g c n : Nat) (f : Nat → Bool) (i : Nat) (w : World) (h : RefAt w g c n f) (hi : i < n) (hf : f i = false) :
    Calls Tryd.prog 42 #[.pointer (some ⟨g, 0, none⟩), .int .i64 i] w fun e w' => e = .returned (.int .i64 0) ∧ RefAt w' g c n (upd f i true) ∧ w.grownBy w' (some c) := by
  have h0 := h.bools
  have h1 := h.bit hi
  rw [hf] at h1
  have hs := h.small
  have hz := h.free i
  go_enter Tryd.func42, Tryd.ntmps42
  go_wp2_with fail
  go_ret
  exact ⟨rfl, h.put hi true, gb_set (gb_refl _ _) _⟩
theorem rdrop_arg (g c n : Nat) (f : Nat → Bool) (i : Int) (w : World) (h : RefAt w g c n f) (hi : ¬ (0 ≤ i ∧ i < n)) :
    Calls Tryd.prog 43 #[.pointer (some ⟨g, 0, none⟩), .int .i64 i] w fun e w' => e = .returned (.int .i64 1) ∧ w = w' := by
  have h0 := h.bools
  have hs := h.small
  by_cases h1 : i < 0
  · go_enter Tryd.func43, Tryd.ntmps43
    go_wp2_with fail
    go_ret
    exact ⟨rfl, rfl⟩
  · go_enter Tryd.func43, Tryd.ntmps43
    go_wp2_with fail
    go_ret
    exact ⟨rfl, rfl⟩
theorem rdrop_none (g c n : Nat) (f : Nat → Bool) (i : Nat) (w : World) (h : RefAt w g c n f) (hi : i < n) (hf : f i = false) :
    Calls Tryd.prog 43 #[.pointer (some ⟨g, 0, none⟩), .int .i64 i] w fun e w' => e = .returned (.int .i64 7) ∧ w = w' := by
  have h0 := h.bools
  have h1 := h.bit hi
  rw [hf] at h1
  have hs := h.small
  go_enter Tryd.func43, Tryd.ntmps43
  go_wp2_with fail
  go_ret
  exact ⟨rfl, rfl⟩
theorem rdrop_c (g c n : Nat) (f : Nat → Bool) (i : Nat) (w : World) (h : RefAt w g c n f) (hi : i < n) (hf : f i = true) :
    Calls Tryd.prog 43 #[.pointer (some ⟨g, 0, none⟩), .int .i64 i] w fun e w' => e = .returned (.int .i64 0) ∧ RefAt w' g c n (upd f i false) ∧ w.grownBy w' (some c) := by
  have h0 := h.bools
  have h1 := h.bit hi
  rw [hf] at h1
  have hs := h.small
  have hz := h.free i
  go_enter Tryd.func43, Tryd.ntmps43
  go_wp2_with fail
  go_ret
  exact ⟨rfl, h.put hi false, gb_set (gb_refl _ _) _⟩

theorem rcount_c (g c n : Nat) (f : Nat → Bool) (w : World) (h : RefAt w g c n f) :
    Calls Tryd.prog 19 #[.pointer (some ⟨g, 0, none⟩)] w fun e w' => e = .returned (.int .i64 (cnt f 0 n)) ∧ w = w' := by
  have h0 := h.bools
  have hs := h.small
  have hw : ∀ k, k < n → w.cell? ⟨c, k, none⟩ = some (.bool (f k)) := fun k hk => h.bit hk
  have HW := Lib.hid hw
  clear hw
  go_enter Tryd.func19, Tryd.ntmps19
  go_wp2_with fail
  go_loop [3, 4] (fun s i => ∃ k : Nat, k ≤ n ∧ i = .int .i64 k ∧ s = .int .i64 (cnt f 0 k : Nat)) (fun _ i => n - (intOf i).toNat)
  case atStart => exact ⟨0, by omega, rfl, rfl⟩
  case round =>
    obtain ⟨k, hk, rfl, rfl⟩ := hrel
    by_cases hlt : k < n
    · have hc := HW.out k hlt
      have hb := cnt_le f 0 k
      have hj : cnt f 0 (k + 1) = cnt f 0 k + (f k).toNat := by rw [cnt, Nat.zero_add]
      cases hf : f k
      all_goals
        rw [hf] at hc hj
        have HJ := Lib.hid hj
        clear hj
        have HF := Lib.hid hf
        clear hf
        go_wp2_with fail
        go_round
        case rel => exact ⟨k + 1, by omega, by go_num, by rw [HJ.out]; simp⟩
        case measure => simp [intOf]; omega
    · obtain rfl : k = n := by omega
      go_wp2_with fail
      go_ret
      exact ⟨rfl, rfl⟩
end Go.Proofs.YtnhaejbakgjelaaDoor
