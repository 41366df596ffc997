/- The walks of the bitmaps' New, Size, Has, Put, Drop. -/
import Derived.Test.YtnhaejbakgjelaaDoorBmA
import Derived.Laws.MakeOwn
namespace Go.Proofs.YtnhaejbakgjelaaDoor
open Go.RowKit

/-- in w the map of n bits f lies at block g, its words at block c -/
structure MapAt (w : World) (g c n : Nat) (f : Nat → Bool) : Prop where
  head : Blk w g 65 #[.int .i64 n, .slice (some ⟨c, 0, none⟩) ((n + 63) / 64) ((n + 63) / 64)]
  row : Blk w c 54 (wordsV f ((n + 63) / 64)).toArray
  ne : g ≠ c
  small : n ≤ 65536
  top : ∀ i, n ≤ i → f i = false
theorem MapAt.drew {w : World} {g c n : Nat} {f : Nat → Bool} (h : MapAt w g c n f) : MapAt w.drew g c n f := ⟨h.head, h.row, h.ne, h.small, h.top⟩
theorem MapAt.alloc {w : World} {g c n : Nat} {f : Nat → Bool} (h : MapAt w g c n f) (o : Obj) : MapAt (w.alloc o) g c n f := ⟨h.head.alloc o, h.row.alloc o, h.ne, h.small, h.top⟩
theorem MapAt.after {w w' : World} {g c n : Nat} {f : Nat → Bool} (h : MapAt w g c n f) (hb : Below w.heap.size w w') : MapAt w' g c n f := ⟨h.head.after hb, h.row.after hb, h.ne, h.small, h.top⟩
/-- what lies elsewhere may turn -/
theorem MapAt.grown {w w' : World} {g c n : Nat} {f : Nat → Bool} {row : Option Nat} (h : MapAt w g c n f) (hb : w.grownBy w' row) (h1 : some g ≠ row) (h2 : some c ≠ row) : MapAt w' g c n f :=
  ⟨h.head.grown hb h1, h.row.grown hb h2, h.ne, h.small, h.top⟩
theorem MapAt.size {w : World} {g c n : Nat} {f : Nat → Bool} (h : MapAt w g c n f) : w.cell? ⟨g, 0, none⟩ = some (.int .i64 n) := (h.head.cell 0).trans rfl
theorem MapAt.words {w : World} {g c n : Nat} {f : Nat → Bool} (h : MapAt w g c n f) : w.cell? ⟨g, 1, none⟩ = some (.slice (some ⟨c, 0, none⟩) ((n + 63) / 64) ((n + 63) / 64)) := (h.head.cell 1).trans rfl
theorem MapAt.word {w : World} {g c n : Nat} {f : Nat → Bool} (h : MapAt w g c n f) {k : Nat} (hk : k < (n + 63) / 64) : w.cell? ⟨c, k, none⟩ = some (.int .u64 (W f k : Nat)) := (h.row.cell k).trans (wordsV_get f hk)
theorem MapAt.free {w : World} {g c n : Nat} {f : Nat → Bool} (h : MapAt w g c n f) (k : Nat) : w.frozen? ⟨c, k, none⟩ = false := h.row.frozen k

theorem info_u64 : (Tryd.prog.info? 54).map (fun i => (i.zero, i.size, i.bytes)) = some (some (.int .u64 0), 1, 8) := by kernel_rfl
theorem made_words (K : Nat) : madeCells (Value.cells (.int .u64 0)) K = (wordsV (fun _ => false) K).toArray := by
  rw [words_none]
  apply Array.ext_getElem?
  intro j
  by_cases h : j < K
  · simp [madeCells, Value.cells, h, Nat.mod_one]
  · simp [madeCells, Value.cells, h]
theorem make_words (K : Nat) (hK : K ≤ 65536) (w : World) : (Instr.makeSlice 63 (.int .i64 K) (.int .i64 K)).run Tryd.prog w = .ok (.slice (some ⟨w.heap.size, 0, none⟩) K K) (w.alloc (.cells (wordsV (fun _ => false) K).toArray 54)) := by
  obtain ⟨i0, hi0, hz0, hz1, hz2⟩ := info_parts info_u64
  have h := run_make (P := Tryd.prog) w 63 54 i0 (.int .u64 0) Tryd.underlying63 hi0 hz0 .i64 .i64 K K (by omega) (by omega) (by rw [hz2]; omega) (by omega)
  rw [hz1, Nat.mul_one, made_words] at h
  simpa using h

theorem new_no (n : Int) (w : World) (h : n < 0 ∨ 65536 < n) :
    Calls Tryd.prog 10 #[.int .i64 n] w fun e w' => e = .returned (.tuple #[.pointer none, .int .i64 1]) ∧ w = w' := by
  rcases h with h | h
  · have d1 : decide (n < 0) = true := decide_eq_true h
    go_enter Tryd.func10, Tryd.ntmps10
    go_wp2
    go_ret2
    exact ⟨rfl, rfl⟩
  · have d1 : decide (n < 0) = false := decide_eq_false (by omega)
    have d2 : decide (65536 < n) = true := decide_eq_true h
    go_enter Tryd.func10, Tryd.ntmps10
    go_wp2
    go_ret2
    exact ⟨rfl, rfl⟩
set_option maxRecDepth 100000 in
theorem new_c (n : Nat) (w : World) (h : n ≤ 65536) :
    Calls Tryd.prog 10 #[.int .i64 n] w fun e w' => e = .returned (.tuple #[.pointer (some ⟨w.heap.size + 1, 0, none⟩), .int .i64 0]) ∧ MapAt w' (w.heap.size + 1) w.heap.size n (fun _ => false) ∧ Below w.heap.size w w' := by
  have d1 : decide ((n : Int) < 0) = false := decide_eq_false (by omega)
  have d2 : decide (65536 < (n : Int)) = false := decide_eq_false (by omega)
  have hmk := make_words ((n + 63) / 64) (by omega)
  rw [show (((n + 63) / 64 : Nat) : Int) = ((n : Int) + 64 - 1) / 64 from by omega] at hmk
  go_enter Tryd.func10, Tryd.ntmps10
  go_wp2_with fail
  go_ret2
  exact ⟨rfl, ⟨Blk.new' _ _ _ _ (by simp), (Blk.new _ _ _).alloc _, by omega, h, fun _ _ => rfl⟩, bl_alloc (bl_alloc (Below.refl _ _) _) _⟩

theorem size_c (g c n : Nat) (f : Nat → Bool) (w : World) (h : MapAt w g c n f) :
    Calls Tryd.prog 20 #[.pointer (some ⟨g, 0, none⟩)] w fun e w' => e = .returned (.int .i64 n) ∧ w = w' := by
  have h0 := h.size
  go_enter Tryd.func20, Tryd.ntmps20
  go_wp2
  go_ret
  exact ⟨rfl, rfl⟩
theorem has_no (g c n : Nat) (f : Nat → Bool) (i : Int) (w : World) (h : MapAt w g c n f) (hi : ¬ (0 ≤ i ∧ i < n)) :
    Calls Tryd.prog 13 #[.pointer (some ⟨g, 0, none⟩), .int .i64 i] w fun e w' => e = .returned (.bool false) ∧ Below w.heap.size w w' := by
  have h0 := h.size
  have d : decide (0 ≤ i ∧ i < n) = false := decide_eq_false hi
  go_enter Tryd.func13, Tryd.ntmps13
  go_wp2_with fail
  refine (is_c g n i _ h0).mono ?_
  rw [d]
  rintro e w' ⟨rfl, rfl⟩
  go_wp2_with fail
  go_ret
  exact ⟨rfl, Below.refl _ _⟩
theorem has_yes (g c n : Nat) (f : Nat → Bool) (i : Nat) (w : World) (h : MapAt w g c n f) (hi : i < n) :
    Calls Tryd.prog 13 #[.pointer (some ⟨g, 0, none⟩), .int .i64 i] w fun e w' => e = .returned (.bool (f i)) ∧ w.drew = w' := by
  have h0 := h.size
  have d : decide ((0 : Int) ≤ (i : Int) ∧ (i : Int) < (n : Int)) = true := decide_eq_true (by omega)
  have h1 := h.words
  have h2 := h.word (k := i / 64) (by omega)
  have hs := h.small
  have hh := i_has f (i / 64) (j := i % 64) (by omega)
  rw [show 64 * (i / 64) + i % 64 = i from by omega] at hh
  have d2 : decide (((i / 64 : Nat) : Int) < (((n + 63) / 64 : Nat) : Int)) = true := decide_eq_true (by omega)
  go_enter Tryd.func13, Tryd.ntmps13
  go_wp2_with fail
  refine (is_c g n i _ h0).mono ?_
  rw [d]
  rintro e w' ⟨rfl, rfl⟩
  go_wp2_with fail
  refine (at_c i _ (by omega)).mono ?_
  rintro e w' ⟨rfl, rfl⟩
  go_wp2_with fail
  go_ret
  exact ⟨rfl, rfl⟩

/-- only block c of the old ones may have turned -/
theorem gb_refl (w : World) (row : Option Nat) : w.grownBy w row := ⟨rfl, rfl, rfl, Nat.le_refl _, fun _ _ _ => rfl⟩
theorem gb_trans {a b d : World} {row : Option Nat} (h : a.grownBy b row) (k : b.grownBy d row) : a.grownBy d row :=
  ⟨k.os.trans h.os, k.tape.trans h.tape, k.output.trans h.output, Nat.le_trans h.size k.size, fun i hi hr => (k.block i (Nat.lt_of_lt_of_le hi h.size) hr).trans (h.block i hi hr)⟩
theorem gb_drew {a b : World} {row : Option Nat} (h : a.grownBy b row) : a.grownBy b.drew row := ⟨h.os, h.tape, h.output, h.size, h.block⟩
theorem gb_alloc {a b : World} {row : Option Nat} (h : a.grownBy b row) (o : Obj) : a.grownBy (b.alloc o) row :=
  gb_trans h ⟨rfl, rfl, rfl, by simp, fun k hk _ => Below.heap_alloc _ _ _ hk⟩
theorem gb_set {a b : World} {c k : Nat} (h : a.grownBy b (some c)) (u : Value) : a.grownBy (b.setCell ⟨c, k, none⟩ u) (some c) :=
  gb_trans h ⟨rfl, rfl, rfl, by simp [World.setCell], fun i _ hr => Below.heap_setCell _ _ _ _ (fun e => hr (by rw [e]))⟩
theorem gb_below {a b : World} {row : Option Nat} (h : Below a.heap.size a b) : a.grownBy b row := ⟨h.os, h.tape, h.output, h.size, fun k hk _ => h.block k hk⟩
theorem bl_grown {a w w' : World} {c : Nat} (h : Below a.heap.size a w) (hg : w.grownBy w' (some c)) (hc : a.heap.size ≤ c) : Below a.heap.size a w' :=
  h.grown hg h.size fun k hk => by cases hk; exact hc
theorem MapAt.put {w : World} {g c n i : Nat} {f : Nat → Bool} (h : MapAt w g c n f) (hi : i < n) (b : Bool) : MapAt (w.setCell ⟨c, i / 64, none⟩ (.int .u64 (W (upd f i b) (i / 64) : Nat))) g c n (upd f i b) := by
  refine ⟨h.head.far h.ne _, ?_, h.ne, h.small, fun j hj => ?_⟩
  · rw [← wordsV_put (f := f) (k := i / 64) (fun k' hk _ => W_upd_other f i b hk) (by omega)]
    exact h.row.put _ _
  · rw [upd_ne (by omega)]; exact h.top j hj

theorem put_nil (i : Int) (w : World) :
    Calls Tryd.prog 24 #[.pointer none, .int .i64 i] w fun e w' => e = .returned (.int .i64 2) ∧ w = w' := by
  go_enter Tryd.func24, Tryd.ntmps24
  go_wp2
  go_ret
  exact ⟨rfl, rfl⟩
theorem put_arg (g c n : Nat) (f : Nat → Bool) (i : Int) (w : World) (h : MapAt w g c n f) (hi : ¬ (0 ≤ i ∧ i < n)) :
    Calls Tryd.prog 24 #[.pointer (some ⟨g, 0, none⟩), .int .i64 i] w fun e w' => e = .returned (.int .i64 1) ∧ w = w' := by
  have h0 := h.size
  have d : decide (0 ≤ i ∧ i < n) = false := decide_eq_false hi
  go_enter Tryd.func24, Tryd.ntmps24
  go_wp2_with fail
  refine (is_c g n i _ h0).mono ?_
  rw [d]
  rintro e w' ⟨rfl, rfl⟩
  go_wp2_with fail
  go_ret
  exact ⟨rfl, rfl⟩
theorem put_used (g c n : Nat) (f : Nat → Bool) (i : Nat) (w : World) (h : MapAt w g c n f) (hi : i < n) (hf : f i = true) :
    Calls Tryd.prog 24 #[.pointer (some ⟨g, 0, none⟩), .int .i64 i] w fun e w' => e = .returned (.int .i64 14) ∧ w.drew = w' := by
  have h0 := h.size
  have d : decide ((0 : Int) ≤ (i : Int) ∧ (i : Int) < (n : Int)) = true := decide_eq_true (by omega)
  go_enter Tryd.func24, Tryd.ntmps24
  go_wp2_with fail
  refine (is_c g n i _ h0).mono ?_
  rw [d]
  rintro e w' ⟨rfl, rfl⟩
  go_wp2_with fail
  refine (has_yes g c n f i _ h hi).mono ?_
  rw [hf]
  rintro e w' ⟨rfl, rfl⟩
  go_wp2_with fail
  go_ret
  exact ⟨rfl, rfl⟩
theorem put_c (g c n : Nat) (f : Nat → Bool) (i : Nat) (w : World) (h : MapAt w g c n f) (hi : i < n) (hf : f i = false) :
    Calls Tryd.prog 24 #[.pointer (some ⟨g, 0, none⟩), .int .i64 i] w fun e w' => e = .returned (.int .i64 0) ∧ MapAt w' g c n (upd f i true) ∧ w.grownBy w' (some c) := by
  have h0 := h.size
  have d : decide ((0 : Int) ≤ (i : Int) ∧ (i : Int) < (n : Int)) = true := decide_eq_true (by omega)
  have h1 := h.words
  have h2 := h.word (k := i / 64) (by omega)
  have hz := h.free (i / 64)
  have hs := h.small
  have hh := i_or f (fun x => x == i) (i / 64)
  rw [W_put f i] at hh
  have d2 : decide (((i / 64 : Nat) : Int) < (((n + 63) / 64 : Nat) : Int)) = true := decide_eq_true (by omega)
  go_enter Tryd.func24, Tryd.ntmps24
  go_wp2_with fail
  refine (is_c g n i _ h0).mono ?_
  rw [d]
  rintro e w' ⟨rfl, rfl⟩
  go_wp2_with fail
  refine (has_yes g c n f i _ h hi).mono ?_
  rw [hf]
  rintro e w' ⟨rfl, rfl⟩
  go_wp2_with fail
  refine (at_c i _ (by omega)).mono ?_
  rintro e w' ⟨rfl, rfl⟩
  go_wp2_with fail
  go_ret
  exact ⟨rfl, h.drew.drew.put hi true, gb_set (gb_drew (gb_drew (gb_refl _ _))) _⟩

theorem drop_nil (i : Int) (w : World) :
    Calls Tryd.prog 27 #[.pointer none, .int .i64 i] w fun e w' => e = .returned (.int .i64 2) ∧ w = w' := by
  go_enter Tryd.func27, Tryd.ntmps27
  go_wp2
  go_ret
  exact ⟨rfl, rfl⟩
theorem drop_arg (g c n : Nat) (f : Nat → Bool) (i : Int) (w : World) (h : MapAt w g c n f) (hi : ¬ (0 ≤ i ∧ i < n)) :
    Calls Tryd.prog 27 #[.pointer (some ⟨g, 0, none⟩), .int .i64 i] w fun e w' => e = .returned (.int .i64 1) ∧ w = w' := by
  have h0 := h.size
  have d : decide (0 ≤ i ∧ i < n) = false := decide_eq_false hi
  go_enter Tryd.func27, Tryd.ntmps27
  go_wp2_with fail
  refine (is_c g n i _ h0).mono ?_
  rw [d]
  rintro e w' ⟨rfl, rfl⟩
  go_wp2_with fail
  go_ret
  exact ⟨rfl, rfl⟩
theorem drop_none (g c n : Nat) (f : Nat → Bool) (i : Nat) (w : World) (h : MapAt w g c n f) (hi : i < n) (hf : f i = false) :
    Calls Tryd.prog 27 #[.pointer (some ⟨g, 0, none⟩), .int .i64 i] w fun e w' => e = .returned (.int .i64 7) ∧ w.drew = w' := by
  have h0 := h.size
  have d : decide ((0 : Int) ≤ (i : Int) ∧ (i : Int) < (n : Int)) = true := decide_eq_true (by omega)
  go_enter Tryd.func27, Tryd.ntmps27
  go_wp2_with fail
  refine (is_c g n i _ h0).mono ?_
  rw [d]
  rintro e w' ⟨rfl, rfl⟩
  go_wp2_with fail
  refine (has_yes g c n f i _ h hi).mono ?_
  rw [hf]
  rintro e w' ⟨rfl, rfl⟩
  go_wp2_with fail
  go_ret
  exact ⟨rfl, rfl⟩
theorem drop_c (g c n : Nat) (f : Nat → Bool) (i : Nat) (w : World) (h : MapAt w g c n f) (hi : i < n) (hf : f i = true) :
    Calls Tryd.prog 27 #[.pointer (some ⟨g, 0, none⟩), .int .i64 i] w fun e w' => e = .returned (.int .i64 0) ∧ MapAt w' g c n (upd f i false) ∧ w.grownBy w' (some c) := by
  have h0 := h.size
  have d : decide ((0 : Int) ≤ (i : Int) ∧ (i : Int) < (n : Int)) = true := decide_eq_true (by omega)
  have h1 := h.words
  have h2 := h.word (k := i / 64) (by omega)
  have hz := h.free (i / 64)
  have hs := h.small
  have hh := i_andNot f (fun x => x == i) (i / 64)
  rw [W_drop f i] at hh
  have d2 : decide (((i / 64 : Nat) : Int) < (((n + 63) / 64 : Nat) : Int)) = true := decide_eq_true (by omega)
  go_enter Tryd.func27, Tryd.ntmps27
  go_wp2_with fail
  refine (is_c g n i _ h0).mono ?_
  rw [d]
  rintro e w' ⟨rfl, rfl⟩
  go_wp2_with fail
  refine (has_yes g c n f i _ h hi).mono ?_
  rw [hf]
  rintro e w' ⟨rfl, rfl⟩
  go_wp2_with fail
  refine (at_c i _ (by omega)).mono ?_
  rintro e w' ⟨rfl, rfl⟩
  go_wp2_with fail
  go_ret
  exact ⟨rfl, h.drew.drew.put hi false, gb_set (gb_drew (gb_drew (gb_refl _ _))) _⟩
end Go.Proofs.YtnhaejbakgjelaaDoor
