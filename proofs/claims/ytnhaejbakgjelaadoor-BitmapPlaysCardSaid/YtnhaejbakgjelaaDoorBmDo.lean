/- The walk of one act on both maps. -/
import Derived.Test.YtnhaejbakgjelaaDoorBmCp
import Derived.Deep.RegionHeld3
import Derived.Deep.Cut
namespace Go.Proofs.YtnhaejbakgjelaaDoor
open Go.RowKit

/-! What Put, Drop, Fill, Clear answer, and what they leave. -/
def inB (n : Nat) (i : Int) : Prop := 0 ≤ i ∧ i < n
instance (n : Nat) (i : Int) : Decidable (inB n i) := by unfold inB; infer_instance
def putE (f : Nat → Bool) (n : Nat) (i : Int) : Int := if inB n i then (if f i.toNat = true then 14 else 0) else 1
def putF (f : Nat → Bool) (n : Nat) (i : Int) : Nat → Bool := if inB n i then upd f i.toNat true else f
def dropE (f : Nat → Bool) (n : Nat) (i : Int) : Int := if inB n i then (if f i.toNat = true then 0 else 7) else 1
def dropF (f : Nat → Bool) (n : Nat) (i : Int) : Nat → Bool := if inB n i then upd f i.toNat false else f
def rowB (n : Nat) (i j : Int) : Prop := 0 ≤ i ∧ i ≤ j ∧ j < n
instance (n : Nat) (i j : Int) : Decidable (rowB n i j) := by unfold rowB; infer_instance
def setN (b : Bool) (f : Nat → Bool) (n : Nat) (i j : Int) : Int := if rowB n i j then (cnt (fun x => f x != b) i.toNat (j.toNat + 1 - i.toNat) : Nat) else 0
def setE (n : Nat) (i j : Int) : Int := if rowB n i j then 0 else 1
def setF (b : Bool) (f : Nat → Bool) (n : Nat) (i j : Int) : Nat → Bool := if rowB n i j then (fun x => if i.toNat ≤ x ∧ x ≤ j.toNat then b else f x) else f
theorem upd_id {f : Nat → Bool} {i : Nat} {b : Bool} (h : f i = b) : upd f i b = f := by
  funext x; unfold upd; by_cases e : x = i
  · subst e; rw [if_pos rfl, h]
  · rw [if_neg e]

theorem put_any (g c n : Nat) (f : Nat → Bool) (i : Int) (w : World) (h : MapAt w g c n f) :
    Calls Tryd.prog 24 #[.pointer (some ⟨g, 0, none⟩), .int .i64 i] w fun e w' => e = .returned (.int .i64 (putE f n i)) ∧ MapAt w' g c n (putF f n i) ∧ w.grownBy w' (some c) := by
  unfold putE putF
  by_cases hi : inB n i
  · rw [if_pos hi, if_pos hi]
    obtain ⟨I, rfl⟩ := Int.eq_ofNat_of_zero_le hi.1
    rw [Int.toNat_natCast]
    have hI : I < n := by have := hi.2; omega
    cases hf : f I
    · rw [if_neg (by simp)]
      exact put_c g c n f I w h hI hf
    · rw [if_pos rfl]
      exact (put_used g c n f I w h hI hf).mono fun e w' ⟨a, b⟩ => ⟨a, by rw [upd_id hf, ← b]; exact h.drew, by rw [← b]; exact gb_drew (gb_refl _ _)⟩
  · rw [if_neg hi, if_neg hi]
    exact (put_arg g c n f i w h hi).mono fun e w' ⟨a, b⟩ => ⟨a, by rw [← b]; exact h, by rw [← b]; exact gb_refl _ _⟩
theorem rput_any (g c n : Nat) (f : Nat → Bool) (i : Int) (w : World) (h : RefAt w g c n f) :
    Calls Tryd.prog 42 #[.pointer (some ⟨g, 0, none⟩), .int .i64 i] w fun e w' => e = .returned (.int .i64 (putE f n i)) ∧ RefAt w' g c n (putF f n i) ∧ w.grownBy w' (some c) := by
  unfold putE putF
  by_cases hi : inB n i
  · rw [if_pos hi, if_pos hi]
    obtain ⟨I, rfl⟩ := Int.eq_ofNat_of_zero_le hi.1
    rw [Int.toNat_natCast]
    have hI : I < n := by have := hi.2; omega
    cases hf : f I
    · rw [if_neg (by simp)]
      exact rput_c g c n f I w h hI hf
    · rw [if_pos rfl]
      exact (rput_used g c n f I w h hI hf).mono fun e w' ⟨a, b⟩ => ⟨a, by rw [upd_id hf, ← b]; exact h, by rw [← b]; exact gb_refl _ _⟩
  · rw [if_neg hi, if_neg hi]
    exact (rput_arg g c n f i w h hi).mono fun e w' ⟨a, b⟩ => ⟨a, by rw [← b]; exact h, by rw [← b]; exact gb_refl _ _⟩
theorem drop_any (g c n : Nat) (f : Nat → Bool) (i : Int) (w : World) (h : MapAt w g c n f) :
    Calls Tryd.prog 27 #[.pointer (some ⟨g, 0, none⟩), .int .i64 i] w fun e w' => e = .returned (.int .i64 (dropE f n i)) ∧ MapAt w' g c n (dropF f n i) ∧ w.grownBy w' (some c) := by
  unfold dropE dropF
  by_cases hi : inB n i
  · rw [if_pos hi, if_pos hi]
    obtain ⟨I, rfl⟩ := Int.eq_ofNat_of_zero_le hi.1
    rw [Int.toNat_natCast]
    have hI : I < n := by have := hi.2; omega
    cases hf : f I
    · rw [if_neg (by simp)]
      exact (drop_none g c n f I w h hI hf).mono fun e w' ⟨a, b⟩ => ⟨a, by rw [upd_id hf, ← b]; exact h.drew, by rw [← b]; exact gb_drew (gb_refl _ _)⟩
    · rw [if_pos rfl]
      exact drop_c g c n f I w h hI hf
  · rw [if_neg hi, if_neg hi]
    exact (drop_arg g c n f i w h hi).mono fun e w' ⟨a, b⟩ => ⟨a, by rw [← b]; exact h, by rw [← b]; exact gb_refl _ _⟩
theorem rdrop_any (g c n : Nat) (f : Nat → Bool) (i : Int) (w : World) (h : RefAt w g c n f) :
    Calls Tryd.prog 43 #[.pointer (some ⟨g, 0, none⟩), .int .i64 i] w fun e w' => e = .returned (.int .i64 (dropE f n i)) ∧ RefAt w' g c n (dropF f n i) ∧ w.grownBy w' (some c) := by
  unfold dropE dropF
  by_cases hi : inB n i
  · rw [if_pos hi, if_pos hi]
    obtain ⟨I, rfl⟩ := Int.eq_ofNat_of_zero_le hi.1
    rw [Int.toNat_natCast]
    have hI : I < n := by have := hi.2; omega
    cases hf : f I
    · rw [if_neg (by simp)]
      exact (rdrop_none g c n f I w h hI hf).mono fun e w' ⟨a, b⟩ => ⟨a, by rw [upd_id hf, ← b]; exact h, by rw [← b]; exact gb_refl _ _⟩
    · rw [if_pos rfl]
      exact rdrop_c g c n f I w h hI hf
  · rw [if_neg hi, if_neg hi]
    exact (rdrop_arg g c n f i w h hi).mono fun e w' ⟨a, b⟩ => ⟨a, by rw [← b]; exact h, by rw [← b]; exact gb_refl _ _⟩
theorem fill_any (g c n : Nat) (f : Nat → Bool) (i j : Int) (w : World) (h : MapAt w g c n f) :
    Calls Tryd.prog 11 #[.pointer (some ⟨g, 0, none⟩), .int .i64 i, .int .i64 j] w fun e w' => e = .returned (.tuple #[.int .i64 (setN true f n i j), .int .i64 (setE n i j)]) ∧ MapAt w' g c n (setF true f n i j) ∧ w.grownBy w' (some c) := by
  unfold setN setE setF
  by_cases hi : rowB n i j
  · rw [if_pos hi, if_pos hi, if_pos hi]
    obtain ⟨I, rfl⟩ := Int.eq_ofNat_of_zero_le hi.1
    obtain ⟨J, rfl⟩ := Int.eq_ofNat_of_zero_le (Int.le_trans hi.1 hi.2.1)
    rw [Int.toNat_natCast, Int.toNat_natCast, show (fun x => f x != true) = (fun x => !f x) from by funext x; cases f x <;> rfl]
    exact fill_c g c n I J f w h (by have := hi.2.1; omega) (by have := hi.2.2; omega)
  · rw [if_neg hi, if_neg hi, if_neg hi]
    exact (fill_arg g c n f i j w h hi).mono fun e w' ⟨a, b⟩ => ⟨a, h.after b, gb_below b⟩
theorem clear_any (g c n : Nat) (f : Nat → Bool) (i j : Int) (w : World) (h : MapAt w g c n f) :
    Calls Tryd.prog 15 #[.pointer (some ⟨g, 0, none⟩), .int .i64 i, .int .i64 j] w fun e w' => e = .returned (.tuple #[.int .i64 (setN false f n i j), .int .i64 (setE n i j)]) ∧ MapAt w' g c n (setF false f n i j) ∧ w.grownBy w' (some c) := by
  unfold setN setE setF
  by_cases hi : rowB n i j
  · rw [if_pos hi, if_pos hi, if_pos hi]
    obtain ⟨I, rfl⟩ := Int.eq_ofNat_of_zero_le hi.1
    obtain ⟨J, rfl⟩ := Int.eq_ofNat_of_zero_le (Int.le_trans hi.1 hi.2.1)
    rw [Int.toNat_natCast, Int.toNat_natCast, show (fun x => f x != false) = (fun x => f x) from by funext x; cases f x <;> rfl]
    exact clear_c g c n I J f w h (by have := hi.2.1; omega) (by have := hi.2.2; omega)
  · rw [if_neg hi, if_neg hi, if_neg hi]
    exact (clear_arg g c n f i j w h hi).mono fun e w' ⟨a, b⟩ => ⟨a, h.after b, gb_below b⟩
theorem rset_any (g c n : Nat) (f : Nat → Bool) (i j : Int) (b : Bool) (w : World) (h : RefAt w g c n f) :
    Calls Tryd.prog 44 #[.pointer (some ⟨g, 0, none⟩), .int .i64 i, .int .i64 j, .bool b] w fun e w' => e = .returned (.tuple #[.int .i64 (setN b f n i j), .int .i64 (setE n i j)]) ∧ RefAt w' g c n (setF b f n i j) ∧ w.grownBy w' (some c) := by
  unfold setN setE setF
  by_cases hi : rowB n i j
  · rw [if_pos hi, if_pos hi, if_pos hi]
    obtain ⟨I, rfl⟩ := Int.eq_ofNat_of_zero_le hi.1
    obtain ⟨J, rfl⟩ := Int.eq_ofNat_of_zero_le (Int.le_trans hi.1 hi.2.1)
    rw [Int.toNat_natCast, Int.toNat_natCast]
    exact rset_c g c n I J f b w h (by have := hi.2.1; omega) (by have := hi.2.2; omega)
  · rw [if_neg hi, if_neg hi, if_neg hi]
    exact (rset_arg g c n f i j b w h hi).mono fun e w' ⟨a, b⟩ => ⟨a, by rw [← b]; exact h, by rw [← b]; exact gb_refl _ _⟩

/-- both maps, of the same bits, in blocks of the law's own -/
structure Both (w0 : World) (w : World) (g c rg rc n : Nat) (f : Nat → Bool) : Prop where
  map : MapAt w g c n f
  ref : RefAt w rg rc n f
  below : Below w0.heap.size w0 w
  g0 : w0.heap.size ≤ g
  c0 : w0.heap.size ≤ c
  rg0 : w0.heap.size ≤ rg
  rc0 : w0.heap.size ≤ rc
theorem MapAt.apart {w : World} {g c rg rc n m : Nat} {f h : Nat → Bool} (x : MapAt w g c n f) (y : RefAt w rg rc m h) : g ≠ rg ∧ g ≠ rc ∧ c ≠ rg ∧ c ≠ rc :=
  ⟨x.head.ne y.head (by decide), x.head.ne y.row (by decide), x.row.ne y.head (by decide), x.row.ne y.row (by decide)⟩
/-- what one act comes to -/
def Done (w0 : World) (rg rc n : Nat) (e : Ending) (w : World) : Prop := ∃ g c f, e = .returned (.tuple #[.pointer (some ⟨g, 0, none⟩), .bool true]) ∧ Both w0 w g c rg rc n f
theorem some_ne {a b : Nat} (h : a ≠ b) : some a ≠ some b := fun e => h (by cases e; rfl)
/-- both have been turned alike, one behind the other -/
theorem Both.turn {w0 w w1 w2 : World} {g c rg rc n : Nat} {f f' : Nat → Bool} (h : Both w0 w g c rg rc n f) (m1 : MapAt w1 g c n f') (g1 : w.grownBy w1 (some c)) (r2 : RefAt w2 rg rc n f') (g2 : w1.grownBy w2 (some rc)) : Both w0 w2 g c rg rc n f' := by
  obtain ⟨a1, a2, a3, a4⟩ := h.map.apart h.ref
  exact ⟨m1.grown g2 (some_ne a2) (some_ne a4), r2, bl_grown (bl_grown h.below g1 h.c0) g2 h.rc0, h.g0, h.c0, h.rg0, h.rc0⟩
theorem Both.ref1 {w0 w w1 : World} {g c rg rc n : Nat} {f : Nat → Bool} (h : Both w0 w g c rg rc n f) (g1 : w.grownBy w1 (some c)) : RefAt w1 rg rc n f := by
  obtain ⟨a1, a2, a3, a4⟩ := h.map.apart h.ref
  exact h.ref.grown g1 (some_ne a3.symm) (some_ne a4.symm)
theorem Both.drew {w0 w : World} {g c rg rc n : Nat} {f : Nat → Bool} (h : Both w0 w g c rg rc n f) : Both w0 w.drew g c rg rc n f := ⟨h.map.drew, h.ref.drew, bl_drew h.below, h.g0, h.c0, h.rg0, h.rc0⟩
theorem Both.alloc {w0 w : World} {g c rg rc n : Nat} {f : Nat → Bool} (h : Both w0 w g c rg rc n f) (o : Obj) : Both w0 (w.alloc o) g c rg rc n f := ⟨h.map.alloc o, h.ref.alloc o, bl_alloc h.below o, h.g0, h.c0, h.rg0, h.rc0⟩

theorem does_put (g c rg rc n : Nat) (f : Nat → Bool) (A B : Int) (w0 w : World) (h : Both w0 w g c rg rc n f) :
    Calls Tryd.prog 22 #[.pointer (some ⟨g, 0, none⟩), .pointer (some ⟨rg, 0, none⟩), .agg #[.int .i64 1, .int .i64 A, .int .i64 B]] w (Done w0 rg rc n) := by
  have hx := Blk.new w 49 #[.int .i64 1, .int .i64 A, .int .i64 B]
  have hb := h.alloc (.cells #[.int .i64 1, .int .i64 A, .int .i64 B] 49)
  have hcl := h.map.row.lt
  have hrl := h.ref.row.lt
  go_enter Tryd.func22, Tryd.ntmps22
  go_upto_region 3 with (fail)
  generalize w.alloc (.cells #[.int .i64 1, .int .i64 A, .int .i64 B] 49) = W at *
  have n1 : w.heap.size ≠ c := by omega
  have n2 : w.heap.size ≠ rc := by omega
  generalize w.heap.size = bx at *
  have k1 := (hx.cell 1).trans rfl
  simp only [List.getElem?_toArray, List.getElem?_cons_zero, List.getElem?_cons_succ] at k1
  go_region_held3 (fun w' => w'.cell? ⟨bx, 1, none⟩ = some (.int .i64 A)) (first | assumption)
    (first
    | (go_at_call 24; refine (put_any g c n f A _ hb.drew.map).mono ?_; rintro e w1 ⟨rfl, hm1, hg1⟩; have hx1 := hx.drew.grown hg1 (some_ne n1); have kk1 : w1.cell? ⟨bx, 1, none⟩ = some (.int .i64 A) := (hx1.cell 1).trans rfl; have hr1 := hb.drew.ref1 hg1)
    | (go_at_call 42; refine (rput_any rg rc n f A _ hr1).mono ?_; rintro e w2 ⟨rfl, hr2, hg2⟩; have kk2 : w2.cell? ⟨bx, 1, none⟩ = some (.int .i64 A) := ((hx1.grown hg2 (some_ne n2)).cell 1).trans rfl))
  go_wp2_with (fail)
  go_ret2
  exact ⟨g, c, _, rfl, hb.drew.turn hm1 hg1 hr2 hg2⟩
theorem does_drop (g c rg rc n : Nat) (f : Nat → Bool) (A B : Int) (w0 w : World) (h : Both w0 w g c rg rc n f) :
    Calls Tryd.prog 22 #[.pointer (some ⟨g, 0, none⟩), .pointer (some ⟨rg, 0, none⟩), .agg #[.int .i64 2, .int .i64 A, .int .i64 B]] w (Done w0 rg rc n) := by
  have hx := Blk.new w 49 #[.int .i64 2, .int .i64 A, .int .i64 B]
  have hb := h.alloc (.cells #[.int .i64 2, .int .i64 A, .int .i64 B] 49)
  have hcl := h.map.row.lt
  have hrl := h.ref.row.lt
  go_enter Tryd.func22, Tryd.ntmps22
  go_upto_region 3 with (fail)
  generalize w.alloc (.cells #[.int .i64 2, .int .i64 A, .int .i64 B] 49) = W at *
  have n1 : w.heap.size ≠ c := by omega
  have n2 : w.heap.size ≠ rc := by omega
  generalize w.heap.size = bx at *
  have k1 := (hx.cell 1).trans rfl
  simp only [List.getElem?_toArray, List.getElem?_cons_zero, List.getElem?_cons_succ] at k1
  go_region_held3 (fun w' => w'.cell? ⟨bx, 1, none⟩ = some (.int .i64 A)) (first | assumption)
    (first
    | (go_at_call 27; refine (drop_any g c n f A _ hb.drew.map).mono ?_; rintro e w1 ⟨rfl, hm1, hg1⟩; have hx1 := hx.drew.grown hg1 (some_ne n1); have kk1 : w1.cell? ⟨bx, 1, none⟩ = some (.int .i64 A) := (hx1.cell 1).trans rfl; have hr1 := hb.drew.ref1 hg1)
    | (go_at_call 43; refine (rdrop_any rg rc n f A _ hr1).mono ?_; rintro e w2 ⟨rfl, hr2, hg2⟩; have kk2 : w2.cell? ⟨bx, 1, none⟩ = some (.int .i64 A) := ((hx1.grown hg2 (some_ne n2)).cell 1).trans rfl))
  go_wp2_with (fail)
  go_ret2
  exact ⟨g, c, _, rfl, hb.drew.turn hm1 hg1 hr2 hg2⟩
end Go.Proofs.YtnhaejbakgjelaaDoor
