/- The walk of one act on both maps: the rows. -/
import Derived.Test.YtnhaejbakgjelaaDoorBmDo
namespace Go.Proofs.YtnhaejbakgjelaaDoor
open Go.RowKit
set_option maxRecDepth 100000 in
theorem does_fill (g c rg rc n : Nat) (f : Nat → Bool) (A B : Int) (w0 w : World) (h : Both w0 w g c rg rc n f) :
    Calls Tryd.prog 22 #[.pointer (some ⟨g, 0, none⟩), .pointer (some ⟨rg, 0, none⟩), .agg #[.int .i64 3, .int .i64 A, .int .i64 B]] w (Done w0 rg rc n) := by
  have hx := Blk.new w 49 #[.int .i64 3, .int .i64 A, .int .i64 B]
  have hb := h.alloc (.cells #[.int .i64 3, .int .i64 A, .int .i64 B] 49)
  have hcl := h.map.row.lt
  have hrl := h.ref.row.lt
  go_enter Tryd.func22, Tryd.ntmps22
  go_upto_region 7 with (fail)
  generalize w.alloc (.cells #[.int .i64 3, .int .i64 A, .int .i64 B] 49) = W at *
  have n1 : w.heap.size ≠ c := by omega
  have n2 : w.heap.size ≠ rc := by omega
  generalize w.heap.size = bx at *
  have k01 : W.cell? ⟨bx, 1, none⟩ = some (.int .i64 A) := (hx.cell 1).trans rfl
  have k02 : W.cell? ⟨bx, 2, none⟩ = some (.int .i64 B) := (hx.cell 2).trans rfl
  go_wp2_with (fail)
  refine (fill_any g c n f A B _ hb.map).mono ?_
  rintro e w1 ⟨rfl, hm1, hg1⟩
  have hx1 := hx.grown hg1 (some_ne n1)
  have k1 : w1.cell? ⟨bx, 1, none⟩ = some (.int .i64 A) := (hx1.cell 1).trans rfl
  have k2 : w1.cell? ⟨bx, 2, none⟩ = some (.int .i64 B) := (hx1.cell 2).trans rfl
  have hr1 := hb.ref1 hg1
  go_wp2_with (fail)
  refine (rset_any rg rc n f A B true _ hr1).mono ?_
  rintro e w2 ⟨rfl, hr2, hg2⟩
  go_wp2_with (fail)
  go_ret2
  exact ⟨g, c, _, rfl, hb.turn hm1 hg1 hr2 hg2⟩
set_option maxRecDepth 100000 in
theorem does_clear (g c rg rc n : Nat) (f : Nat → Bool) (A B : Int) (w0 w : World) (h : Both w0 w g c rg rc n f) :
    Calls Tryd.prog 22 #[.pointer (some ⟨g, 0, none⟩), .pointer (some ⟨rg, 0, none⟩), .agg #[.int .i64 4, .int .i64 A, .int .i64 B]] w (Done w0 rg rc n) := by
  have hx := Blk.new w 49 #[.int .i64 4, .int .i64 A, .int .i64 B]
  have hb := h.alloc (.cells #[.int .i64 4, .int .i64 A, .int .i64 B] 49)
  have hcl := h.map.row.lt
  have hrl := h.ref.row.lt
  go_enter Tryd.func22, Tryd.ntmps22
  go_upto_region 11 with (fail)
  generalize w.alloc (.cells #[.int .i64 4, .int .i64 A, .int .i64 B] 49) = W at *
  have n1 : w.heap.size ≠ c := by omega
  have n2 : w.heap.size ≠ rc := by omega
  generalize w.heap.size = bx at *
  have k01 : W.cell? ⟨bx, 1, none⟩ = some (.int .i64 A) := (hx.cell 1).trans rfl
  have k02 : W.cell? ⟨bx, 2, none⟩ = some (.int .i64 B) := (hx.cell 2).trans rfl
  go_wp2_with (fail)
  refine (clear_any g c n f A B _ hb.map).mono ?_
  rintro e w1 ⟨rfl, hm1, hg1⟩
  have hx1 := hx.grown hg1 (some_ne n1)
  have k1 : w1.cell? ⟨bx, 1, none⟩ = some (.int .i64 A) := (hx1.cell 1).trans rfl
  have k2 : w1.cell? ⟨bx, 2, none⟩ = some (.int .i64 B) := (hx1.cell 2).trans rfl
  have hr1 := hb.ref1 hg1
  go_wp2_with (fail)
  refine (rset_any rg rc n f A B false _ hr1).mono ?_
  rintro e w2 ⟨rfl, hr2, hg2⟩
  go_wp2_with (fail)
  go_ret2
  exact ⟨g, c, _, rfl, hb.turn hm1 hg1 hr2 hg2⟩
set_option maxRecDepth 100000 in
theorem does_copy (g c rg rc n : Nat) (f : Nat → Bool) (A B : Int) (w0 w : World) (h : Both w0 w g c rg rc n f) :
    Calls Tryd.prog 22 #[.pointer (some ⟨g, 0, none⟩), .pointer (some ⟨rg, 0, none⟩), .agg #[.int .i64 5, .int .i64 A, .int .i64 B]] w (Done w0 rg rc n) := by
  have hx := Blk.new w 49 #[.int .i64 5, .int .i64 A, .int .i64 B]
  have hb := h.alloc (.cells #[.int .i64 5, .int .i64 A, .int .i64 B] 49)
  have hcl := h.map.row.lt
  have hrl := h.ref.row.lt
  have hw0 := h.below.size
  go_enter Tryd.func22, Tryd.ntmps22
  go_wp2_with (fail)
  generalize w.alloc (.cells #[.int .i64 5, .int .i64 A, .int .i64 B] 49) = W at *
  have hWl := hx.lt
  generalize w.heap.size = bx at *
  refine (copy_c g c n f _ hb.map).mono ?_
  rintro e w1 ⟨g1, rfl, hm1, hg1, hb1⟩
  go_wp2_with (fail)
  refine (put_any g c n f 0 _ (hb.map.after hb1)).mono ?_
  rintro e w2 ⟨rfl, hm2, hg2⟩
  go_wp2_with (fail)
  refine (drop_any g c n _ 1 _ hm2).mono ?_
  rintro e w3 ⟨rfl, hm3, hg3⟩
  go_wp2_with (fail)
  go_ret2
  obtain ⟨a1, a2, a3, a4⟩ := hb.map.apart hb.ref
  have m1 := hm1.grown hg2 (some_ne (by omega)) (some_ne (by omega))
  have m2 := m1.grown hg3 (some_ne (by omega)) (some_ne (by omega))
  have r1 := ((hb.ref.after hb1).grown hg2 (some_ne a3.symm) (some_ne a4.symm)).grown hg3 (some_ne a3.symm) (some_ne a4.symm)
  have hWs := hb.below.size
  exact ⟨g1, W.heap.size, f, rfl, m2, r1, bl_grown (bl_grown (bl_trans hb.below hb1) hg2 hb.c0) hg3 hb.c0, by omega, by omega, hb.rg0, hb.rc0⟩
set_option maxRecDepth 100000 in
theorem does_other (g c rg rc n : Nat) (f : Nat → Bool) (K A B : Int) (w0 w : World) (h : Both w0 w g c rg rc n f) (h1 : K ≠ 1) (h2 : K ≠ 2) (h3 : K ≠ 3) (h4 : K ≠ 4) (h5 : K ≠ 5) :
    Calls Tryd.prog 22 #[.pointer (some ⟨g, 0, none⟩), .pointer (some ⟨rg, 0, none⟩), .agg #[.int .i64 K, .int .i64 A, .int .i64 B]] w (Done w0 rg rc n) := by
  have d1 := decide_eq_false h1
  have d2 := decide_eq_false h2
  have d3 := decide_eq_false h3
  have d4 := decide_eq_false h4
  have d5 := decide_eq_false h5
  have hb := h.alloc (.cells #[.int .i64 K, .int .i64 A, .int .i64 B] 49)
  go_enter Tryd.func22, Tryd.ntmps22
  go_wp2_with (fail)
  go_ret2
  exact ⟨g, c, _, rfl, hb⟩
theorem does_c (g c rg rc n : Nat) (f : Nat → Bool) (K A B : Int) (w0 w : World) (h : Both w0 w g c rg rc n f) :
    Calls Tryd.prog 22 #[.pointer (some ⟨g, 0, none⟩), .pointer (some ⟨rg, 0, none⟩), .agg #[.int .i64 K, .int .i64 A, .int .i64 B]] w (Done w0 rg rc n) := by
  by_cases h1 : K = 1
  · subst h1; exact does_put g c rg rc n f A B w0 w h
  by_cases h2 : K = 2
  · subst h2; exact does_drop g c rg rc n f A B w0 w h
  by_cases h3 : K = 3
  · subst h3; exact does_fill g c rg rc n f A B w0 w h
  by_cases h4 : K = 4
  · subst h4; exact does_clear g c rg rc n f A B w0 w h
  by_cases h5 : K = 5
  · subst h5; exact does_copy g c rg rc n f A B w0 w h
  exact does_other g c rg rc n f K A B w0 w h h1 h2 h3 h4 h5
end Go.Proofs.YtnhaejbakgjelaaDoor
