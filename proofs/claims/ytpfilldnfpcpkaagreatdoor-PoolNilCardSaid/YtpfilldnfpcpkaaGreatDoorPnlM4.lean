/-
PoolNil: a pool that is not there gives nothing: for every address and every number the call returns true. No condition; the listed variables are tied to the program's text.
-/
import Derived.ProofKit
import Derived.ChangeSame
import Derived.LaidMore
import Derived.Lay
import Derived.MakeChecks
import Derived.LaidByTextLater
import Derived.OpenShut
import Derived.Stop.Joined
import Derived.Stop.LaidErr
import Derived.Handed
import Derived.Shelf.Vars
import Derived.Lib.SmallJoins
import Derived.SevenTiedAt
import Derived.ShutString
import Derived.Test.YtpfilldnfpcpkaaGreatDoorPnlM3
import Derived.Test.YtpfilldnfpcpkaaGreatDoorRows
import Derived.Test.YtpfilldnfpcpkaaGreatDoorCards
import Derived.Test.YtpfilldnfpcpkaaGreatDoorTie
set_option linter.unusedVariables false
set_option linter.unusedSimpArgs false
namespace Go.Proofs.YtpfilldnfpcpkaaGreatDoor
open Go.RowKit

/-- in w the pool of a prefix lies at block q, its map at g, its words at c; f: which numbers are used, or kept -/
structure PoolAt (w : World) (q g c : Nat) (v : Bool) (n : Nat) (b : Int) (f : Nat → Bool) : Prop where
  head : Blk w q 105 #[.bool v, .int .u64 (hi n), .int .u64 (lo n), .int .i64 b, .pointer (some ⟨g, 0, none⟩)]
  map : MapAt w g c (cntP (fr v b)) f
  right : rightP v n b = true
  big : 2 ≤ fr v b
theorem PoolAt.drew {w : World} {q g c : Nat} {v : Bool} {n : Nat} {b : Int} {f : Nat → Bool} (h : PoolAt w q g c v n b f) : PoolAt w.drew q g c v n b f := ⟨h.head.drew, h.map.drew, h.right, h.big⟩
theorem PoolAt.alloc {w : World} {q g c : Nat} {v : Bool} {n : Nat} {b : Int} {f : Nat → Bool} (h : PoolAt w q g c v n b f) (o : Obj) : PoolAt (w.alloc o) q g c v n b f := ⟨h.head.alloc o, h.map.alloc o, h.right, h.big⟩
theorem PoolAt.after {w w' : World} {q g c : Nat} {v : Bool} {n : Nat} {b : Int} {f : Nat → Bool} (h : PoolAt w q g c v n b f) (hb : Below w.heap.size w w') : PoolAt w' q g c v n b f := ⟨h.head.after hb, h.map.after hb, h.right, h.big⟩
theorem PoolAt.cells {w : World} {q g c : Nat} {v : Bool} {n : Nat} {b : Int} {f : Nat → Bool} (h : PoolAt w q g c v n b f) :
    w.cell? ⟨q, 0, none⟩ = some (.bool v) ∧ w.cell? ⟨q, 1, none⟩ = some (.int .u64 (hi n)) ∧ w.cell? ⟨q, 2, none⟩ = some (.int .u64 (lo n)) ∧ w.cell? ⟨q, 3, none⟩ = some (.int .i64 b) ∧ w.cell? ⟨q, 4, none⟩ = some (.pointer (some ⟨g, 0, none⟩)) :=
  ⟨(h.head.cell 0).trans rfl, (h.head.cell 1).trans rfl, (h.head.cell 2).trans rfl, (h.head.cell 3).trans rfl, (h.head.cell 4).trans rfl⟩
theorem pool_cells {w : World} {q g c : Nat} {v : Bool} {n : Nat} {b : Int} {f : Nat → Bool} (h : PoolAt w q g c v n b f) :
    w.cell? ⟨q, 0, none⟩ = some (.bool v) ∧ w.cell? ⟨q, 1, none⟩ = some (.int .u64 (hi n)) ∧ w.cell? ⟨q, 2, none⟩ = some (.int .u64 (lo n)) ∧ w.cell? ⟨q, 3, none⟩ = some (.int .i64 b) ∧ w.cell? ⟨q, 4, none⟩ = some (.pointer (some ⟨g, 0, none⟩)) :=
  h.cells
theorem PoolAt.ne {w : World} {q g c : Nat} {v : Bool} {n : Nat} {b : Int} {f : Nat → Bool} (h : PoolAt w q g c v n b f) : q ≠ c := h.head.ne h.map.row (by decide)
theorem PoolAt.put {w w' : World} {q g c : Nat} {v : Bool} {n : Nat} {b : Int} {f f' : Nat → Bool} (h : PoolAt w q g c v n b f) (hm : MapAt w' g c (cntP (fr v b)) f') (hg : w.grownBy w' (some c)) : PoolAt w' q g c v n b f' :=
  ⟨h.head.grown hg (some_ne h.ne), hm, h.right, h.big⟩
theorem PoolAt.lt {w : World} {q g c : Nat} {v : Bool} {n : Nat} {b : Int} {f : Nat → Bool} (h : PoolAt w q g c v n b f) : n < 340282366920938463463374607431768211456 := Nat.lt_of_lt_of_le (rightP_iff.1 h.right).1 (pow_w v)

end Go.Proofs.YtpfilldnfpcpkaaGreatDoor

namespace Go.Proofs.YtpfilldnfpcpkaaGreatDoor
open Go.RowKit

theorem blk_fill3 {w : World} {g : Nat} {t : TypeId} {u v z x y k : Value} (h : Blk w g t #[u, v, z]) : Blk (((w.setCell ⟨g, 0, none⟩ x).setCell ⟨g, 1, none⟩ y).setCell ⟨g, 2, none⟩ k) g t #[x, y, k] := ((h.put 0 x).put 1 y).put 2 k
set_option maxRecDepth 20000 in
set_option maxHeartbeats 3200000 in
theorem phost_c (q g c : Nat) (v : Bool) (n : Nat) (b : Int) (f : Nat → Bool) (i : Nat) (w : World) (h : PoolAt w q g c v n b f) (hi' : i < cntP (fr v b)) :
    Calls Tryz.prog 81 #[.pointer (some ⟨q, 0, none⟩), .int .i64 i] w fun e w' => e = .returned (.agg #[.bool v, .int .u64 (hi (n + i)), .int .u64 (lo (n + i))]) ∧ Below w.heap.size w w' := by
  have hN2 := cntP_le (fr v b)
  have hpw := cntP_pow (fr v b)
  have H1 := Lib.hid (fun w => chost_k v n b i w h.right (Nat.lt_of_lt_of_le hi' hpw))
  have H2 := Lib.hid (fun w => numof_k i w (by omega))
  have hw64 : IntKind.u64.wrap (i : Int) = (i : Int) := by show _ % 18446744073709551616 = _; omega
  clear hpw
  go_enter Tryz.func81, Tryz.ntmps81
  go_wp2_with fail
  have hR : Blk (w.alloc (Obj.cells #[Value.bool false, Value.int IntKind.u64 0, Value.int IntKind.u64 0] 26)) w.heap.size 26 (AddrC false 0) := Blk.new _ _ _
  have hbel : Below w.heap.size w (w.alloc (Obj.cells #[Value.bool false, Value.int IntKind.u64 0, Value.int IntKind.u64 0] 26)) := bl_
  generalize w.alloc (Obj.cells #[Value.bool false, Value.int IntKind.u64 0, Value.int IntKind.u64 0] 26) = wz at *
  have hlt := hR.lt
  go_cut [5] from 7 (fun s5 wc => ∃ g5, s5 = .pointer (some ⟨g5, 0, none⟩) ∧ Blk wc g5 26 (AddrC v (n + i)) ∧ Blk wc w.heap.size 26 (AddrC false 0) ∧ w.heap.size < g5 ∧ Below w.heap.size w wc)
  case first =>
    go_region_held3 (fun w' => (w'.cell? ⟨q, 0, none⟩ = some (.bool v) ∧ w'.cell? ⟨q, 1, none⟩ = some (.int .u64 (hi n)) ∧ w'.cell? ⟨q, 2, none⟩ = some (.int .u64 (lo n)) ∧ w'.cell? ⟨q, 3, none⟩ = some (.int .i64 b) ∧ w'.cell? ⟨q, 4, none⟩ = some (.pointer (some ⟨g, 0, none⟩))) ∧ Blk w' w.heap.size 26 (AddrC false 0) ∧ Below w.heap.size w w')
      (exact ⟨pool_cells (h.after bl_), bk_, bl_⟩)
      (first
      | (go_at_call 126; refine (H2.out _).mono ?_; rintro e w3 ⟨rfl, hb3⟩; obtain ⟨hc3, hf3⟩ := bcell hb3; have hz3 := hb3.size; (try simp only [size_alloc', size_setCell', size_drew'] at hz3); (try have hy3 : wz.heap.size < w3.heap.size := by omega))
      | (go_at_call 125; refine (H1.out _).mono ?_; rintro e w4 ⟨rfl, hb4⟩; obtain ⟨hc4, hf4⟩ := bcell hb4; have hz4 := hb4.size; (try simp only [size_alloc', size_setCell', size_drew'] at hz4); (try have hy4 : wz.heap.size < w4.heap.size := by omega)))
    all_goals
      go_wp2_with fail
      go_meet
      case rel => exact ⟨_, rfl, (by first | exact Blk.new _ _ _ | exact blk_fill3 (u := .bool false) (v := .int .u64 0) (z := .int .u64 0) bk_), bk_, by omega, bl_⟩
  case rest =>
    obtain ⟨g5, rfl, hA, hR, h5, hbel⟩ := hcut
    obtain ⟨a0, a1, a2, _⟩ := blk_adr hA
    obtain ⟨r0, r1, r2, _⟩ := blk_adr hR
    have z0 := hR.frozen 0
    have z1 := hR.frozen 1
    have z2 := hR.frozen 2
    go_wp2_with fail
    refine bodyPost_ret (v := .agg #[.bool v, .int .u64 (hi (n + i)), .int .u64 (lo (n + i))]) (results_cell_row (t := 26) Tryz.results81 _ _ w.heap.size _ (0, 0) _ rfl (((hR.put 0 _).put 1 _).put 2 _) Tryz.underlying26 rfl (by kernel_rfl)) rfl ⟨rfl, bl_⟩
end Go.Proofs.YtpfilldnfpcpkaaGreatDoor

namespace Go.Proofs.YtpfilldnfpcpkaaGreatDoor
open Go.RowKit

theorem MapAt.far {w : World} {g c n : Nat} {f : Nat → Bool} (h : MapAt w g c n f) {p : Addr} (h2 : g ≠ p.block) (h3 : c ≠ p.block) (u : Value) : MapAt (w.setCell p u) g c n f :=
  ⟨h.head.far h2 u, h.row.far h3 u, h.ne, h.small, h.top⟩
theorem PoolAt.far {w : World} {q g c : Nat} {v : Bool} {n : Nat} {b : Int} {f : Nat → Bool} (h : PoolAt w q g c v n b f) {p : Addr} (h1 : q ≠ p.block) (h2 : g ≠ p.block) (h3 : c ≠ p.block) (u : Value) : PoolAt (w.setCell p u) q g c v n b f :=
  ⟨h.head.far h1 u, h.map.far h2 h3 u, h.right, h.big⟩
theorem gb_new {a b : World} {row : Option Nat} (h : a.grownBy b row) {p : Addr} (hp : a.heap.size ≤ p.block) (u : Value) : a.grownBy (b.setCell p u) row :=
  ⟨h.os, h.tape, h.output, by simp only [World.setCell]; simpa using h.size, fun i hi hr => (Below.heap_setCell _ _ _ _ (fun e => by rw [e] at hi; omega)).trans (h.block i hi hr)⟩
/-- what Next answers: the first number from a place on, round once, that is not used -/
def PNexted (q g c : Nat) (v : Bool) (n : Nat) (b : Int) (f : Nat → Bool) (a : Nat) (w0 : World) (x : Ending) (w : World) : Prop :=
  (∃ j, IsNext f (cntP (fr v b)) a j ∧ x = .returned (.tuple #[.agg #[.bool v, .int .u64 (hi (n + j)), .int .u64 (lo (n + j))], .int .i64 0]) ∧ PoolAt w q g c v n b (upd f j true) ∧ w0.grownBy w (some c)) ∨
  ((∀ y, y < cntP (fr v b) → f y = true) ∧ x = .returned (.tuple #[.agg #[.bool false, .int .u64 0, .int .u64 0], .int .i64 9]) ∧ Below w0.heap.size w0 w)
set_option maxRecDepth 20000 in
set_option maxHeartbeats 3200000 in
theorem pnext_c (q g c : Nat) (v : Bool) (n : Nat) (b : Int) (f : Nat → Bool) (o : Int) (w : World) (h : PoolAt w q g c v n b f) (hT : Tab w) :
    Calls Tryz.prog 31 #[.pointer (some ⟨q, 0, none⟩), .int .i64 o] w (PNexted q g c v n b f (startAt o (cntP (fr v b))) w) := by
  have hql := h.head.lt
  have hTl := hT.lt
  go_enter Tryz.func31, Tryz.ntmps31
  have hR : Blk (w.alloc (Obj.cells #[Value.bool false, Value.int IntKind.u64 0, Value.int IntKind.u64 0] 26)) w.heap.size 26 (AddrC false 0) := Blk.new _ _ _
  have hbel : Below w.heap.size w (w.alloc (Obj.cells #[Value.bool false, Value.int IntKind.u64 0, Value.int IntKind.u64 0] 26)) := bl_
  obtain ⟨c0, c1, c2, c3, c4⟩ := pool_cells h
  go_wp2_with fail
  generalize w.alloc (Obj.cells #[Value.bool false, Value.int IntKind.u64 0, Value.int IntKind.u64 0] 26) = wz at *
  refine (next_c g c _ f o _ (h.after hbel).map (hT.after hTl hbel)).mono ?_
  rintro e w1 ⟨j, B, rfl, hx1, hx2, hb1⟩
  replace hR := hR.after hb1
  replace hbel := bl_trans hbel hb1
  clear hb1 c0 c1 c2 c3 c4
  have z0 := hR.frozen 0
  have z1 := hR.frozen 1
  have z2 := hR.frozen 2
  obtain ⟨r0, r1, r2, _⟩ := blk_adr hR
  cases B
  · have hall := Lib.hid (hx2 rfl)
    clear hx1 hx2
    go_wp2_with fail
    refine bodyPost_ret (v := .tuple #[.agg #[.bool false, .int .u64 0, .int .u64 0], .int .i64 9]) (by simp [results, Tryz.results31, go_sem, r0, r1, r2, hi_zero, lo_zero]) rfl (Or.inr ⟨hall.out.2, rfl, bl_⟩)
  · have hn := Lib.hid (hx1 rfl)
    have hjN := hn.out.1
    have hwc : w.heap.size ≠ c := by have := h.map.row.lt; omega
    have hqw : q ≠ w.heap.size := by omega
    have hgw : g ≠ w.heap.size := by have := h.map.head.lt; omega
    have hcw : c ≠ w.heap.size := by omega
    have hjf := hn.out.2.1
    clear hx1 hx2
    obtain ⟨c0, c1, c2, c3, c4⟩ := pool_cells (h.after hbel)
    go_wp2_with fail
    clear r0 r1 r2 z0 z1 z2
    go_region_held3 (fun w' => w'.cell? ⟨q, 4, none⟩ = some (.pointer (some ⟨g, 0, none⟩)))
      (first | with_reducible assumption | exact c4 | exact d4 | exact k4 | exact ((((hp6.head.far hqw _).far hqw _).far hqw _).cell 4).trans rfl)
      (first
      | (go_at_call 81; refine (phost_c q g c v n b f j _ (h.after bl_) hjN).mono ?_; rintro e w5 ⟨rfl, hb5⟩; obtain ⟨hc5, hf5⟩ := bcell hb5; have hz5 := hb5.size; (try simp only [size_alloc', size_setCell', size_drew'] at hz5); obtain ⟨d0, d1, d2, d3, d4⟩ := pool_cells (h.after (show Below w.heap.size w w5 from bl_)); have hR5 : Blk w5 w.heap.size 26 (AddrC false 0) := bk_)
      | (go_at_call 70; refine (bput_c g c _ f j w5 (h.after bl_).map hjN hjf).mono ?_; rintro e w6 ⟨rfl, hm, hg⟩; have hp6 := (h.after (show Below w.heap.size w w5 from bl_)).put hm hg; have hg6 : w.grownBy w6 (some c) := gb_trans (gb_below bl_) hg; have hR6 := hR5.grown hg (some_ne hwc); obtain ⟨r0, r1, r2, _⟩ := blk_adr hR6; have z0 := hR6.frozen 0; have z1 := hR6.frozen 1; have z2 := hR6.frozen 2; have k4 := hp6.cells.2.2.2.2))
    all_goals
      go_wp2_with fail
      have hRf := blk_fill3 (x := .bool v) (y := .int .u64 (hi (n + j))) (k := .int .u64 (lo (n + j))) hR6
      have hPf := ((hp6.far (p := ⟨w.heap.size, 0, none⟩) hqw hgw hcw (.bool v)).far (p := ⟨w.heap.size, 1, none⟩) hqw hgw hcw (.int .u64 (hi (n + j)))).far (p := ⟨w.heap.size, 2, none⟩) hqw hgw hcw (.int .u64 (lo (n + j)))
      have hGf := gb_new (gb_new (gb_new hg6 (p := ⟨w.heap.size, 0, none⟩) (Nat.le_refl _) (.bool v)) (p := ⟨w.heap.size, 1, none⟩) (Nat.le_refl _) (.int .u64 (hi (n + j)))) (p := ⟨w.heap.size, 2, none⟩) (Nat.le_refl _) (.int .u64 (lo (n + j)))
      generalize ((w6.setCell ⟨w.heap.size, 0, none⟩ (.bool v)).setCell ⟨w.heap.size, 1, none⟩ (.int .u64 (hi (n + j)))).setCell ⟨w.heap.size, 2, none⟩ (.int .u64 (lo (n + j))) = wf at *
      obtain ⟨s0, s1, s2, _⟩ := blk_adr (show Blk wf w.heap.size 26 (AddrC v (n + j)) from hRf)
      refine bodyPost_ret (v := .tuple #[.agg #[.bool v, .int .u64 (hi (n + j)), .int .u64 (lo (n + j))], .int .i64 0]) (by simp [results, Tryz.results31, go_sem, s0, s1, s2]) rfl (Or.inl ⟨j, hn.out, rfl, hPf, hGf⟩)

/-- which numbers are used in a pool that is new -/
def freshF (v : Bool) (F : Nat) : Nat → Bool := fun i => decide (i < cntP F) && kept v F i
theorem fresh_end {v : Bool} {F : Nat} (h : endK v F = true) (hF : 2 ≤ F) : upd (upd (fun _ => false) 0 true) (cntP F - 1) true = freshF v F := by
  have hN := cntP_ge hF
  funext i
  unfold upd freshF kept
  rw [h]
  by_cases h1 : i + 1 = cntP F
  · rw [if_pos (by omega), decide_eq_true (by omega), beq_iff_eq.2 h1]; simp
  · rw [if_neg (by omega), show (i + 1 == cntP F) = false from by simpa using h1]
    by_cases h2 : i = 0
    · subst h2; simp; omega
    · rw [if_neg h2]; simp [h2]
theorem fresh_open {v : Bool} {F : Nat} (h : endK v F = false) (hF : 2 ≤ F) : upd (fun _ => false) 0 true = freshF v F := by
  have hN := cntP_ge hF
  funext i
  unfold upd freshF kept
  rw [h]
  by_cases h2 : i = 0
  · subst h2; simp; omega
  · rw [if_neg h2]; simp [h2]
set_option maxRecDepth 20000 in
set_option maxHeartbeats 3200000 in
theorem pnew_c (v : Bool) (n : Nat) (b : Int) (w : World) (hr : rightP v n b = true) (hF : 2 ≤ fr v b) :
    Calls Tryz.prog 15 #[.agg #[.bool v, .int .u64 (hi n), .int .u64 (lo n), .int .i64 b]] w fun e w' => ∃ q g c, e = .returned (.tuple #[.pointer (some ⟨q, 0, none⟩), .int .i64 0]) ∧
      PoolAt w' q g c v n b (freshF v (fr v b)) ∧ Below w.heap.size w w' ∧ w.heap.size ≤ q ∧ w.heap.size ≤ g ∧ w.heap.size ≤ c := by
  have hn : n < 340282366920938463463374607431768211456 := Nat.lt_of_lt_of_le (rightP_iff.1 hr).1 (pow_w v)
  have hN := cntP_ge hF
  have hN2 := cntP_le (fr v b)
  have H := Lib.hid (fun w => psizeof_k v n b w hn)
  rw [show sizeS v n b = (((cntP (fr v b) : Nat) : Int), true) from by unfold sizeS; rw [if_pos hr, decide_eq_true hF]] at H
  have HB := Lib.hid (fun w => pbroad_k v n b w hr hF)
  have hE1 := Lib.hid (fun h => fresh_end (v := v) (F := fr v b) h hF)
  have hE0 := Lib.hid (fun h => fresh_open (v := v) (F := fr v b) h hF)
  simp only at H
  go_enter Tryz.func15, Tryz.ntmps15
  go_wp2_with fail
  have hA : Blk (w.alloc (Obj.cells #[Value.bool v, Value.int IntKind.u64 (hi n), Value.int IntKind.u64 (lo n), Value.int IntKind.i64 b] 28)) w.heap.size 28 (PfxC v n b) := Blk.new _ _ _
  have hbel : Below w.heap.size w (w.alloc (Obj.cells #[Value.bool v, Value.int IntKind.u64 (hi n), Value.int IntKind.u64 (lo n), Value.int IntKind.i64 b] 28)) := bl_
  generalize w.alloc (Obj.cells #[Value.bool v, Value.int IntKind.u64 (hi n), Value.int IntKind.u64 (lo n), Value.int IntKind.i64 b] 28) = wz at *
  refine (H.out _).mono ?_
  rintro e w1 ⟨rfl, hb1⟩
  replace hA := hA.after hb1
  replace hbel := bl_trans hbel hb1
  clear hb1
  go_wp2_with fail
  refine (new_c _ _ hN2).mono ?_
  rintro e w2 ⟨rfl, hm, hb2⟩
  replace hA := hA.after hb2
  have hws := hbel.size
  replace hbel := bl_trans hbel hb2
  clear hb2
  generalize hgE : w1.heap.size + 1 = g at *
  generalize hcE : w1.heap.size = c at *
  obtain ⟨a0, a1, a2, a3, _⟩ := blk_pfx hA
  go_wp2_with fail
  have hQ := Blk.new w2 105 #[.bool v, .int .u64 (hi n), .int .u64 (lo n), .int .i64 b, .pointer (some ⟨g, 0, none⟩)]
  replace hA := hA.alloc (.cells #[.bool v, .int .u64 (hi n), .int .u64 (lo n), .int .i64 b, .pointer (some ⟨g, 0, none⟩)] 105)
  replace hm := hm.alloc (.cells #[.bool v, .int .u64 (hi n), .int .u64 (lo n), .int .i64 b, .pointer (some ⟨g, 0, none⟩)] 105)
  have hql := hbel.size
  replace hbel := bl_alloc hbel (.cells #[.bool v, .int .u64 (hi n), .int .u64 (lo n), .int .i64 b, .pointer (some ⟨g, 0, none⟩)] 105)
  clear a0 a1 a2 a3
  generalize w2.alloc (.cells #[.bool v, .int .u64 (hi n), .int .u64 (lo n), .int .i64 b, .pointer (some ⟨g, 0, none⟩)] 105) = w3 at *
  generalize w2.heap.size = q at *
  have HP := bput_c g c _ (fun _ => false) 0 w3 hm (by omega) rfl
  rw [show ((0 : Nat) : Int) = 0 from rfl] at HP
  refine HP.mono ?_
  clear HP
  rintro e w4 ⟨rfl, hm4, hg4⟩
  have hqc : q ≠ c := hQ.ne hm.row (by decide)
  have hAc : w.heap.size ≠ c := hA.ne hm.row (by decide)
  replace hQ := hQ.grown hg4 (some_ne hqc)
  replace hA := hA.grown hg4 (some_ne hAc)
  replace hbel := bl_grown hbel hg4 hws
  clear hm hg4
  obtain ⟨a0, a1, a2, a3, _⟩ := blk_pfx hA
  go_wp2_with fail
  refine (HB.out _).mono ?_
  rintro e w5 ⟨rfl, hb5⟩
  replace hQ := hQ.after hb5
  replace hm4 := hm4.after hb5
  replace hbel := bl_trans hbel hb5
  clear hb5 a0 a1 a2 a3 hA
  rw [show (cntP (fr v b) : Int) - 1 = ((cntP (fr v b) - 1 : Nat) : Int) from by omega]
  cases hE : endK v (fr v b)
  · go_wp2_with fail
    go_ret2
    refine ⟨q, g, c, rfl, ⟨hQ, ?_, hr, hF⟩, hbel, hql, by omega, hws⟩
    rw [← hE0.out hE]; exact hm4
  · go_wp2_with fail
    refine (bput_c g c _ _ (cntP (fr v b) - 1) w5 hm4 (by omega) (by unfold upd; rw [if_neg (by omega)])).mono ?_
    rintro e w6 ⟨rfl, hm6, hg6⟩
    replace hQ := hQ.grown hg6 (some_ne hqc)
    replace hbel := bl_grown hbel hg6 hws
    go_wp2_with fail
    go_ret2
    refine ⟨q, g, c, rfl, ⟨hQ, ?_, hr, hF⟩, hbel, hql, by omega, hws⟩
    rw [← hE1.out hE]; exact hm6
end Go.Proofs.YtpfilldnfpcpkaaGreatDoor

namespace Go.Proofs.YtpfilldnfpcpkaaGreatDoor
open Go.RowKit

theorem pnext_nil (i : Int) (w : World) :
    Calls Tryz.prog 31 #[.pointer none, .int .i64 i] w fun e w' => e = .returned (.tuple #[.agg #[.bool false, .int .u64 0, .int .u64 0], .int .i64 2]) ∧ Below w.heap.size w w' := by
  go_enter Tryz.func31, Tryz.ntmps31
  go_wp2_with fail
  refine bodyPost_ret (v := .tuple #[.agg #[.bool false, .int .u64 0, .int .u64 0], .int .i64 2]) (by simp [results, Tryz.results31, go_sem]) rfl ⟨rfl, bl_⟩
theorem pmay_nil (u : Bool) (x1 x2 : Int) (w : World) :
    Calls Tryz.prog 26 #[.pointer none, .agg #[.bool u, .int .u64 x1, .int .u64 x2]] w fun e w' => e = .returned (.int .i64 2) ∧ Below w.heap.size w w' := by
  go_enter Tryz.func26, Tryz.ntmps26
  go_wp2_with fail
  go_ret
  exact ⟨rfl, bl_⟩
theorem phas_nil (u : Bool) (x1 x2 : Int) (w : World) :
    Calls Tryz.prog 24 #[.pointer none, .agg #[.bool u, .int .u64 x1, .int .u64 x2]] w fun e w' => e = .returned (.bool false) ∧ Below w.heap.size w w' := by
  go_enter Tryz.func24, Tryz.ntmps24
  go_wp2_with fail
  go_ret
  exact ⟨rfl, bl_⟩
theorem psize_nil (w : World) :
    Calls Tryz.prog 17 #[.pointer none] w fun e w' => e = .returned (.int .i64 0) ∧ Below w.heap.size w w' := by
  go_enter Tryz.func17, Tryz.ntmps17
  go_wp2_with fail
  go_ret
  exact ⟨rfl, bl_⟩
theorem pleft_nil (w : World) :
    Calls Tryz.prog 18 #[.pointer none] w fun e w' => e = .returned (.int .i64 0) ∧ Below w.heap.size w w' := by
  go_enter Tryz.func18, Tryz.ntmps18
  go_wp2_with fail
  go_ret
  exact ⟨rfl, bl_⟩
theorem pused_nil (w : World) :
    Calls Tryz.prog 27 #[.pointer none] w fun e w' => e = .returned (.slice none 0 0) ∧ Below w.heap.size w w' := by
  go_enter Tryz.func27, Tryz.ntmps27
  go_wp2_with fail
  go_ret
  exact ⟨rfl, bl_⟩
theorem pcopy_nil (w : World) :
    Calls Tryz.prog 64 #[.pointer none] w fun e w' => e = .returned (.pointer none) ∧ Below w.heap.size w w' := by
  go_enter Tryz.func64, Tryz.ntmps64
  go_wp2_with fail
  go_ret
  exact ⟨rfl, bl_⟩
theorem pbytes_nil (w : World) :
    Calls Tryz.prog 28 #[.pointer none] w fun e w' => e = .returned (.string ⟨#[]⟩) ∧ Below w.heap.size w w' := by
  go_enter Tryz.func28, Tryz.ntmps28
  go_wp2_with fail
  go_ret
  exact ⟨rfl, bl_⟩
theorem pprefix_nil (w : World) :
    Calls Tryz.prog 20 #[.pointer none] w fun e w' => e = .returned (.agg #[.bool false, .int .u64 0, .int .u64 0, .int .i64 0]) ∧ Below w.heap.size w w' := by
  go_enter Tryz.func20, Tryz.ntmps20
  go_wp2_with fail
  refine bodyPost_ret (v := .agg #[.bool false, .int .u64 0, .int .u64 0, .int .i64 0]) (by simp [results, Tryz.results20, go_sem]) rfl ⟨rfl, bl_⟩
end Go.Proofs.YtpfilldnfpcpkaaGreatDoor

namespace Go.Proofs.YtpfilldnfpcpkaaGreatDoor
open Go.RowKit

theorem IsNext.one {f : Nat → Bool} {n a j k : Nat} (h : IsNext f n a j) (h' : IsNext f n a k) : j = k := by
  obtain ⟨q1, q2, q3⟩ := h
  obtain ⟨p1, p2, p3⟩ := h'
  rcases q3 with ⟨q3, q4⟩ | ⟨q3, q4, q5⟩ <;> rcases p3 with ⟨p3, p4⟩ | ⟨p3, p4, p5⟩
  · rcases Nat.lt_trichotomy j k with e | e | e
    · rw [p4 j q3 e] at q2; cases q2
    · exact e
    · rw [q4 k p3 e] at p2; cases p2
  · rw [p4 j q3 q1] at q2; cases q2
  · rw [q4 k p3 p1] at p2; cases p2
  · rcases Nat.lt_trichotomy j k with e | e | e
    · rw [p5 j e] at q2; cases q2
    · exact e
    · rw [q5 k e] at p2; cases p2
theorem glob_tab {w : World} (h : Glob w) : Tab w := h.bru
/-- the example's bits: none used; two; two and one -/
def exF : Nat → Bool := freshF false 2
theorem ex_one {j : Nat} (h : IsNext exF 4 2 j) : j = 2 := h.one ⟨by decide, by decide, .inl ⟨Nat.le_refl _, fun y h1 h2 => by omega⟩⟩
theorem ex_two {j : Nat} (h : IsNext (upd exF 2 true) 4 2 j) : j = 1 := h.one ⟨by decide, by decide, .inr ⟨by decide, fun y h1 h2 => by
    have : y = 2 ∨ y = 3 := by omega
    rcases this with rfl | rfl <;> decide, fun y h2 => by
    obtain rfl : y = 0 := by omega
    decide⟩⟩
theorem ex_three {j : Nat} (h : IsNext (upd (upd exF 2 true) 1 true) 4 2 j) : False := by
  obtain ⟨h1, h2, _⟩ := h
  have : j = 0 ∨ j = 1 ∨ j = 2 ∨ j = 3 := by omega
  rcases this with rfl | rfl | rfl | rfl <;> revert h2 <;> decide
theorem ex_new (w : World) :
    Calls Tryz.prog 15 #[.agg #[.bool false, .int .u64 0, .int .u64 167772160, .int .i64 30]] w fun e w' => ∃ q g c, e = .returned (.tuple #[.pointer (some ⟨q, 0, none⟩), .int .i64 0]) ∧
      PoolAt w' q g c false 167772160 30 exF ∧ Below w.heap.size w w' ∧ w.heap.size ≤ q ∧ w.heap.size ≤ g ∧ w.heap.size ≤ c :=
  pnew_c false 167772160 30 w (by decide) (by decide)
theorem ex_next (q g c : Nat) (f : Nat → Bool) (w : World) (h : PoolAt w q g c false 167772160 30 f) (hT : Tab w) :
    Calls Tryz.prog 31 #[.pointer (some ⟨q, 0, none⟩), .int .i64 2] w fun x w' =>
      (∃ j, IsNext f 4 2 j ∧ x = .returned (.tuple #[.agg #[.bool false, .int .u64 (hi (167772160 + j)), .int .u64 (lo (167772160 + j))], .int .i64 0]) ∧ PoolAt w' q g c false 167772160 30 (upd f j true) ∧ w.grownBy w' (some c)) ∨
      ((∀ y, y < 4 → f y = true) ∧ x = .returned (.tuple #[.agg #[.bool false, .int .u64 0, .int .u64 0], .int .i64 9]) ∧ Below w.heap.size w w') :=
  pnext_c q g c false 167772160 30 f 2 w h hT
set_option maxRecDepth 20000 in
set_option maxHeartbeats 1000000 in
theorem awake06_c (w : World) (hG : Glob w) :
    Calls Tryz.prog 13 #[] w fun e w' => e = .returned (.bool true) ∧ Below w.heap.size w w' := by
  have HP := Lib.hid (prefix_Parse.calls ⟨#[49, 48, 46, 48, 46, 48, 46, 48, 47, 51, 48]⟩ false 0 167772160 30 0 w hG (by decide +kernel))
  have HA := Lib.hid (fun w hG => addr_Print.calls false 0 167772162 ⟨#[49, 48, 46, 48, 46, 48, 46, 50]⟩ w hG (by decide +kernel))
  have HB := Lib.hid (fun w hG => addr_Print.calls false 0 167772161 ⟨#[49, 48, 46, 48, 46, 48, 46, 49]⟩ w hG (by decide +kernel))
  go_enter Tryz.func13, Tryz.ntmps13
  go_wp2_with fail
  with_reducible refine HP.out.mono ?_
  rintro e w1 ⟨rfl, hbel⟩
  clear HP
  have hGw := Lib.hid hG
  go_wp2_with fail
  refine (ex_new _).mono ?_
  rintro e w2 ⟨q, g, c, rfl, hp, hb2, -, -, hc⟩
  have hcw : w.heap.size ≤ c := Nat.le_trans (Nat.le_trans hbel.size (by simp)) hc
  replace hbel := bl_trans (bl_alloc hbel _) hb2
  clear hb2 hc
  go_wp2_with fail
  refine (ex_next q g c _ w2 hp (glob_tab (hGw.out.after hbel))).mono ?_
  rintro e w3 (⟨j, hj, rfl, hp3, hg3⟩ | ⟨hall, -, -⟩)
  rotate_left
  · exact absurd (hall 2 (by decide)) (by decide)
  obtain rfl := ex_one hj
  rw [show hi (167772160 + 2) = 0 from by decide, show lo (167772160 + 2) = 167772162 from by decide]
  replace hbel := bl_grown hbel hg3 hcw
  clear hj hg3 hp
  go_wp2_with fail
  have hA := Blk.new w3 26 #[.bool false, .int .u64 0, .int .u64 167772162]
  replace hp3 := hp3.alloc (.cells #[.bool false, .int .u64 0, .int .u64 167772162] 26)
  replace hbel := bl_alloc hbel (.cells #[.bool false, .int .u64 0, .int .u64 167772162] 26)
  generalize w3.alloc (.cells #[.bool false, .int .u64 0, .int .u64 167772162] 26) = w4 at *
  generalize w3.heap.size = ga at *
  refine (ex_next q g c _ w4 hp3 (glob_tab (hGw.out.after hbel))).mono ?_
  rintro e w5 (⟨j, hj, rfl, hp5, hg5⟩ | ⟨hall, -, -⟩)
  rotate_left
  · exact absurd (hall 1 (by decide)) (by decide)
  obtain rfl := ex_two hj
  rw [show hi (167772160 + 1) = 0 from by decide, show lo (167772160 + 1) = 167772161 from by decide]
  replace hbel := bl_grown hbel hg5 hcw
  replace hA := hA.grown hg5 (some_ne (hA.ne hp3.map.row (by decide)))
  clear hj hg5 hp3
  go_wp2_with fail
  have hB := Blk.new w5 26 #[.bool false, .int .u64 0, .int .u64 167772161]
  replace hA := hA.alloc (.cells #[.bool false, .int .u64 0, .int .u64 167772161] 26)
  replace hp5 := hp5.alloc (.cells #[.bool false, .int .u64 0, .int .u64 167772161] 26)
  replace hbel := bl_alloc hbel (.cells #[.bool false, .int .u64 0, .int .u64 167772161] 26)
  generalize w5.alloc (.cells #[.bool false, .int .u64 0, .int .u64 167772161] 26) = w6 at *
  generalize w5.heap.size = gb at *
  refine (ex_next q g c _ w6 hp5 (glob_tab (hGw.out.after hbel))).mono ?_
  rintro e w7 (⟨j, hj, -, -, -⟩ | ⟨-, rfl, hb7⟩)
  · exact (ex_three hj).elim
  replace hbel := bl_trans hbel hb7
  replace hA := hA.after hb7
  replace hB := hB.after hb7
  have hAl := hA.lt
  have hBl := hB.lt
  obtain ⟨a0, a1, a2, _⟩ := blk_adr (show Blk w7 ga 26 (AddrC false 167772162) from hA)
  rw [show hi 167772162 = 0 from by decide] at a1
  rw [show lo 167772162 = 167772162 from by decide] at a2
  clear hb7 hp5
  go_wp2_with fail
  refine (HA.out _ (hGw.out.after (bl_alloc hbel _))).mono ?_
  rintro e w8 ⟨rfl, hb8⟩
  replace hbel := bl_trans (bl_alloc hbel _) hb8
  replace hB := (hB.alloc _).after hb8
  clear hb8 a0 a1 a2 hA hAl hBl
  obtain ⟨a0, a1, a2, _⟩ := blk_adr (show Blk w8 gb 26 (AddrC false 167772161) from hB)
  rw [show hi 167772161 = 0 from by decide] at a1
  rw [show lo 167772161 = 167772161 from by decide] at a2
  go_wp2_with fail
  refine (HB.out _ (hGw.out.after hbel)).mono ?_
  rintro e w9 ⟨rfl, hb9⟩
  replace hbel := bl_trans hbel hb9
  clear hb9 a0 a1 a2 hB
  go_wp2_with fail
  go_ret
  exact ⟨rfl, hbel⟩
/-- Take and Free where there is no pool -/
theorem ptake_nil (u : Bool) (x1 x2 : Int) (w : World) :
    Calls Tryz.prog 50 #[.pointer none, .agg #[.bool u, .int .u64 x1, .int .u64 x2]] w fun e w' => e = .returned (.int .i64 2) ∧ Below w.heap.size w w' := by
  go_enter Tryz.func50, Tryz.ntmps50
  go_wp2_with fail
  refine (pmay_nil u x1 x2 _).mono ?_
  rintro e w1 ⟨rfl, hb1⟩
  have hbel : Below w.heap.size w w1 := bl_trans bl_ hb1
  clear hb1
  go_wp2_with fail
  go_ret
  exact ⟨rfl, hbel⟩
theorem pfree_nil (u : Bool) (x1 x2 : Int) (w : World) :
    Calls Tryz.prog 52 #[.pointer none, .agg #[.bool u, .int .u64 x1, .int .u64 x2]] w fun e w' => e = .returned (.int .i64 2) ∧ Below w.heap.size w w' := by
  go_enter Tryz.func52, Tryz.ntmps52
  go_wp2_with fail
  refine (pmay_nil u x1 x2 _).mono ?_
  rintro e w1 ⟨rfl, hb1⟩
  have hbel : Below w.heap.size w w1 := bl_trans bl_ hb1
  clear hb1
  go_wp2_with fail
  go_ret
  exact ⟨rfl, hbel⟩
set_option maxRecDepth 20000 in
set_option maxHeartbeats 1000000 in
theorem poolNil_walk (u : Bool) (x : Nat) (i : Int) (w : World) (_ : x < 340282366920938463463374607431768211456) (hG : Glob w) :
    Calls Tryz.prog 12 #[AddrV u x, .int .i64 i] w fun e w' => e = .returned (.bool true) ∧ Below w.heap.size w w' := by
  have hGw := Lib.hid hG
  unfold AddrV
  generalize hi x = x1
  generalize lo x = x2
  go_enter Tryz.func12, Tryz.ntmps12
  go_wp2_with fail
  have hA := Blk.new w 26 #[.bool u, .int .u64 x1, .int .u64 x2]
  have hbel : Below w.heap.size w (w.alloc (.cells #[.bool u, .int .u64 x1, .int .u64 x2] 26)) := bl_
  generalize w.alloc (.cells #[.bool u, .int .u64 x1, .int .u64 x2] 26) = w1 at *
  refine (awake06_c w1 (hGw.out.after hbel)).mono ?_
  rintro e w2 ⟨rfl, hb2⟩
  replace hA := hA.after hb2
  replace hbel := bl_trans hbel hb2
  clear hb2
  go_wp2_with fail
  refine (pnext_nil i _).mono ?_
  rintro e w3 ⟨rfl, hb3⟩
  replace hA := hA.after hb3
  replace hbel := bl_trans hbel hb3
  clear hb3
  have a0 := (hA.cell 0).trans rfl
  have a1 := (hA.cell 1).trans rfl
  have a2 := (hA.cell 2).trans rfl
  simp only [List.getElem?_toArray, List.getElem?_cons_zero, List.getElem?_cons_succ] at a0 a1 a2
  have hal := hA.lt
  go_wp2_with fail
  have hB := Blk.new w3 26 #[.bool false, .int .u64 0, .int .u64 0]
  replace hA := hA.alloc (.cells #[.bool false, .int .u64 0, .int .u64 0] 26)
  replace hbel := bl_alloc hbel (.cells #[.bool false, .int .u64 0, .int .u64 0] 26)
  generalize w3.alloc (.cells #[.bool false, .int .u64 0, .int .u64 0] 26) = w4 at *
  generalize w3.heap.size = gb at *
  refine (ptake_nil u x1 x2 _).mono ?_
  rintro e w5 ⟨rfl, hb⟩
  replace hA := hA.after hb
  replace hB := hB.after hb
  replace hbel := bl_trans hbel hb
  clear hb a0 a1 a2
  have a0 := (hA.cell 0).trans rfl
  have a1 := (hA.cell 1).trans rfl
  have a2 := (hA.cell 2).trans rfl
  simp only [List.getElem?_toArray, List.getElem?_cons_zero, List.getElem?_cons_succ] at a0 a1 a2
  go_wp2_with fail
  refine (pfree_nil u x1 x2 _).mono ?_
  rintro e w6 ⟨rfl, hb⟩
  replace hA := hA.after hb
  replace hB := hB.after hb
  replace hbel := bl_trans hbel hb
  clear hb a0 a1 a2
  have a0 := (hA.cell 0).trans rfl
  have a1 := (hA.cell 1).trans rfl
  have a2 := (hA.cell 2).trans rfl
  simp only [List.getElem?_toArray, List.getElem?_cons_zero, List.getElem?_cons_succ] at a0 a1 a2
  go_wp2_with fail
  refine (pmay_nil u x1 x2 _).mono ?_
  rintro e w7 ⟨rfl, hb⟩
  replace hA := hA.after hb
  replace hB := hB.after hb
  replace hbel := bl_trans hbel hb
  clear hb a0 a1 a2
  have a0 := (hA.cell 0).trans rfl
  have a1 := (hA.cell 1).trans rfl
  have a2 := (hA.cell 2).trans rfl
  simp only [List.getElem?_toArray, List.getElem?_cons_zero, List.getElem?_cons_succ] at a0 a1 a2
  have b0 := (hB.cell 0).trans rfl
  have b1 := (hB.cell 1).trans rfl
  have b2 := (hB.cell 2).trans rfl
  simp only [List.getElem?_toArray, List.getElem?_cons_zero, List.getElem?_cons_succ] at b0 b1 b2
  go_wp2_with fail
  clear b0 b1 b2
  refine (phas_nil u x1 x2 _).mono ?_
  rintro e w8 ⟨rfl, hb⟩
  replace hA := hA.after hb
  replace hB := hB.after hb
  replace hbel := bl_trans hbel hb
  clear hb a0 a1 a2
  have a0 := (hA.cell 0).trans rfl
  have a1 := (hA.cell 1).trans rfl
  have a2 := (hA.cell 2).trans rfl
  simp only [List.getElem?_toArray, List.getElem?_cons_zero, List.getElem?_cons_succ] at a0 a1 a2
  go_wp2_with fail
  refine (psize_nil _).mono ?_
  rintro e w9 ⟨rfl, hb⟩
  replace hA := hA.after hb
  replace hB := hB.after hb
  replace hbel := bl_trans hbel hb
  clear hb a0 a1 a2
  have a0 := (hA.cell 0).trans rfl
  have a1 := (hA.cell 1).trans rfl
  have a2 := (hA.cell 2).trans rfl
  simp only [List.getElem?_toArray, List.getElem?_cons_zero, List.getElem?_cons_succ] at a0 a1 a2
  go_wp2_with fail
  refine (pleft_nil _).mono ?_
  rintro e w10 ⟨rfl, hb⟩
  replace hA := hA.after hb
  replace hB := hB.after hb
  replace hbel := bl_trans hbel hb
  clear hb a0 a1 a2
  have a0 := (hA.cell 0).trans rfl
  have a1 := (hA.cell 1).trans rfl
  have a2 := (hA.cell 2).trans rfl
  simp only [List.getElem?_toArray, List.getElem?_cons_zero, List.getElem?_cons_succ] at a0 a1 a2
  go_wp2_with fail
  refine (pused_nil _).mono ?_
  rintro e w11 ⟨rfl, hb⟩
  replace hA := hA.after hb
  replace hB := hB.after hb
  replace hbel := bl_trans hbel hb
  clear hb a0 a1 a2
  have a0 := (hA.cell 0).trans rfl
  have a1 := (hA.cell 1).trans rfl
  have a2 := (hA.cell 2).trans rfl
  simp only [List.getElem?_toArray, List.getElem?_cons_zero, List.getElem?_cons_succ] at a0 a1 a2
  go_wp2_with fail
  refine (pcopy_nil _).mono ?_
  rintro e w12 ⟨rfl, hb⟩
  replace hA := hA.after hb
  replace hB := hB.after hb
  replace hbel := bl_trans hbel hb
  clear hb a0 a1 a2
  have a0 := (hA.cell 0).trans rfl
  have a1 := (hA.cell 1).trans rfl
  have a2 := (hA.cell 2).trans rfl
  simp only [List.getElem?_toArray, List.getElem?_cons_zero, List.getElem?_cons_succ] at a0 a1 a2
  go_wp2_with fail
  refine (pbytes_nil _).mono ?_
  rintro e w13 ⟨rfl, hb⟩
  replace hA := hA.after hb
  replace hB := hB.after hb
  replace hbel := bl_trans hbel hb
  clear hb a0 a1 a2
  have a0 := (hA.cell 0).trans rfl
  have a1 := (hA.cell 1).trans rfl
  have a2 := (hA.cell 2).trans rfl
  simp only [List.getElem?_toArray, List.getElem?_cons_zero, List.getElem?_cons_succ] at a0 a1 a2
  go_wp2_with fail
  refine (pprefix_nil _).mono ?_
  rintro e w14 ⟨rfl, hb⟩
  replace hA := hA.after hb
  replace hB := hB.after hb
  replace hbel := bl_trans hbel hb
  clear hb a0 a1 a2
  have a0 := (hA.cell 0).trans rfl
  have a1 := (hA.cell 1).trans rfl
  have a2 := (hA.cell 2).trans rfl
  simp only [List.getElem?_toArray, List.getElem?_cons_zero, List.getElem?_cons_succ] at a0 a1 a2
  go_wp2_with fail
  go_ret
  exact ⟨rfl, hbel⟩
end Go.Proofs.YtpfilldnfpcpkaaGreatDoor

namespace Go.Proofs.YtpfilldnfpcpkaaGreatDoor
open Go.ChangeShapes Go.WideShapes Go.ChangeAt Go.RowKit

section
variable {H : Type} {enc : TypeId × Value → H} {P : Program}
theorem post_below {f : Func} {s : ChangeSpec} {apart fresh handsOn again : Bool} {W W' : World} {args : Array Value} {v : Value} {ds gs : List (DataW H)} {before pa pv : List MemPlace}
    (hW : DataW.Whole enc P f.params.toList s.vars apart W args.toList ds gs before)
    (hres : ∀ (b : Nat) (sp : Nat → Bool) (hd : Bool), DataW.TrodAll enc P W' b sp hd f.resultTypes.toList (v.resultList f.resultTypes.size) (s.fn H (ds ++ gs)).results [])
    (hargs : ∀ sp : Nat → Bool, (∀ p ∈ before, sp p.block = true) → DataW.TrodAll enc P W' 0 sp true f.params.toList args.toList (s.fn H (ds ++ gs)).args pa)
    (hvars : ∀ sp : Nat → Bool, (∀ p ∈ before, sp p.block = true) → DataW.TrodVars enc P W' sp s.vars (s.fn H (ds ++ gs)).vars pv)
    (hps : before = pa ++ pv) (hb : Below W.heap.size W W')
    (hok : ∀ (j : Nat) (t : TypeId) (r : Value), f.resultTypes[j]? = some t → (v.resultList f.resultTypes.size)[j]? = some r → Value.okWide P W' .any 0 t r) :
    s.post enc P f apart fresh handsOn again W args v W' := by
  have hlt : ∀ p ∈ before, p.block < W.heap.size := fun p hp => hW.lt p hp
  have hold : ∀ p ∈ before, (fun b => decide (b < W.heap.size)) p.block = true := fun p hp => by simpa using hlt p hp
  refine ⟨ds, gs, before, [], pa, pv, hW, hres _ _ _, hargs _ hold, hvars _ hold, World.keptBut_mono (fun p hp => ⟨hp, ?_⟩) (hb.frame (· ∈ before)), fun _ => ?_⟩
  · rw [hps, List.mem_append] at hp
    exact Or.inr hp
  · obtain ⟨_, _, _, _, _, hz, hn⟩ := hW
    refine ⟨hok, _, _, ([] ++ pa) ++ pv, ⟨[] ++ pa, pv, trodAll_append (hargs _ (fun _ _ => rfl)) (hres _ _ _), hvars _ (fun _ _ => rfl), rfl, ?_, ?_⟩, ?_⟩
    · intro b off hp
      have hin : MemPlace.cell b off ∈ before := by rw [hps]; simpa using hp
      rw [hb.frozen (hlt _ hin)]
      exact hz b off hin
    · intro ha
      have := hn ha
      rw [hps] at this
      simpa using this
    · intro p hp _
      rw [hps]
      simpa using hp
end

theorem Tryz.own : ownKnob Tryz.prog.godebug = none := by kernel_rfl
theorem u64_bd {n : Int} (h : (Lit.int .u64 n).wf = true) : 0 ≤ n ∧ n < 18446744073709551616 := by
  simp [Lit.wf, IntKind.min, IntKind.max, IntKind.bits, IntKind.signed] at h
  omega
end Go.Proofs.YtpfilldnfpcpkaaGreatDoor

namespace Go.Proofs.YtpfilldnfpcpkaaGreatDoor
open Go.RowKit

def listA : List (String × DataW Unit) := [("math/bits.deBruijn32tab", Rows.laid_math_bits_deBruijn32tab), ("math/bits.deBruijn64tab", Rows.laid_math_bits_deBruijn64tab), ("internal/strconv.uint64pow10", Rows.laid_internal_strconv_uint64pow10), ("unicode/utf8.acceptRanges", Rows.laid_unicode_utf8_acceptRanges), ("strconv.ErrRange", Rows.laid_strconv_ErrRange), ("strconv.ErrSyntax", Rows.laid_strconv_ErrSyntax), ("unicode/utf8.first", Rows.laid_unicode_utf8_first)]
theorem doorA_met (os : Os) (args : Array Value) : laidMetH Tryz.prog listA ((World.laidAll Tryz.prog os listA).forCall (fun _ _ => 0) ⟨#[], args, []⟩).memory := by
  rw [MakeChecks.laidMetH_plain _ _ _ (by kernel_rfl)]; exact laidMet_laidAll _ (by kernel_rfl) (by kernel_rfl)
def tabZ : List Int := Lib.deBruijn64tab.map Int.ofNat
theorem listA_tab : (Rows.laid_math_bits_deBruijn64tab : DataW Unit) = Lib.tabData .u8 tabZ := by kernel_rfl
theorem listA_pow : (Rows.laid_internal_strconv_uint64pow10 : DataW Unit) = Lib.tabData .u64 Lib.pow10Tab := by kernel_rfl
theorem err_star : "*" ++ "errors.errorString" = "*errors.errorString" := by decide
theorem err_name (u : TypeId) (h : Tryz.prog.typeName? 3 u = some "*errors.errorString") : u = 233 :=
  typeName_ptr_named (nm := "errors.errorString") (by rw [err_star]; kernel_rfl) (by kernel_rfl) (by decide) u (by rw [err_star]; exact h)
theorem glob_of {W : World} (h : laidMetH Tryz.prog listA W) (hs : W.ShapedOpen Tryz.prog) : Glob W := by
  rw [MakeChecks.laidMetH_plain _ _ _ (by kernel_rfl)] at h
  unfold listA at h
  have h2 := h.tail
  have h3 := h2.tail
  have h5 := h3.tail.tail
  have h6 := h5.tail
  rw [listA_tab] at h2
  rw [listA_pow] at h3
  refine ⟨?_, ?_, ?_, ?_, ?_⟩
  · exact cell_of_shapedOpen_int (g := 1) (t := 3) (zero := #[.int .i64 0]) hs (of_decide_eq_true (by kernel_rfl)) (by kernel_rfl) rfl (by kernel_rfl) (by kernel_rfl) Tryz.underlying3
  · obtain ⟨a, s, hv, _⟩ := laid_sentinel h6 (g := 2) (by kernel_rfl) (by kernel_rfl) Tryz.underlying144 err_name Tryz.underlying233 Tryz.underlying235 rfl rfl Tryz.underlying9 (by kernel_rfl) (by kernel_rfl)
    exact ⟨_, _, hv⟩
  · obtain ⟨a, s, hv, _⟩ := laid_sentinel h5 (g := 3) (by kernel_rfl) (by kernel_rfl) Tryz.underlying144 err_name Tryz.underlying233 Tryz.underlying235 rfl rfl Tryz.underlying9 (by kernel_rfl) (by kernel_rfl)
    exact ⟨_, _, hv⟩
  · exact Lib.tabIs_of_head (P := Tryz.prog) (g := 4) (t := 237) (e := 22) (n := 20) (by kernel_rfl) (by kernel_rfl) Tryz.underlying237 Tryz.underlying22 (by kernel_rfl) (by kernel_rfl) h3
  · have hT := Lib.tabIs_of_head (P := Tryz.prog) (g := 0) (t := 216) (e := 5) (n := 64) (by kernel_rfl) (by kernel_rfl) Tryz.underlying216 Tryz.underlying5 (by kernel_rfl) (by kernel_rfl) h2
    intro j hj
    have hc := hT.cell (g := 0) (by kernel_rfl) j (by unfold tabZ; rw [List.length_map, show Lib.deBruijn64tab.length = 64 by decide]; exact hj)
    rw [hc]
    have e : tabZ.getD j 0 = ((Lib.deBruijn64tab.getD j 0 : Nat) : Int) := by
      unfold tabZ
      simp only [List.getD_eq_getElem?_getD, List.getElem?_map]
      cases Lib.deBruijn64tab[j]? <;> rfl
    rw [e]
/-- the plain wrap with the row's condition and the start's shape -/
theorem lift_shaped {H : Type} {enc : TypeId × Value → H} {C : Checked} {os : Os} {f : FuncId} {fn : Func} {s : ChangeSpec} {X : World → Array Value → Prop}
    (hX : ∀ (w w' : World) (args : Array Value), w.heap = w'.heap → X w args → X w' args)
    (own : ownKnob C.prog.godebug = none) (started : os.Started) (noInit : C.prog.inits.idxOf? f = none) (hfn : C.prog.funcs[f]? = some fn)
    (witness : ∃ (w : World) (tape : Tape) (i : Input), w.os = os ∧ (w.forCall tape i).Shaped C.prog ∧ i.vars = [] ∧ Input.okWide C.prog (w.forCall tape i) .any w.heap.size f i ∧
      ((s.pre enc C.prog fn [] false (w.forCall tape i).memory i.args ∧ X (w.forCall tape i).memory i.args) ∧ sizedMet enc C.prog fn (OpenSpec.ofChange s) false (w.forCall tape i).memory i.args) ∧ ({} : Assume).holds C.prog (lone (Frame.enter C.prog f i.args .normal) [] (w.forCall tape i)))
    (contract : ∀ (W : World) (base : Nat) (args : Array Value) (ds gs : List (DataW H)) (before : List MemPlace),
      (∀ (j : Nat) t v, fn.params[j]? = some t → args[j]? = some v → Value.okWide C.prog W .any base t v) →
      DataW.Whole enc C.prog fn.params.toList s.vars false W args.toList ds gs before → X W args → W.ShapedOpen C.prog →
      Calls C.prog f args W fun e W' => ∃ v, e = .returned v ∧ s.post enc C.prog fn false true false false W args v W') :
    ReturnsInHanded {} C os f .any (fun w args => (s.pre enc C.prog fn [] false w args ∧ X w args) ∧ sizedMet enc C.prog fn (OpenSpec.ofChange s) false w args) (s.post enc C.prog fn false true false false) := by
  refine returnsInHanded_of_calls own started noInit witness ?_
  intro w tape i _ hshape _ hok hpre _
  obtain ⟨_, _, _, fn2, hfn2, _, _, _, _, hval⟩ := hok
  obtain rfl : fn2 = fn := Option.some.inj (hfn2.symm.trans hfn)
  obtain ⟨⟨⟨ds, gs, before, hw, _⟩, hx⟩, _⟩ := hpre
  refine (contract (w.forCall tape i) w.heap.size i.args ds gs before hval (DataW.Whole.of_heap (w' := w.forCall tape i) (by rfl) hw) (hX _ _ _ (by rfl) hx) hshape).mono fun e W' ⟨v, he, hp⟩ => ?_
  subst he
  exact ChangeSpec.post_blind hp
end Go.Proofs.YtpfilldnfpcpkaaGreatDoor

namespace Go.Proofs.YtpfilldnfpcpkaaGreatDoor
open Go.ChangeShapes Go.WideShapes Go.ChangeAt Go.RowKit Go.Joins

theorem Tryz.cellsNum : Tryz.prog.cellsOf 24 = 2 := by kernel_rfl

end Go.Proofs.YtpfilldnfpcpkaaGreatDoor

namespace Go.Proofs.YtpfilldnfpcpkaaGreatDoor
open Go.ChangeShapes Go.WideShapes Go.ChangeAt Go.RowKit Go.Joins

set_option maxRecDepth 100000 in
theorem Tryz.cellsAddr : Tryz.prog.cellsOf 26 = 3 := by kernel_rfl
def numD {H : Type} (n : Nat) : DataW H := .agg [.lit (.int .u64 (hi n)), .lit (.int .u64 (lo n))]
def addrD {H : Type} (v : Bool) (n : Nat) : DataW H := .agg [.lit (.bool v), numD n]
/-- the number's words are in their bounds -/
def numOk (n : Nat) : Prop := (Lit.int .u64 (hi n)).wf = true ∧ (Lit.int .u64 (lo n)).wf = true

set_option maxRecDepth 100000 in
theorem trod_bool_form {H : Type} {enc : TypeId × Value → H} {P : Program} {w : World} {base : Nat} {sp : Nat → Bool} {held : Bool} {fuel : Nat} {t : TypeId} {c : Value} {x : DataW H × List MemPlace} (ht : P.underlying t = some .bool)
    (h : DataW.trod enc P w base sp held fuel t [c] = some x) : ∃ b, c = .bool b ∧ x = (.lit (.bool b), []) := by
  cases fuel with
  | zero => simp [DataW.trod] at h
  | succ fuel =>
    simp only [DataW.trod, ht] at h
    split at h
    · rename_i e1 e2
      simp at e2
      subst e2
      exact ⟨_, rfl, (Option.some.inj h).symm⟩
    all_goals first | (rename_i e1 _; cases e1; done) | (cases h; done) | skip
    all_goals simp_all
set_option maxRecDepth 100000 in
theorem trod_num_form {H : Type} {enc : TypeId × Value → H} {W : World} {base : Nat} {sp : Nat → Bool} {held : Bool} {fuel : Nat} {c0 c1 : Value} {x : DataW H × List MemPlace}
    (h : DataW.trod enc Tryz.prog W base sp held fuel 24 [c0, c1] = some x) : ∃ n : Nat, n < 340282366920938463463374607431768211456 ∧ c0 = .int .u64 (hi n) ∧ c1 = .int .u64 (lo n) ∧ x = (numD n, []) ∧ numOk n := by
  obtain ⟨y0, y1, m, rfl, _, h0, h1⟩ := trod_struct2 Tryz.underlying24 h
  have h0' : DataW.trod enc Tryz.prog W base sp held m 22 [c0] = some y0 := h0
  have h1' : DataW.trod enc Tryz.prog W base sp held m 22 [c1] = some y1 := h1
  obtain ⟨a, e0, rfl, wa⟩ := DataW.trod_int Tryz.underlying22 h0'
  obtain ⟨b, e1, rfl, wb⟩ := DataW.trod_int Tryz.underlying22 h1'
  simp at e0 e1
  subst e0 e1
  obtain ⟨a0, a1⟩ := u64_bd wa
  obtain ⟨b0', b1⟩ := u64_bd wb
  refine ⟨num a b, num_lt a1 b1, ?_, ?_, ?_, ?_, ?_⟩
  · rw [hi_num a0 a1 b0' b1]
  · rw [lo_num b0' b1]
  · unfold numD; rw [hi_num a0 a1 b0' b1, lo_num b0' b1]; rfl
  · rw [hi_num a0 a1 b0' b1]; exact wa
  · rw [lo_num b0' b1]; exact wb
set_option maxRecDepth 100000 in
theorem trod_num_mk {H : Type} {enc : TypeId × Value → H} {W : World} {base : Nat} {sp : Nat → Bool} {held : Bool} {n : Nat} (h : numOk n) : DataW.trod enc Tryz.prog W base sp held 2 24 [.int .u64 (hi n), .int .u64 (lo n)] = some (numD n, []) := by
  obtain ⟨wa, wb⟩ := h
  have := trod_struct2_mk (enc := enc) (w := W) (base := base) (spare := sp) (held := held) (n := 1) (cs := [.int .u64 (hi n), .int .u64 (lo n)]) (y0 := (.lit (.int .u64 (hi n)), [])) (y1 := (.lit (.int .u64 (lo n)), [])) Tryz.underlying24 Tryz.cellsNum.symm
    (by show DataW.trod enc Tryz.prog W base sp held 1 22 [.int .u64 (hi n)] = _; simp [DataW.trod, Tryz.underlying22, wa])
    (by show DataW.trod enc Tryz.prog W base sp held 1 22 [.int .u64 (lo n)] = _; simp [DataW.trod, Tryz.underlying22, wb])
  exact this
set_option maxRecDepth 100000 in
theorem trod_addr_form {H : Type} {enc : TypeId × Value → H} {W : World} {base : Nat} {sp : Nat → Bool} {held : Bool} {fuel : Nat} {c0 c1 c2 : Value} {x : DataW H × List MemPlace}
    (h : DataW.trod enc Tryz.prog W base sp held fuel 26 [c0, c1, c2] = some x) : ∃ (v : Bool) (n : Nat), n < 340282366920938463463374607431768211456 ∧ c0 = .bool v ∧ c1 = .int .u64 (hi n) ∧ c2 = .int .u64 (lo n) ∧ x = (addrD v n, []) ∧ numOk n := by
  obtain ⟨y0, y1, m, rfl, _, h0, h1⟩ := trod_struct2 Tryz.underlying26 h
  have h0' : DataW.trod enc Tryz.prog W base sp held m 4 [c0] = some y0 := h0
  have h1' : DataW.trod enc Tryz.prog W base sp held m 24 [c1, c2] = some y1 := h1
  obtain ⟨v, rfl, rfl⟩ := trod_bool_form Tryz.underlying4 h0'
  obtain ⟨n, hn, rfl, rfl, rfl, ho⟩ := trod_num_form h1'
  exact ⟨v, n, hn, rfl, rfl, rfl, rfl, ho⟩
set_option maxRecDepth 100000 in
theorem trod_addr_mk {H : Type} {enc : TypeId × Value → H} {W : World} {base : Nat} {sp : Nat → Bool} {held : Bool} {v : Bool} {n : Nat} (h : numOk n) : DataW.trod enc Tryz.prog W base sp held 3 26 [.bool v, .int .u64 (hi n), .int .u64 (lo n)] = some (addrD v n, []) := by
  have := trod_struct2_mk (enc := enc) (w := W) (base := base) (spare := sp) (held := held) (n := 2) (cs := [.bool v, .int .u64 (hi n), .int .u64 (lo n)]) (y0 := (.lit (.bool v), [])) (y1 := (numD n, [])) Tryz.underlying26 Tryz.cellsAddr.symm
    (by show DataW.trod enc Tryz.prog W base sp held 2 4 [.bool v] = _; simp [DataW.trod, Tryz.underlying4])
    (trod_num_mk h)
  exact this
set_option maxRecDepth 100000 in
/-- an address as an argument -/
theorem open_addr {H : Type} {enc : TypeId × Value → H} {W : World} {base b0 : Nat} {sp : Nat → Bool} {v : Value} {d : DataW H} {p : List MemPlace} {r : Reach}
    (hv : Value.okWide Tryz.prog W r b0 26 v) (h : DataW.Trod enc Tryz.prog W base sp true 26 v d p) :
    ∃ (u : Bool) (n : Nat), n < 340282366920938463463374607431768211456 ∧ v = AddrV u n ∧ d = addrD u n ∧ p = [] ∧ numOk n := by
  obtain ⟨cs, rfl, hsz⟩ := okWide_struct Tryz.underlying26 hv
  obtain ⟨c0, c1, c2, rfl⟩ := array3 (hsz.trans Tryz.cellsAddr)
  obtain ⟨fuel, hf⟩ := h
  obtain ⟨u, n, hn, rfl, rfl, rfl, e, ho⟩ := trod_addr_form hf
  simp only [Prod.mk.injEq] at e
  exact ⟨u, n, hn, rfl, e.1, e.2, ho⟩
set_option maxRecDepth 100000 in
theorem shut_addr {H : Type} {enc : TypeId × Value → H} {W : World} {base : Nat} {sp : Nat → Bool} {u : Bool} {n : Nat} (h : numOk n) :
    DataW.Trod enc Tryz.prog W base sp true 26 (AddrV u n) (addrD u n) [] := ⟨3, trod_addr_mk h⟩
end Go.Proofs.YtpfilldnfpcpkaaGreatDoor

namespace Go.Proofs.YtpfilldnfpcpkaaGreatDoor
open Go.ChangeShapes Go.WideShapes Go.ChangeAt Go.RowKit
open Go.ChangeMaps (open_string shut_string)

set_option maxRecDepth 100000 in
theorem poolNil_lifted (os : Os) (started : os.Started) (H : Type) (enc : TypeId × Value → H) :
    ReturnsInHanded {} Tryz.checked os 12 .any (fun w args => (Rows.poolNilSpec.pre enc Tryz.prog Tryz.f12 [] false w args ∧ laidMetH Tryz.prog listA w) ∧ sizedMet enc Tryz.prog Tryz.f12 (OpenSpec.ofChange Rows.poolNilSpec) false w args)
      (Rows.poolNilSpec.post enc Tryz.prog Tryz.f12 false true false false) := by
  refine lift_shaped (C := Tryz.checked) (X := fun w _ => laidMetH Tryz.prog listA w) (fun _ _ _ hh h => h.of_heap hh) Tryz.own started (by kernel_rfl) Tryz.func12
    (ChangeSpec.witness_shaped (enc := enc) (C := Tryz.checked) (os := os) (X := fun w _ => laidMetH Tryz.prog listA w) false (World.laidAll Tryz.prog os listA) #[.agg #[.bool false, .int .u64 0, .int .u64 0], .int .i64 0] 8 (World.laidAll_os _ _ _) (World.shaped_of_ZipB (by kernel_rfl) (by kernel_rfl)) (by kernel_rfl) (by kernel_rfl) (by kernel_rfl) (doorA_met os _)) ?_
  intro W base args ds gs before hval0 hW hL hSh
  have hval : ∀ (j : Nat) t v, Tryz.f12.params[j]? = some t → args[j]? = some v → Value.okWide Tryz.prog W .any base t v := hval0
  have hW' := hW
  obtain ⟨p, q, hA0, hV, rfl, _, _⟩ := hW
  have hA : DataW.TrodAll enc Tryz.prog W 0 (fun _ => true) true Tryz.f12.params.toList args.toList ds p := hA0
  rw [Tryz.params12] at hA hval
  obtain ⟨v0, v1, d0, d1, p0, p1, rfl, rfl, rfl, h0, h1⟩ := trodAll_two hA
  obtain ⟨rfl, rfl⟩ := trodVars_none hV
  obtain ⟨u0, x0, hx0, rfl, rfl, rfl, ho0⟩ := open_addr (hval 0 26 v0 rfl rfl) h0
  obtain ⟨x1, rfl, rfl, rfl, wx1⟩ := open_int Tryz.underlying3 (hval 1 3 v1 rfl rfl) h1
  clear hA0 hval0
  simp only [List.append_nil] at hW'
  refine (poolNil_walk u0 x0 x1 W hx0 (glob_of hL hSh)).mono fun e W' ⟨he, hw⟩ => ?_
  subst he
  exact ⟨_, rfl, post_below (pa := []) (pv := []) hW' (fun _ _ _ => trodAll_mk1 (shut_bool Tryz.underlying4 _)) (fun sp _ => trodAll_mk2 (shut_addr ho0) (shut_int Tryz.underlying3 wx1)) (fun _ _ => rfl) rfl
    hw (ok_one (by kernel_rfl) rfl (okWide_bool_mk Tryz.underlying4 _))⟩

theorem poolNil_row : Rows.PoolNilSaid :=
  OpenClaim.holds_of_wide 12 Tryz.f12 rfl rfl rfl rfl rfl rfl rfl ⟨rfl, rfl, rfl, rfl, rfl⟩ rfl rfl rfl rfl rfl (by kernel_rfl) Tryz.func12 (by kernel_rfl)
    (of_decide_eq_true (by kernel_rfl)) (by unfold Func.isWrapper; first | (rw [if_pos (by decide +kernel)]; kernel_rfl) | (rw [if_neg (by decide +kernel)]; exact ⟨rfl, rfl⟩))
    (fun os started H enc _ => poolNil_lifted os started H enc)

theorem poolNil_card : Rows.PoolNilCardSaid :=
  Claim7.holds_tied_plain_at .later [] [.data, .data, .data, .data, .sentinel, .sentinel, .pinned] true Rows.poolNilCard.stood.harness true
    poolNil_row (fun _ h => by cases h) (by kernel_rfl) (fun _ h => by cases h) poolNil_row_tie rfl ⟨rfl, rfl⟩ (by kernel_rfl) rfl
    (fun f fn hf hfn => by
      obtain rfl : f = 12 := Option.some.inj ((show Tryz.prog.funcNamed "platbook/platbooklaw06.PoolNil" = some 12 by kernel_rfl).symm.trans hf) |>.symm
      obtain rfl : fn = Tryz.f12 := (Option.some.inj (Tryz.func12.symm.trans hfn)).symm
      exact ⟨by kernel_rfl, fun j t ht => by
        rw [Tryz.params12] at ht
        have hm : t ∈ [26, 3] := by simpa using Array.mem_of_getElem? ht
        have hall : ([26, 3].all fun u => !Tryz.prog.wantsStandIn u) = true := by kernel_rfl
        exact (show Tryz.prog.wantsStandIn t = false by simpa using List.all_eq_true.1 hall t hm)⟩)
    (by kernel_rfl)
end Go.Proofs.YtpfilldnfpcpkaaGreatDoor

#print axioms Go.Proofs.YtpfilldnfpcpkaaGreatDoor.poolNil_card
