/-
PoolGreat: of a pool of any prefix, the addresses kept at its ends are never given, the one of the offset is, and what is given is counted, had and given back: for every prefix and every number the call returns true. No condition; the listed variables are tied to the program's text.
-/
import Derived.ProofKit
import Derived.ChangeSame
import Derived.LaidMore
import Derived.Lay
import Derived.MakeChecks
import Derived.LaidByTextLater
import Derived.OpenShut
import Derived.Stop.Joined
import Derived.Stop.LaidErr
import Derived.Lib.LaidTab
import Derived.Handed
import Derived.Shelf.Vars
import Derived.Lib.SmallJoins
import Derived.Carry
import Derived.SevenTiedAt
import Derived.ShutString
import Derived.Test.YtpfilldnfpcpkaaGreatDoorPgrM1
import Derived.Test.YtpfilldnfpcpkaaGreatDoorRows
import Derived.Test.YtpfilldnfpcpkaaGreatDoorCards
import Derived.Test.YtpfilldnfpcpkaaGreatDoorTie
set_option linter.unusedVariables false
set_option linter.unusedSimpArgs false
namespace Go.Proofs.YtpfilldnfpcpkaaGreatDoor
open Go.RowKit

theorem MapAt.far {w : World} {g c n : Nat} {f : Nat → Bool} (h : MapAt w g c n f) {p : Addr} (h2 : g ≠ p.block) (h3 : c ≠ p.block) (u : Value) : MapAt (w.setCell p u) g c n f :=
  ⟨h.head.far h2 u, h.row.far h3 u, h.ne, h.small, h.top⟩
theorem PoolAt.far {w : World} {q g c : Nat} {v : Bool} {n : Nat} {b : Int} {f : Nat → Bool} (h : PoolAt w q g c v n b f) {p : Addr} (h1 : q ≠ p.block) (h2 : g ≠ p.block) (h3 : c ≠ p.block) (u : Value) : PoolAt (w.setCell p u) q g c v n b f :=
  ⟨h.head.far h1 u, h.map.far h2 h3 u, h.right, h.big⟩
theorem gb_new {a b : World} {row : Option Nat} (h : a.grownBy b row) {p : Addr} (hp : a.heap.size ≤ p.block) (u : Value) : a.grownBy (b.setCell p u) row :=
  ⟨h.os, h.tape, h.output, by simp only [World.setCell]; simpa using h.size, fun i hi hr => (Below.heap_setCell _ _ _ _ (fun e => by rw [e] at hi; omega)).trans (h.block i hi hr)⟩
/-- what Next answers: the first number from a place on, round once, that is not used -/
def PNexted (q g c : Nat) (v : Bool) (n : Nat) (b : Int) (f : Nat → Bool) (a : Nat) (w0 : World) (x : Ending) (w : World) : Prop :=
  (∃ j, IsNext f (cntP (fr v b)) a j ∧ x = .returned (.tuple #[.agg #[.bool v, .int .u64 (hi (n + j)), .int .u64 (lo (n + j))], .int .i64 0]) ∧ PoolAt w q g c v n b (upd f j true) ∧ w0.grownBy w (some c)) ∨
  ((∀ y, y < cntP (fr v b) → f y = true) ∧ x = .returned (.tuple #[.agg #[.bool false, .int .u64 0, .int .u64 0], .int .i64 9]) ∧ Below w0.heap.size w0 w)
set_option maxRecDepth 20000 in
set_option maxHeartbeats 3200000 in
theorem pnext_c (q g c : Nat) (v : Bool) (n : Nat) (b : Int) (f : Nat → Bool) (o : Int) (w : World) (h : PoolAt w q g c v n b f) (hT : Tab w) :
    Calls Tryz.prog 31 #[.pointer (some ⟨q, 0, none⟩), .int .i64 o] w (PNexted q g c v n b f (startAt o (cntP (fr v b))) w) := by
  have hql := h.head.lt
  have hTl := hT.lt
  go_enter Tryz.func31, Tryz.ntmps31
  have hR : Blk (w.alloc (Obj.cells #[Value.bool false, Value.int IntKind.u64 0, Value.int IntKind.u64 0] 26)) w.heap.size 26 (AddrC false 0) := Blk.new _ _ _
  have hbel : Below w.heap.size w (w.alloc (Obj.cells #[Value.bool false, Value.int IntKind.u64 0, Value.int IntKind.u64 0] 26)) := bl_
  obtain ⟨c0, c1, c2, c3, c4⟩ := pool_cells h
  go_wp2_with fail
  generalize w.alloc (Obj.cells #[Value.bool false, Value.int IntKind.u64 0, Value.int IntKind.u64 0] 26) = wz at *
  refine (next_c g c _ f o _ (h.after hbel).map (hT.after hTl hbel)).mono ?_
  rintro e w1 ⟨j, B, rfl, hx1, hx2, hb1⟩
  replace hR := hR.after hb1
  replace hbel := bl_trans hbel hb1
  clear hb1 c0 c1 c2 c3 c4
  have z0 := hR.frozen 0
  have z1 := hR.frozen 1
  have z2 := hR.frozen 2
  obtain ⟨r0, r1, r2, _⟩ := blk_adr hR
  cases B
  · have hall := Lib.hid (hx2 rfl)
    clear hx1 hx2
    go_wp2_with fail
    refine bodyPost_ret (v := .tuple #[.agg #[.bool false, .int .u64 0, .int .u64 0], .int .i64 9]) (by simp [results, Tryz.results31, go_sem, r0, r1, r2, hi_zero, lo_zero]) rfl (Or.inr ⟨hall.out.2, rfl, bl_⟩)
  · have hn := Lib.hid (hx1 rfl)
    have hjN := hn.out.1
    have hwc : w.heap.size ≠ c := by have := h.map.row.lt; omega
    have hqw : q ≠ w.heap.size := by omega
    have hgw : g ≠ w.heap.size := by have := h.map.head.lt; omega
    have hcw : c ≠ w.heap.size := by omega
    have hjf := hn.out.2.1
    clear hx1 hx2
    obtain ⟨c0, c1, c2, c3, c4⟩ := pool_cells (h.after hbel)
    go_wp2_with fail
    clear r0 r1 r2 z0 z1 z2
    go_region_held3 (fun w' => w'.cell? ⟨q, 4, none⟩ = some (.pointer (some ⟨g, 0, none⟩)))
      (first | with_reducible assumption | exact c4 | exact d4 | exact k4 | exact ((((hp6.head.far hqw _).far hqw _).far hqw _).cell 4).trans rfl)
      (first
      | (go_at_call 81; refine (phost_c q g c v n b f j _ (h.after bl_) hjN).mono ?_; rintro e w5 ⟨rfl, hb5⟩; obtain ⟨hc5, hf5⟩ := bcell hb5; have hz5 := hb5.size; (try simp only [size_alloc', size_setCell', size_drew'] at hz5); obtain ⟨d0, d1, d2, d3, d4⟩ := pool_cells (h.after (show Below w.heap.size w w5 from bl_)); have hR5 : Blk w5 w.heap.size 26 (AddrC false 0) := bk_)
      | (go_at_call 70; refine (bput_c g c _ f j w5 (h.after bl_).map hjN hjf).mono ?_; rintro e w6 ⟨rfl, hm, hg⟩; have hp6 := (h.after (show Below w.heap.size w w5 from bl_)).put hm hg; have hg6 : w.grownBy w6 (some c) := gb_trans (gb_below bl_) hg; have hR6 := hR5.grown hg (some_ne hwc); obtain ⟨r0, r1, r2, _⟩ := blk_adr hR6; have z0 := hR6.frozen 0; have z1 := hR6.frozen 1; have z2 := hR6.frozen 2; have k4 := hp6.cells.2.2.2.2))
    all_goals
      go_wp2_with fail
      have hRf := blk_fill3 (x := .bool v) (y := .int .u64 (hi (n + j))) (k := .int .u64 (lo (n + j))) hR6
      have hPf := ((hp6.far (p := ⟨w.heap.size, 0, none⟩) hqw hgw hcw (.bool v)).far (p := ⟨w.heap.size, 1, none⟩) hqw hgw hcw (.int .u64 (hi (n + j)))).far (p := ⟨w.heap.size, 2, none⟩) hqw hgw hcw (.int .u64 (lo (n + j)))
      have hGf := gb_new (gb_new (gb_new hg6 (p := ⟨w.heap.size, 0, none⟩) (Nat.le_refl _) (.bool v)) (p := ⟨w.heap.size, 1, none⟩) (Nat.le_refl _) (.int .u64 (hi (n + j)))) (p := ⟨w.heap.size, 2, none⟩) (Nat.le_refl _) (.int .u64 (lo (n + j)))
      generalize ((w6.setCell ⟨w.heap.size, 0, none⟩ (.bool v)).setCell ⟨w.heap.size, 1, none⟩ (.int .u64 (hi (n + j)))).setCell ⟨w.heap.size, 2, none⟩ (.int .u64 (lo (n + j))) = wf at *
      obtain ⟨s0, s1, s2, _⟩ := blk_adr (show Blk wf w.heap.size 26 (AddrC v (n + j)) from hRf)
      refine bodyPost_ret (v := .tuple #[.agg #[.bool v, .int .u64 (hi (n + j)), .int .u64 (lo (n + j))], .int .i64 0]) (by simp [results, Tryz.results31, go_sem, s0, s1, s2]) rfl (Or.inl ⟨j, hn.out, rfl, hPf, hGf⟩)

/-- which numbers are used in a pool that is new -/
def freshF (v : Bool) (F : Nat) : Nat → Bool := fun i => decide (i < cntP F) && kept v F i
theorem fresh_end {v : Bool} {F : Nat} (h : endK v F = true) (hF : 2 ≤ F) : upd (upd (fun _ => false) 0 true) (cntP F - 1) true = freshF v F := by
  have hN := cntP_ge hF
  funext i
  unfold upd freshF kept
  rw [h]
  by_cases h1 : i + 1 = cntP F
  · rw [if_pos (by omega), decide_eq_true (by omega), beq_iff_eq.2 h1]; simp
  · rw [if_neg (by omega), show (i + 1 == cntP F) = false from by simpa using h1]
    by_cases h2 : i = 0
    · subst h2; simp; omega
    · rw [if_neg h2]; simp [h2]
theorem fresh_open {v : Bool} {F : Nat} (h : endK v F = false) (hF : 2 ≤ F) : upd (fun _ => false) 0 true = freshF v F := by
  have hN := cntP_ge hF
  funext i
  unfold upd freshF kept
  rw [h]
  by_cases h2 : i = 0
  · subst h2; simp; omega
  · rw [if_neg h2]; simp [h2]
set_option maxRecDepth 20000 in
theorem pnew_no (v : Bool) (n : Nat) (b : Int) (w : World) (hn : n < 340282366920938463463374607431768211456) (h : sizeS v n b = (0, false) ∨ (sizeS v n b).2 = false) :
    Calls Tryz.prog 15 #[.agg #[.bool v, .int .u64 (hi n), .int .u64 (lo n), .int .i64 b]] w fun e w' => e = .returned (.tuple #[.pointer none, .int .i64 1]) ∧ Below w.heap.size w w' := by
  have h2 : (sizeS v n b).2 = false := by rcases h with h | h
                                          · rw [h]
                                          · exact h
  have H := Lib.hid (fun w => psizeof_k v n b w hn)
  rw [h2] at H
  go_enter Tryz.func15, Tryz.ntmps15
  go_wp2_with fail
  refine (H.out _).mono ?_
  rintro e w1 ⟨rfl, hb1⟩
  have hbel : Below w.heap.size w w1 := bl_trans bl_ hb1
  clear hb1
  go_wp2_with fail
  go_ret2
  exact ⟨rfl, hbel⟩
set_option maxRecDepth 20000 in
set_option maxHeartbeats 3200000 in
theorem pnew_c (v : Bool) (n : Nat) (b : Int) (w : World) (hr : rightP v n b = true) (hF : 2 ≤ fr v b) :
    Calls Tryz.prog 15 #[.agg #[.bool v, .int .u64 (hi n), .int .u64 (lo n), .int .i64 b]] w fun e w' => ∃ q g c, e = .returned (.tuple #[.pointer (some ⟨q, 0, none⟩), .int .i64 0]) ∧
      PoolAt w' q g c v n b (freshF v (fr v b)) ∧ Below w.heap.size w w' ∧ w.heap.size ≤ q ∧ w.heap.size ≤ g ∧ w.heap.size ≤ c := by
  have hn : n < 340282366920938463463374607431768211456 := Nat.lt_of_lt_of_le (rightP_iff.1 hr).1 (pow_w v)
  have hN := cntP_ge hF
  have hN2 := cntP_le (fr v b)
  have H := Lib.hid (fun w => psizeof_k v n b w hn)
  rw [show sizeS v n b = (((cntP (fr v b) : Nat) : Int), true) from by unfold sizeS; rw [if_pos hr, decide_eq_true hF]] at H
  have HB := Lib.hid (fun w => pbroad_k v n b w hr hF)
  have hE1 := Lib.hid (fun h => fresh_end (v := v) (F := fr v b) h hF)
  have hE0 := Lib.hid (fun h => fresh_open (v := v) (F := fr v b) h hF)
  simp only at H
  go_enter Tryz.func15, Tryz.ntmps15
  go_wp2_with fail
  have hA : Blk (w.alloc (Obj.cells #[Value.bool v, Value.int IntKind.u64 (hi n), Value.int IntKind.u64 (lo n), Value.int IntKind.i64 b] 28)) w.heap.size 28 (PfxC v n b) := Blk.new _ _ _
  have hbel : Below w.heap.size w (w.alloc (Obj.cells #[Value.bool v, Value.int IntKind.u64 (hi n), Value.int IntKind.u64 (lo n), Value.int IntKind.i64 b] 28)) := bl_
  generalize w.alloc (Obj.cells #[Value.bool v, Value.int IntKind.u64 (hi n), Value.int IntKind.u64 (lo n), Value.int IntKind.i64 b] 28) = wz at *
  refine (H.out _).mono ?_
  rintro e w1 ⟨rfl, hb1⟩
  replace hA := hA.after hb1
  replace hbel := bl_trans hbel hb1
  clear hb1
  go_wp2_with fail
  refine (new_c _ _ hN2).mono ?_
  rintro e w2 ⟨rfl, hm, hb2⟩
  replace hA := hA.after hb2
  have hws := hbel.size
  replace hbel := bl_trans hbel hb2
  clear hb2
  generalize hgE : w1.heap.size + 1 = g at *
  generalize hcE : w1.heap.size = c at *
  obtain ⟨a0, a1, a2, a3, _⟩ := blk_pfx hA
  go_wp2_with fail
  have hQ := Blk.new w2 105 #[.bool v, .int .u64 (hi n), .int .u64 (lo n), .int .i64 b, .pointer (some ⟨g, 0, none⟩)]
  replace hA := hA.alloc (.cells #[.bool v, .int .u64 (hi n), .int .u64 (lo n), .int .i64 b, .pointer (some ⟨g, 0, none⟩)] 105)
  replace hm := hm.alloc (.cells #[.bool v, .int .u64 (hi n), .int .u64 (lo n), .int .i64 b, .pointer (some ⟨g, 0, none⟩)] 105)
  have hql := hbel.size
  replace hbel := bl_alloc hbel (.cells #[.bool v, .int .u64 (hi n), .int .u64 (lo n), .int .i64 b, .pointer (some ⟨g, 0, none⟩)] 105)
  clear a0 a1 a2 a3
  generalize w2.alloc (.cells #[.bool v, .int .u64 (hi n), .int .u64 (lo n), .int .i64 b, .pointer (some ⟨g, 0, none⟩)] 105) = w3 at *
  generalize w2.heap.size = q at *
  have HP := bput_c g c _ (fun _ => false) 0 w3 hm (by omega) rfl
  rw [show ((0 : Nat) : Int) = 0 from rfl] at HP
  refine HP.mono ?_
  clear HP
  rintro e w4 ⟨rfl, hm4, hg4⟩
  have hqc : q ≠ c := hQ.ne hm.row (by decide)
  have hAc : w.heap.size ≠ c := hA.ne hm.row (by decide)
  replace hQ := hQ.grown hg4 (some_ne hqc)
  replace hA := hA.grown hg4 (some_ne hAc)
  replace hbel := bl_grown hbel hg4 hws
  clear hm hg4
  obtain ⟨a0, a1, a2, a3, _⟩ := blk_pfx hA
  go_wp2_with fail
  refine (HB.out _).mono ?_
  rintro e w5 ⟨rfl, hb5⟩
  replace hQ := hQ.after hb5
  replace hm4 := hm4.after hb5
  replace hbel := bl_trans hbel hb5
  clear hb5 a0 a1 a2 a3 hA
  rw [show (cntP (fr v b) : Int) - 1 = ((cntP (fr v b) - 1 : Nat) : Int) from by omega]
  cases hE : endK v (fr v b)
  · go_wp2_with fail
    go_ret2
    refine ⟨q, g, c, rfl, ⟨hQ, ?_, hr, hF⟩, hbel, hql, by omega, hws⟩
    rw [← hE0.out hE]; exact hm4
  · go_wp2_with fail
    refine (bput_c g c _ _ (cntP (fr v b) - 1) w5 hm4 (by omega) (by unfold upd; rw [if_neg (by omega)])).mono ?_
    rintro e w6 ⟨rfl, hm6, hg6⟩
    replace hQ := hQ.grown hg6 (some_ne hqc)
    replace hbel := bl_grown hbel hg6 hws
    go_wp2_with fail
    go_ret2
    refine ⟨q, g, c, rfl, ⟨hQ, ?_, hr, hF⟩, hbel, hql, by omega, hws⟩
    rw [← hE1.out hE]; exact hm6
end Go.Proofs.YtpfilldnfpcpkaaGreatDoor

namespace Go.Proofs.YtpfilldnfpcpkaaGreatDoor
open Go.RowKit Go.Proofs.YtpfilldnfpcpkaaGreatDoorW.PrintWords Go.Proofs.YtpfilldnfpcpkaaGreatDoor.PPo

def intsV (l : List Nat) : List Value := l.map fun k : Nat => Value.int .i64 (k : Int)
/-- in w the reference's pool of a prefix lies at block q; us: the numbers that are used, a row of the law's own -/
structure RPoolAt (w : World) (base q : Nat) (p : Option Addr) (cap : Nat) (v : Bool) (n : Nat) (b : Int) (us : List Nat) : Prop where
  head : Blk w q 54 #[.bool v, .int .u64 (hi n), .int .u64 (lo n), .int .i64 b, .int .i64 (cntP (fr v b) : Nat), .slice p us.length cap]
  row : w.ownsRow base 3 1 (.slice p us.length cap) us.length (intsV us)
  right : rightP v n b = true
  big : 2 ≤ fr v b
theorem RPoolAt.after {w w' : World} {base q cap : Nat} {p : Option Addr} {v : Bool} {n : Nat} {b : Int} {us : List Nat} (h : RPoolAt w base q p cap v n b us) (hb : Below w.heap.size w w') : RPoolAt w' base q p cap v n b us := ⟨h.head.after hb, own_after h.row hb, h.right, h.big⟩
theorem RPoolAt.grown {w w' : World} {base q cap : Nat} {p : Option Addr} {v : Bool} {n : Nat} {b : Int} {us : List Nat} {c : Nat} {cs : Array Value} (h : RPoolAt w base q p cap v n b us) (hc : Blk w c 22 cs) (hb : w.grownBy w' (some c)) : RPoolAt w' base q p cap v n b us :=
  ⟨h.head.grown hb (some_ne (h.head.ne hc (by decide))), h.row.kept hb (.inr (fun e => (hc.ne_own h.row (by decide)) e.symm)), h.right, h.big⟩
theorem rcells {w : World} {base q cap : Nat} {p : Option Addr} {v : Bool} {n : Nat} {b : Int} {us : List Nat} (h : RPoolAt w base q p cap v n b us) :
    w.cell? ⟨q, 0, none⟩ = some (.bool v) ∧ w.cell? ⟨q, 1, none⟩ = some (.int .u64 (hi n)) ∧ w.cell? ⟨q, 2, none⟩ = some (.int .u64 (lo n)) ∧ w.cell? ⟨q, 3, none⟩ = some (.int .i64 b) ∧ w.cell? ⟨q, 4, none⟩ = some (.int .i64 (cntP (fr v b) : Nat)) ∧ w.cell? ⟨q, 5, none⟩ = some (.slice p us.length cap) :=
  ⟨(h.head.cell 0).trans rfl, (h.head.cell 1).trans rfl, (h.head.cell 2).trans rfl, (h.head.cell 3).trans rfl, (h.head.cell 4).trans rfl, (h.head.cell 5).trans rfl⟩
theorem RPoolAt.lt {w : World} {base q cap : Nat} {p : Option Addr} {v : Bool} {n : Nat} {b : Int} {us : List Nat} (h : RPoolAt w base q p cap v n b us) : n < 340282366920938463463374607431768211456 := Nat.lt_of_lt_of_le (rightP_iff.1 h.right).1 (pow_w v)
theorem blk_fill4 {w : World} {g : Nat} {t : TypeId} {u v z o x y k m : Value} (h : Blk w g t #[u, v, z, o]) : Blk ((((w.setCell ⟨g, 0, none⟩ x).setCell ⟨g, 1, none⟩ y).setCell ⟨g, 2, none⟩ k).setCell ⟨g, 3, none⟩ m) g t #[x, y, k, m] := (((h.put 0 x).put 1 y).put 2 k).put 3 m
theorem rwidth_k (v : Bool) (n : Nat) (w : World) :
    Calls Tryz.prog 67 #[.agg #[.bool v, .int .u64 (hi n), .int .u64 (lo n)]] w fun e w' => e = .returned (.int .i64 (widthN v : Nat)) ∧ Below w.heap.size w w' :=
  platbookref02_Width.calls v (hi n) (lo n) _ w (width_hl v n)
theorem rhost_k (v : Bool) (n : Nat) (b : Int) (i : Nat) (w : World) (h : rightP v n b = true) (hi' : i < 2 ^ fr v b) (h64 : i < 18446744073709551616) :
    Calls Tryz.prog 100 #[.agg #[.bool v, .int .u64 (hi n), .int .u64 (lo n), .int .i64 b], .int .i64 (widthN v : Nat), .agg #[.int .u64 0, .int .u64 (i : Int)]] w fun e w' =>
      e = .returned (.tuple #[.agg #[.bool v, .int .u64 (hi (n + i)), .int .u64 (lo (n + i)), .int .i64 (widthN v : Nat)], .int .i64 0]) ∧ Below w.heap.size w w' := by
  have hn : n < 340282366920938463463374607431768211456 := Nat.lt_of_lt_of_le (rightP_iff.1 h).1 (pow_w v)
  obtain ⟨h1, h2, h3, h4⟩ := rightP_iff.1 h
  have hc : cutsS v n b (widthN v) = true := cutsS_iff.2 ⟨h, h3, Int.le_refl _⟩
  have hfw : fr v (widthN v : Int) = 0 := by unfold fr; omega
  have hl : (lenN i : Int) ≤ (widthN v : Int) - b := by
    have := (lenN_iff i (fr v b)).2 hi'
    unfold fr at this; omega
  obtain ⟨e, _⟩ := block_at hc hl
  have hf := rblock_f 1000 (by omega) v n b (widthN v) i hn (by omega)
  rw [e, hfw, Nat.pow_zero, Nat.mul_one, hi_zero' h64, lo_is h64] at hf
  exact platbookref04_Block.calls 1000 v (hi n) (lo n) b (widthN v) 0 (i : Int) _ _ _ _ _ w hf
set_option maxRecDepth 20000 in
set_option maxHeartbeats 1000000 in
theorem rkept_c (base q cap : Nat) (p : Option Addr) (v : Bool) (n : Nat) (b : Int) (us : List Nat) (i : Nat) (w : World) (h : RPoolAt w base q p cap v n b us) (hi64 : i < 9223372036854775808) :
    Calls Tryz.prog 74 #[.pointer (some ⟨q, 0, none⟩), .int .i64 i] w fun e w' => e = .returned (.bool (kept v (fr v b) i)) ∧ Below w.heap.size w w' := by
  obtain ⟨h1, h2, h3, h4⟩ := rightP_iff.1 h.right
  have hN := cntP_ge h.big
  have hN2 := cntP_le (fr v b)
  have hF : IntKind.i64.wrap ((widthN v : Int) - b) = (fr v b : Int) := by have := widthN_le v; rw [IntKind.wrap_i64]; unfold fr; omega
  have hN1 : IntKind.i64.wrap ((cntP (fr v b) : Int) - 1) = (cntP (fr v b) : Int) - 1 := by rw [IntKind.wrap_i64]; omega
  clear h1 h2 h3 h4
  go_enter Tryz.func74, Tryz.ntmps74
  go_wp2_with fail
  go_cut [5] from 6 (fun s5 wc => s5 = .int .i64 (fr v b : Int) ∧ Below w.heap.size w wc)
  case first =>
    go_region_held3 (fun w' => (w'.cell? ⟨q, 0, none⟩ = some (.bool v) ∧ w'.cell? ⟨q, 1, none⟩ = some (.int .u64 (hi n)) ∧ w'.cell? ⟨q, 2, none⟩ = some (.int .u64 (lo n)) ∧ w'.cell? ⟨q, 3, none⟩ = some (.int .i64 b) ∧ w'.cell? ⟨q, 4, none⟩ = some (.int .i64 (cntP (fr v b) : Nat)) ∧ w'.cell? ⟨q, 5, none⟩ = some (.slice p us.length cap)) ∧ Below w.heap.size w w')
      (exact ⟨rcells (h.after bl_), bl_⟩)
      (first
      | (go_at_call 67; refine (rwidth_k v n _).mono ?_; rintro e w3 ⟨rfl, hb3⟩; obtain ⟨hc3, hf3⟩ := bcell hb3; have hz3 := hb3.size; (try simp only [size_alloc', size_setCell', size_drew'] at hz3)))
    all_goals
      go_wp2_with fail
      go_meet
      case rel => exact ⟨by first | rfl | rw [hF], bl_⟩
  case rest =>
    obtain ⟨rfl, hbel⟩ := hcut
    obtain ⟨c0, c1, c2, c3, c4, c5⟩ := rcells (h.after hbel)
    by_cases hi0 : i = 0
    · subst hi0
      rw [show ((0 : Nat) : Int) = 0 from rfl]
      go_wp2_with fail
      go_ret
      exact ⟨by rw [kept_zero]; rfl, hbel⟩
    · have d0 : ((i : Int) == 0) = false := by simp; omega
      cases v
      · by_cases h16 : fr false b ≤ 16
        · have d1 : decide ((fr false b : Int) ≤ 16) = true := decide_eq_true (by omega)
          by_cases hiN : i + 1 = cntP (fr false b)
          · have d2 : ((i : Int) == (cntP (fr false b) : Int) - 1) = true := by simp; omega
            have HK := Lib.hid (show kept false (fr false b) i = true from by unfold kept endK; rw [decide_eq_true h16, beq_iff_eq.2 hiN]; simp)
            clear h16 hi0 hiN
            go_wp2_with fail
            go_ret
            exact ⟨by rw [HK.out]; rfl, hbel⟩
          · have d2 : ((i : Int) == (cntP (fr false b) : Int) - 1) = false := by simp; omega
            have HK := Lib.hid (show kept false (fr false b) i = false from kept_false.2 ⟨hi0, fun _ => hiN⟩)
            clear h16 hi0 hiN
            go_wp2_with fail
            go_ret
            exact ⟨by rw [HK.out]; rfl, hbel⟩
        · have d1 : decide ((fr false b : Int) ≤ 16) = false := decide_eq_false (by omega)
          have HK := Lib.hid (show kept false (fr false b) i = false from kept_false.2 ⟨hi0, fun q => by unfold endK at q; rw [decide_eq_false h16] at q; cases q⟩)
          clear h16 hi0
          go_wp2_with fail
          go_ret
          exact ⟨by rw [HK.out]; rfl, hbel⟩
      · have HK := Lib.hid (show kept true (fr true b) i = false from kept_false.2 ⟨hi0, fun q => by cases q⟩)
        clear hi0
        go_wp2_with fail
        go_ret
        exact ⟨by rw [HK.out]; rfl, hbel⟩
set_option maxRecDepth 20000 in
set_option maxHeartbeats 1000000 in
theorem raddr_c (base q cap : Nat) (p : Option Addr) (v : Bool) (n : Nat) (b : Int) (us : List Nat) (i : Nat) (w : World) (h : RPoolAt w base q p cap v n b us) (hi' : i < cntP (fr v b)) :
    Calls Tryz.prog 77 #[.pointer (some ⟨q, 0, none⟩), .int .i64 i] w fun e w' => e = .returned (.agg #[.bool v, .int .u64 (hi (n + i)), .int .u64 (lo (n + i))]) ∧ Below w.heap.size w w' := by
  have hN2 := cntP_le (fr v b)
  have hpw := cntP_pow (fr v b)
  have H1 := Lib.hid (fun w => rhost_k v n b i w h.right (Nat.lt_of_lt_of_le hi' hpw) (by omega))
  have hw64 : IntKind.u64.wrap (i : Int) = (i : Int) := by show _ % 18446744073709551616 = _; omega
  clear hpw
  go_enter Tryz.func77, Tryz.ntmps77
  go_wp2_with fail
  have hR : Blk (w.alloc (Obj.cells #[Value.bool false, Value.int IntKind.u64 0, Value.int IntKind.u64 0] 26)) w.heap.size 26 (AddrC false 0) := Blk.new _ _ _
  have hbel : Below w.heap.size w (w.alloc (Obj.cells #[Value.bool false, Value.int IntKind.u64 0, Value.int IntKind.u64 0] 26)) := bl_
  generalize w.alloc (Obj.cells #[Value.bool false, Value.int IntKind.u64 0, Value.int IntKind.u64 0] 26) = wz at *
  have hlt := hR.lt
  go_cut [5] from 7 (fun s5 wc => ∃ g5, s5 = .pointer (some ⟨g5, 0, none⟩) ∧ Blk wc g5 28 #[.bool v, .int .u64 (hi (n + i)), .int .u64 (lo (n + i)), .int .i64 (widthN v : Nat)] ∧ Blk wc w.heap.size 26 (AddrC false 0) ∧ w.heap.size < g5 ∧ Below w.heap.size w wc)
  case first =>
    go_region_held3 (fun w' => (w'.cell? ⟨q, 0, none⟩ = some (.bool v) ∧ w'.cell? ⟨q, 1, none⟩ = some (.int .u64 (hi n)) ∧ w'.cell? ⟨q, 2, none⟩ = some (.int .u64 (lo n)) ∧ w'.cell? ⟨q, 3, none⟩ = some (.int .i64 b) ∧ w'.cell? ⟨q, 4, none⟩ = some (.int .i64 (cntP (fr v b) : Nat)) ∧ w'.cell? ⟨q, 5, none⟩ = some (.slice p us.length cap)) ∧ Blk w' w.heap.size 26 (AddrC false 0) ∧ Below w.heap.size w w')
      (exact ⟨rcells (h.after bl_), bk_, bl_⟩)
      (first
      | (go_at_call 67; refine (rwidth_k v n _).mono ?_; rintro e w3 ⟨rfl, hb3⟩; obtain ⟨hc3, hf3⟩ := bcell hb3; have hz3 := hb3.size; (try simp only [size_alloc', size_setCell', size_drew'] at hz3); (try have hy3 : wz.heap.size < w3.heap.size := by omega))
      | (go_at_call 100; refine (H1.out _).mono ?_; rintro e w4 ⟨rfl, hb4⟩; obtain ⟨hc4, hf4⟩ := bcell hb4; have hz4 := hb4.size; (try simp only [size_alloc', size_setCell', size_drew'] at hz4); (try have hy4 : wz.heap.size < w4.heap.size := by omega)))
    all_goals
      go_wp2_with fail
      go_meet
      case rel => exact ⟨_, rfl, (by first | with_reducible exact Blk.new _ _ _ | exact blk_fill4 (u := .bool false) (v := .int .u64 0) (z := .int .u64 0) (o := .int .i64 0) bk_), bk_, by omega, bl_⟩
  case rest =>
    obtain ⟨g5, rfl, hA, hR, h5, hbel⟩ := hcut
    have a0 := (hA.cell 0).trans rfl
    have a1 := (hA.cell 1).trans rfl
    have a2 := (hA.cell 2).trans rfl
    simp only [List.getElem?_toArray, List.getElem?_cons_zero, List.getElem?_cons_succ] at a0 a1 a2
    obtain ⟨r0, r1, r2, _⟩ := blk_adr hR
    have z0 := hR.frozen 0
    have z1 := hR.frozen 1
    have z2 := hR.frozen 2
    go_wp2_with fail
    refine bodyPost_ret (v := .agg #[.bool v, .int .u64 (hi (n + i)), .int .u64 (lo (n + i))]) (results_cell_row (t := 26) Tryz.results77 _ _ w.heap.size _ (0, 0) _ rfl (((hR.put 0 _).put 1 _).put 2 _) Tryz.underlying26 rfl (by kernel_rfl)) rfl ⟨rfl, bl_⟩
end Go.Proofs.YtpfilldnfpcpkaaGreatDoor

namespace Go.Proofs.YtpfilldnfpcpkaaGreatDoor
open Go.RowKit Go.Proofs.YtpfilldnfpcpkaaGreatDoorW.PrintWords Go.Proofs.YtpfilldnfpcpkaaGreatDoorW.PrintLast Go.Proofs.YtpfilldnfpcpkaaGreatDoorW.PrintMore Go.Proofs.YtpfilldnfpcpkaaGreatDoor.PPo
theorem rnew_none (v : Bool) (n : Nat) (b : Int) (w : World) (hn : n < 340282366920938463463374607431768211456) (h : countS v n b = 0) :
    Calls Tryz.prog 16 #[.agg #[.bool v, .int .u64 (hi n), .int .u64 (lo n), .int .i64 b]] w fun e w' => e = .returned (.tuple #[.pointer none, .int .i64 1]) ∧ Below w.heap.size w w' := by
  have H := Lib.hid (fun w => rcount_k v n b w hn)
  rw [h] at H
  go_enter Tryz.func16, Tryz.ntmps16
  go_wp2_with fail
  refine (H.out _).mono ?_
  rintro e w1 ⟨rfl, hb1⟩
  have hbel : Below w.heap.size w w1 := bl_trans bl_ hb1
  clear hb1
  rw [show ((0 : Nat) : Int) = 0 from rfl]
  go_wp2_with fail
  go_ret2
  exact ⟨rfl, hbel⟩
set_option maxRecDepth 20000 in
theorem rnew_at (v : Bool) (n : Nat) (b : Int) (w : World) (base : Nat) (hr : rightP v n b = true) (hF : 2 ≤ fr v b) :
    Calls Tryz.prog 16 #[.agg #[.bool v, .int .u64 (hi n), .int .u64 (lo n), .int .i64 b]] w fun e w' => ∃ q, e = .returned (.tuple #[.pointer (some ⟨q, 0, none⟩), .int .i64 0]) ∧
      RPoolAt w' base q none 0 v n b [] ∧ Below w.heap.size w w' ∧ w.heap.size ≤ q := by
  have hn : n < 340282366920938463463374607431768211456 := Nat.lt_of_lt_of_le (rightP_iff.1 hr).1 (pow_w v)
  have hN := cntP_ge hF
  have H := Lib.hid (fun w => rcount_k v n b w hn)
  rw [show countS v n b = cntP (fr v b) from by unfold countS; rw [if_pos ⟨hr, hF⟩]] at H
  have d0 : ((cntP (fr v b) : Int) == 0) = false := by simp; omega
  go_enter Tryz.func16, Tryz.ntmps16
  go_wp2_with fail
  have hA : Blk (w.alloc (Obj.cells #[Value.bool v, Value.int IntKind.u64 (hi n), Value.int IntKind.u64 (lo n), Value.int IntKind.i64 b] 28)) w.heap.size 28 (PfxC v n b) := Blk.new _ _ _
  have hbel : Below w.heap.size w (w.alloc (Obj.cells #[Value.bool v, Value.int IntKind.u64 (hi n), Value.int IntKind.u64 (lo n), Value.int IntKind.i64 b] 28)) := bl_
  generalize w.alloc (Obj.cells #[Value.bool v, Value.int IntKind.u64 (hi n), Value.int IntKind.u64 (lo n), Value.int IntKind.i64 b] 28) = wz at *
  refine (H.out _).mono ?_
  rintro e w1 ⟨rfl, hb1⟩
  replace hA := hA.after hb1
  replace hbel := bl_trans hbel hb1
  have hs := hbel.size
  clear hb1
  obtain ⟨a0, a1, a2, a3, _⟩ := blk_pfx hA
  go_wp2_with fail
  go_ret2
  exact ⟨w1.heap.size, rfl, ⟨Blk.new _ _ _, World.ownsRow_nil _ _ _ _, hr, hF⟩, bl_alloc hbel _, hs⟩
theorem small_63 {k N : Nat} (h : k < N) (h2 : N ≤ 65536) : k < 9223372036854775808 := by omega
end Go.Proofs.YtpfilldnfpcpkaaGreatDoor

namespace Go.Proofs.YtpfilldnfpcpkaaGreatDoor
open Go.RowKit

theorem ints_get {us : List Nat} {z : Nat} (h : z < us.length) : (intsV us)[z]? = some (.int .i64 ((us.getD z 0 : Nat) : Int)) := by
  simp [intsV, List.getD, h]
set_option maxRecDepth 20000 in
set_option maxHeartbeats 1000000 in
theorem rhas_c (base q cap : Nat) (p : Option Addr) (v : Bool) (n : Nat) (b : Int) (us : List Nat) (i : Nat) (w : World) (h : RPoolAt w base q p cap v n b us) (hL : us.length < 4611686018427387904) :
    Calls Tryz.prog 25 #[.pointer (some ⟨q, 0, none⟩), .int .i64 i] w fun e w' => e = .returned (.bool (us.contains i)) ∧ Below w.heap.size w w' := by
  have HY : Hid (∀ z, z < us.length → us.getD z 0 = i → us.contains i = true) := Lib.hid (by
    intro z hlt e
    rw [List.contains_iff_mem, ← e]
    simp [List.getD, hlt])
  have HN : Hid ((∀ t, t < us.length → us.getD t 0 ≠ i) → us.contains i = false) := Lib.hid (by
    intro hz
    rw [Bool.eq_false_iff]
    intro hh
    rw [List.contains_iff_mem] at hh
    obtain ⟨t, ht, e⟩ := List.getElem_of_mem hh
    refine hz t ht ?_
    simp [List.getD, ht, e])
  generalize us.contains i = R at *
  go_enter Tryz.func25, Tryz.ntmps25
  go_wp2_with fail
  go_loopw [5] (fun y wr => ∃ z : Nat, z ≤ us.length ∧ y = .int .i64 z ∧ (∀ t, t < z → us.getD t 0 ≠ i) ∧ Below w.heap.size w wr) (fun y _ => us.length - (intOf y).toNat)
  case atStart => exact ⟨0, Nat.zero_le _, rfl, fun t h => absurd h (Nat.not_lt_zero _), bl_⟩
  case round =>
    obtain ⟨z, z1, rfl, hz, hb⟩ := hrel
    have HZ := Lib.hid hz
    clear hz
    obtain ⟨c0, c1, c2, c3, c4, c5⟩ := rcells (h.after hb)
    by_cases hlt : z < us.length
    · have d1 : decide ((z : Int) < (us.length : Int)) = true := decide_eq_true (by omega)
      obtain ⟨g, cap', hv, -, hg, hc', hcell, -⟩ := own_form (h.after hb).row (by omega)
      have hcz := hcell z _ (ints_get hlt)
      clear hcell
      cases hv
      obtain ⟨X, hX⟩ : ∃ X, X = us.getD z 0 := ⟨_, rfl⟩
      rw [← hX] at hcz
      have hX' := Lib.hid hX
      clear hX
      cases hd : decide ((X : Int) = (i : Int))
      · have hd' : ((X : Int) == (i : Int)) = false := by rw [beq_eq_false_iff_ne]; exact of_decide_eq_false hd
        go_wp2_with fail
        go_roundw
        case rel => exact ⟨z + 1, by omega, by go_num, fun t ht => by
                      rcases Nat.lt_or_ge t z with q1 | q1
                      · exact HZ.out t q1
                      · obtain rfl : t = z := by omega
                        rw [← hX'.out]
                        intro e
                        rw [e] at hd
                        simp at hd, bl_⟩
        case measure => simp [intOf]; omega
      · obtain rfl : R = true := HY.out z hlt (by rw [← hX'.out]; have := of_decide_eq_true hd; omega)
        have hd' : ((X : Int) == (i : Int)) = true := by rw [beq_iff_eq]; exact of_decide_eq_true hd
        go_wp2_with fail
        go_ret
        exact ⟨rfl, bl_⟩
    · have d1 : decide ((z : Int) < (us.length : Int)) = false := decide_eq_false (by omega)
      obtain rfl : R = false := HN.out fun t ht => HZ.out t (by omega)
      go_wp2_with fail
      go_ret
      exact ⟨rfl, bl_⟩
end Go.Proofs.YtpfilldnfpcpkaaGreatDoor

namespace Go.Proofs.YtpfilldnfpcpkaaGreatDoor
open Go.RowKit

/-- what a change of a reference's pool leaves: all but its own block and its own row -/
structure RFr (base q : Nat) (w w' : World) : Prop where
  os : w'.os = w.os
  tape : w'.tape = w.tape
  output : w'.output = w.output
  size : w.heap.size ≤ w'.heap.size
  low : ∀ k, k < w.heap.size → k < base → k ≠ q → w'.heap[k]? = w.heap[k]?
  kind : ∀ g t cs, Blk w g t cs → t ≠ 3 → g ≠ q → Blk w' g t cs
theorem RFr.below {base q : Nat} {w w' : World} (h : Below w.heap.size w w') : RFr base q w w' :=
  ⟨h.os, h.tape, h.output, h.size, fun k hk _ _ => h.block k hk, fun _ _ _ hB _ _ => hB.after h⟩
theorem RFr.trans {base q : Nat} {a b c : World} (h : RFr base q a b) (k : RFr base q b c) : RFr base q a c :=
  ⟨k.os.trans h.os, k.tape.trans h.tape, k.output.trans h.output, Nat.le_trans h.size k.size, fun i hi h1 h2 => (k.low i (Nat.lt_of_lt_of_le hi h.size) h1 h2).trans (h.low i hi h1 h2), fun g t cs hB h1 h2 => k.kind g t cs (h.kind g t cs hB h1 h2) h1 h2⟩
theorem RFr.set {base q i : Nat} {w : World} (u : Value) : RFr base q w (w.setCell ⟨q, i, none⟩ u) :=
  ⟨rfl, rfl, rfl, by simp only [World.setCell]; simp, fun k _ _ hk => Below.heap_setCell _ _ _ _ hk, fun _ _ _ hB _ hg => hB.far hg _⟩
theorem RFr.own {base q n : Nat} {w w' : World} {v : Value} {xs : List Value} (h : w.ownsRow base 3 1 v n xs) (hg : w.grownBy w' v.ownBlock) : RFr base q w w' :=
  ⟨hg.os, hg.tape, hg.output, hg.size, fun k hk h1 _ => hg.block k hk (fun e => by have := (h.lt k e.symm).1; omega), fun g t cs hB ht _ => hB.same (hg.block g hB.lt (hB.ne_own h ht))⟩
theorem RFr.bl {base q : Nat} {a w w' : World} (h : Below a.heap.size a w) (k : RFr base q w w') (h1 : a.heap.size ≤ base) (h2 : a.heap.size ≤ q) : Below a.heap.size a w' :=
  ⟨k.os.trans h.os, k.tape.trans h.tape, k.output.trans h.output, Nat.le_trans h.size k.size, fun i hi => (k.low i (Nat.lt_of_lt_of_le hi h.size) (by omega) (by omega)).trans (h.block i hi)⟩
theorem intsV_snoc (l : List Nat) (x : Nat) : intsV (l ++ [x]) = intsV l ++ [.int .i64 (x : Int)] := by simp [intsV]
theorem ri64 : (Tryz.prog.info? 3).map (fun i => (i.zero, i.size, i.bytes)) = some (some (.int .i64 0), 1, 8) := by kernel_rfl
theorem rown_far {w : World} {base n size : Nat} {e : TypeId} {v : Value} {xs : List Value} (h : w.ownsRow base e size v n xs) {p : Addr} (hp : some p.block ≠ v.ownBlock) (u : Value) : (w.setCell p u).ownsRow base e size v n xs := by
  obtain ⟨h1, h2⟩ := h
  refine ⟨h1, h2.imp id ?_⟩
  rintro ⟨g, cap, cur, rfl, hb, hh, h3⟩
  refine ⟨g, cap, cur, rfl, hb, ?_, h3⟩
  rw [Below.heap_setCell w p u g (fun e => hp (by simp [Value.ownBlock, e]))]
  exact hh
theorem rown_slice {w : World} {base n size : Nat} {e : TypeId} {v : Value} {xs : List Value} (h : w.ownsRow base e size v n xs) : ∃ a c, v = .slice a n c := by
  rcases h.2 with ⟨rfl, h0⟩ | ⟨g, cap, cur, hv, _⟩
  · subst h0; exact ⟨_, _, rfl⟩
  · exact ⟨_, _, hv⟩
theorem RFr.new {base q : Nat} {w w' : World} (h : RFr base q w w') {p : Addr} (hp : w.heap.size ≤ p.block) (u : Value) : RFr base q w (w'.setCell p u) :=
  ⟨h.os, h.tape, h.output, by simp only [World.setCell]; simpa using h.size, fun k hk h1 h2 => (Below.heap_setCell _ _ _ _ (fun e => by rw [e] at hk; omega)).trans (h.low k hk h1 h2), fun g t cs hB ht hg => (h.kind g t cs hB ht hg).far (fun e => by have := hB.lt; omega) _⟩
theorem RPoolAt.far {w : World} {base q cap : Nat} {p : Option Addr} {v : Bool} {n : Nat} {b : Int} {us : List Nat} (h : RPoolAt w base q p cap v n b us) {a : Addr} (h1 : q ≠ a.block) (h2 : some a.block ≠ (Value.slice p us.length cap).ownBlock) (u : Value) : RPoolAt (w.setCell a u) base q p cap v n b us :=
  ⟨h.head.far h1 u, rown_far h.row h2 u, h.right, h.big⟩
theorem RPoolAt.snoc {w : World} {base q cap' : Nat} {p' : Option Addr} {v : Bool} {n : Nat} {b : Int} {us : List Nat} {z : Nat} {o : Value} (hB : Blk w q 54 #[.bool v, .int .u64 (hi n), .int .u64 (lo n), .int .i64 b, .int .i64 (cntP (fr v b) : Nat), o])
    (hown : w.ownsRow base 3 1 (.slice p' (us.length + 1) cap') (us.length + 1) (intsV us ++ [.int .i64 (z : Int)])) (hr : rightP v n b = true) (hF : 2 ≤ fr v b) : RPoolAt (w.setCell ⟨q, 5, none⟩ (.slice p' (us.length + 1) cap')) base q p' cap' v n b (us ++ [z]) := by
  have e : (us ++ [z]).length = us.length + 1 := by simp
  refine ⟨?_, ?_, hr, hF⟩
  · rw [e]; exact hB.put 5 _
  · rw [e, intsV_snoc]; exact rown_far hown (hB.ne_own hown (by decide)) _
/-- what is used by the list's account -/
def keptOr (v : Bool) (F : Nat) (us : List Nat) : Nat → Bool := fun i => kept v F i || us.contains i
/-- what Next answers -/
def RNexted (base q : Nat) (v : Bool) (n : Nat) (b : Int) (us : List Nat) (a : Nat) (w0 : World) (x : Ending) (w : World) : Prop :=
  (∃ (j : Nat) (p : Option Addr) (cap : Nat), IsNext (keptOr v (fr v b) us) (cntP (fr v b)) a j ∧ x = .returned (.tuple #[.agg #[.bool v, .int .u64 (hi (n + j)), .int .u64 (lo (n + j))], .int .i64 0]) ∧ RPoolAt w base q p cap v n b (us ++ [j]) ∧ RFr base q w0 w) ∨
  ((∀ y, y < cntP (fr v b) → keptOr v (fr v b) us y = true) ∧ x = .returned (.tuple #[.agg #[.bool false, .int .u64 0, .int .u64 0], .int .i64 9]) ∧ Below w0.heap.size w0 w)
theorem step_next {a N m : Nat} (ha : a < N) (hlt : m < N) : (stepAt a N m + 1 = N → (if m + 1 < N then stepAt a N (m + 1) else a) = 0) ∧ (stepAt a N m + 1 ≠ N → (if m + 1 < N then stepAt a N (m + 1) else a) = stepAt a N m + 1) := by
  unfold stepAt
  constructor
  · intro e; repeat' split
    all_goals (repeat' (split at e)) <;> omega
  · intro e; repeat' split
    all_goals (repeat' (split at e)) <;> omega
set_option maxRecDepth 20000 in
set_option maxHeartbeats 3200000 in
theorem rpnext_c (base q cap : Nat) (p : Option Addr) (v : Bool) (n : Nat) (b : Int) (us : List Nat) (o : Int) (w : World) (h : RPoolAt w base q p cap v n b us) (hL : us.length ≤ 65536) (hb : base ≤ w.heap.size) :
    Calls Tryz.prog 51 #[.pointer (some ⟨q, 0, none⟩), .int .i64 o] w (RNexted base q v n b us (startAt o (cntP (fr v b))) w) := by
  have hN := cntP_ge h.big
  have hN2 := cntP_le (fr v b)
  have hql := h.head.lt
  have hne0 : (((cntP (fr v b) : Nat) : Int) == 0) = false := by simp; omega
  obtain ⟨N, hNE⟩ : ∃ N, N = cntP (fr v b) := ⟨_, rfl⟩
  have HNE := Lib.hid hNE
  rw [← hNE] at hN hN2 hne0
  unfold RNexted
  rw [← hNE]
  have ha : startAt o N < N := Nat.mod_lt _ (by omega)
  obtain ⟨x, hx, hxm⟩ : ∃ x : Int, (if o < 0 then 0 else o) = x ∧ x % N = (startAt o N : Nat) := by
    refine ⟨_, rfl, ?_⟩
    unfold startAt
    by_cases e : o < 0
    · rw [if_pos e, show o.toNat = 0 from by omega]; simp
    · rw [if_neg e]; obtain ⟨I, rfl⟩ := Int.eq_ofNat_of_zero_le (show 0 ≤ o by omega); simp
  have HK := Lib.hid (fun i w hh hi' => rkept_c base q cap p v n b us i w hh hi')
  have HH := Lib.hid (fun i w hh => rhas_c base q cap p v n b us i w hh (by omega))
  have HA := Lib.hid (fun us p cap i w hh hi' => raddr_c base q cap p v n b us i w hh hi')
  rw [← hNE] at HA
  generalize startAt o N = a at *
  obtain ⟨i0, hi0, hz0, hz1, hz2⟩ := info_parts ri64
  obtain ⟨c0, c1, c2, c3, c4, c5⟩ := rcells h
  rw [← HNE.out] at c4
  clear hNE
  by_cases hoo : o < 0
  all_goals
    first
    | (rw [if_pos hoo] at hx; subst hx; have HA0 : Hid (a = 0) := Lib.hid (by simpa using hxm.symm); clear hxm)
    | (rw [if_neg hoo] at hx; subst hx; have HA0 : Hid True := Lib.hid trivial; obtain ⟨I, rfl⟩ := Int.eq_ofNat_of_zero_le (show 0 ≤ o by omega))
    go_enter Tryz.func51, Tryz.ntmps51
    go_wp2_with fail
    have hR : Blk (w.alloc (Obj.cells #[Value.bool false, Value.int IntKind.u64 0, Value.int IntKind.u64 0] 26)) w.heap.size 26 (AddrC false 0) := Blk.new _ _ _
    have hbel : Below w.heap.size w (w.alloc (Obj.cells #[Value.bool false, Value.int IntKind.u64 0, Value.int IntKind.u64 0] 26)) := bl_
    generalize w.alloc (Obj.cells #[Value.bool false, Value.int IntKind.u64 0, Value.int IntKind.u64 0] 26) = wz at *
    clear c0 c1 c2 c3 c4 c5
    go_loopw [6, 7] (fun p k wr => ∃ m : Nat, m ≤ N ∧ k = .int .i64 m ∧ p = .int .i64 (if m < N then stepAt a N m else a : Nat) ∧ (∀ y, passed a N m y → keptOr v (fr v b) us y = true) ∧ Blk wr w.heap.size 26 (AddrC false 0) ∧ Below w.heap.size w wr) (fun _ k _ => N - (intOf k).toNat)
    case atStart => exact ⟨0, by omega, rfl, by (first | (rw [if_pos (by omega)]; unfold stepAt; rw [if_pos (by omega)]; rfl) | (rw [if_pos (by omega)]; unfold stepAt; rw [if_pos (by omega), HA0.out]; rfl) | (rw [if_pos (by omega)]; unfold stepAt; rw [if_pos (by omega), ← HNE.out, hxm]; rfl)), fun y hy => by unfold passed at hy; omega, hR, hbel⟩
    case round =>
      clear hR hbel
      obtain ⟨m, hm, rfl, rfl, hpass, hR, hb⟩ := hrel
      have HP := Lib.hid hpass
      clear hpass
      obtain ⟨c0, c1, c2, c3, c4, c5⟩ := rcells (h.after hb)
      rw [← HNE.out] at c4
      by_cases hlt : m < N
      · rw [if_pos hlt]
        have hst := stepAt_lt ha hlt
        have HNX := Lib.hid (step_next ha hlt)
        have HIN := Lib.hid (fun hf => isNext_of ha hlt HP.out hf)
        have HS := Lib.hid (fun hf => passed_step HP.out hf)
        have d1 : decide ((m : Int) < (N : Int)) = true := decide_eq_true (by omega)
        generalize stepAt a N m = z at *
        go_wp2_with fail
        refine (HK.out z _ (h.after bl_) (small_63 hst hN2)).mono ?_
        rintro e w3 ⟨rfl, hb3⟩
        replace hR : Blk w3 w.heap.size 26 (AddrC false 0) := bk_
        replace hb : Below w.heap.size w w3 := bl_trans bl_ hb3
        clear hb3 c0 c1 c2 c3 c4 c5
        cases hk : kept v (fr v b) z
        · go_wp2_with fail
          refine (HH.out z _ (h.after bl_)).mono ?_
          rintro e w4 ⟨rfl, hb4⟩
          replace hR : Blk w4 w.heap.size 26 (AddrC false 0) := bk_
          replace hb : Below w.heap.size w w4 := bl_trans bl_ hb4
          clear hb4
          cases hu : us.contains z
          · have hin := Lib.hid (HIN.out (show keptOr v (fr v b) us z = false from by unfold keptOr; rw [hk, hu]; rfl))
            have h4 := h.after hb
            obtain ⟨c0, c1, c2, c3, c4, c5⟩ := rcells h4
            have hws := hb.size
            go_wp2_with (at_builtin; refine wpList_append_own _ rfl _ _ 52 rfl base 3 i0 (.int .i64 0) 1 8 Tryz.underlying52 hi0 hz0 hz1 hz2 rfl (by decide) _ _ _ rfl (h4.row.alloc _) ⟨w4.heap.size, 0, none⟩ 1 1 [.int .i64 (z : Int)] rfl rfl ?q1 ?q2 ?q3 ?q4 ?q5 ?_)
            case q1 => exact cell_one _ _ _
            case q2 => exact one_cell_k _ _
            case q3 => simp only [maxLen]; omega
            case q4 => omega
            case q5 => simp; omega
            intro v' w5 hown' hgrow _
            have hB5 := (h4.head.alloc (.cells #[.int .i64 (z : Int)] 3)).grown hgrow (h4.head.ne_own h4.row (by decide))
            have hR5 := (hR.alloc (.cells #[.int .i64 (z : Int)] 3)).grown hgrow (hR.ne_own h4.row (by decide))
            have hF5 : RFr base q w w5 := ((RFr.below hb).trans (RFr.below (bl_alloc (Below.refl _ _) (.cells #[.int .i64 (z : Int)] 3)))).trans (RFr.own (h4.row.alloc _) hgrow)
            obtain ⟨ga, gc, rfl⟩ := rown_slice hown'
            have c5 : w5.cell? ⟨q, 5, none⟩ = some (.slice p us.length cap) := (hB5.cell 5).trans rfl
            have z5 := hB5.frozen 5
            clear c0 c1 c2 c3 c4 hgrow hi0 hz0 hz1 hz2
            go_wp2_with fail
            have h6 := RPoolAt.snoc hB5 hown' h.right h.big
            have hqw : w.heap.size ≠ q := by omega
            have hR6 : Blk (w5.setCell ⟨q, 5, none⟩ (.slice ga (us.length + 1) gc)) w.heap.size 26 (AddrC false 0) := hR5.far hqw _
            have hF6 : RFr base q w (w5.setCell ⟨q, 5, none⟩ (.slice ga (us.length + 1) gc)) := hF5.trans (RFr.set _)
            clear hF5 hR5 hB5 hown' c5 z5 h4 hR hb
            generalize w5.setCell ⟨q, 5, none⟩ (.slice ga (us.length + 1) gc) = w6 at *
            refine (HA.out _ _ _ z _ h6 hst).mono ?_
            rintro e w7 ⟨rfl, hb7⟩
            have hR7 := hR6.after hb7
            have h7 := h6.after hb7
            have hF7 := hF6.trans (RFr.below hb7)
            obtain ⟨r0, r1, r2, _⟩ := blk_adr hR7
            have z0 := hR7.frozen 0
            have z1 := hR7.frozen 1
            have z2 := hR7.frozen 2
            clear hb7 hF6 h6 hR6
            go_wp2_with fail
            have hne := hR7.ne_own h7.row (by decide)
            have hRf := blk_fill3 (x := .bool v) (y := .int .u64 (hi (n + z))) (k := .int .u64 (lo (n + z))) hR7
            have hPf := ((h7.far (a := ⟨w.heap.size, 0, none⟩) hqw.symm hne (.bool v)).far (a := ⟨w.heap.size, 1, none⟩) hqw.symm hne (.int .u64 (hi (n + z)))).far (a := ⟨w.heap.size, 2, none⟩) hqw.symm hne (.int .u64 (lo (n + z)))
            have hGf := ((hF7.new (p := ⟨w.heap.size, 0, none⟩) (Nat.le_refl _) (.bool v)).new (p := ⟨w.heap.size, 1, none⟩) (Nat.le_refl _) (.int .u64 (hi (n + z)))).new (p := ⟨w.heap.size, 2, none⟩) (Nat.le_refl _) (.int .u64 (lo (n + z)))
            generalize ((w7.setCell ⟨w.heap.size, 0, none⟩ (.bool v)).setCell ⟨w.heap.size, 1, none⟩ (.int .u64 (hi (n + z)))).setCell ⟨w.heap.size, 2, none⟩ (.int .u64 (lo (n + z))) = wf at *
            obtain ⟨s0, s1, s2, _⟩ := blk_adr (show Blk wf w.heap.size 26 (AddrC v (n + z)) from hRf)
            refine bodyPost_ret (v := .tuple #[.agg #[.bool v, .int .u64 (hi (n + z)), .int .u64 (lo (n + z))], .int .i64 0]) (by simp [results, Tryz.results51, go_sem, s0, s1, s2]) rfl (Or.inl ⟨z, ga, gc, hin.out, rfl, hPf, hGf⟩)
          · have HS2 := Lib.hid (HS.out (show keptOr v (fr v b) us z = true from by unfold keptOr; rw [hk, hu]; rfl))
            obtain ⟨c0, c1, c2, c3, c4, c5⟩ := rcells (h.after hb)
            rw [← HNE.out] at c4
            clear hk hu
            by_cases hend : z + 1 = N
            · have E2 := Lib.hid (HNX.out.1 hend)
              have d2 : ((z : Int) + 1 == (N : Int)) = true := by simp; omega
              have HE := Lib.hid hend
              clear hend
              go_wp2_with fail
              go_roundw
              case rel => exact ⟨m + 1, by omega, by go_num, by rw [E2.out]; rfl, HS2.out, bk_, bl_⟩
              case measure => simp [intOf]; omega
            · have E2 := Lib.hid (HNX.out.2 hend)
              have d2 : ((z : Int) + 1 == (N : Int)) = false := by simp; omega
              clear hend
              go_wp2_with fail
              go_roundw
              case rel => exact ⟨m + 1, by omega, by go_num, by rw [E2.out]; go_num, HS2.out, bk_, bl_⟩
              case measure => simp [intOf]; omega
        · have HS2 := Lib.hid (HS.out (show keptOr v (fr v b) us z = true from by unfold keptOr; rw [hk]; rfl))
          obtain ⟨c0, c1, c2, c3, c4, c5⟩ := rcells (h.after hb)
          rw [← HNE.out] at c4
          clear hk
          by_cases hend : z + 1 = N
          · have E2 := Lib.hid (HNX.out.1 hend)
            have d2 : ((z : Int) + 1 == (N : Int)) = true := by simp; omega
            have HE := Lib.hid hend
            clear hend
            go_wp2_with fail
            go_roundw
            case rel => exact ⟨m + 1, by omega, by go_num, by rw [E2.out]; rfl, HS2.out, bk_, bl_⟩
            case measure => simp [intOf]; omega
          · have E2 := Lib.hid (HNX.out.2 hend)
            have d2 : ((z : Int) + 1 == (N : Int)) = false := by simp; omega
            clear hend
            go_wp2_with fail
            go_roundw
            case rel => exact ⟨m + 1, by omega, by go_num, by rw [E2.out]; go_num, HS2.out, bk_, bl_⟩
            case measure => simp [intOf]; omega
      · obtain rfl : m = N := by omega
        have hall := Lib.hid (fun y hy => HP.out y (passed_all hy))
        obtain ⟨r0, r1, r2, _⟩ := blk_adr hR
        have z0 := hR.frozen 0
        have z1 := hR.frozen 1
        have z2 := hR.frozen 2
        go_wp2_with fail
        refine bodyPost_ret (v := .tuple #[.agg #[.bool false, .int .u64 0, .int .u64 0], .int .i64 9]) (by simp [results, Tryz.results51, go_sem, r0, r1, r2, hi_zero, lo_zero]) rfl (Or.inr ⟨fun y hy => hall.out y (by have := HNE.out; omega), rfl, bl_⟩)
end Go.Proofs.YtpfilldnfpcpkaaGreatDoor

namespace Go.Proofs.YtpfilldnfpcpkaaGreatDoor
open Go.RowKit

theorem IsNext.one {f : Nat → Bool} {n a j k : Nat} (h : IsNext f n a j) (h' : IsNext f n a k) : j = k := by
  obtain ⟨q1, q2, q3⟩ := h
  obtain ⟨p1, p2, p3⟩ := h'
  rcases q3 with ⟨q3, q4⟩ | ⟨q3, q4, q5⟩ <;> rcases p3 with ⟨p3, p4⟩ | ⟨p3, p4, p5⟩
  · rcases Nat.lt_trichotomy j k with e | e | e
    · rw [p4 j q3 e] at q2; cases q2
    · exact e
    · rw [q4 k p3 e] at p2; cases p2
  · rw [p4 j q3 q1] at q2; cases q2
  · rw [q4 k p3 p1] at p2; cases p2
  · rcases Nat.lt_trichotomy j k with e | e | e
    · rw [p5 j e] at q2; cases q2
    · exact e
    · rw [q5 k e] at p2; cases p2
theorem glob_tab {w : World} (h : Glob w) : Tab w := h.bru
/-- the example's bits: none used; two; two and one -/
def exF : Nat → Bool := freshF false 2
theorem ex_one {j : Nat} (h : IsNext exF 4 2 j) : j = 2 := h.one ⟨by decide, by decide, .inl ⟨Nat.le_refl _, fun y h1 h2 => by omega⟩⟩
theorem ex_two {j : Nat} (h : IsNext (upd exF 2 true) 4 2 j) : j = 1 := h.one ⟨by decide, by decide, .inr ⟨by decide, fun y h1 h2 => by
    have : y = 2 ∨ y = 3 := by omega
    rcases this with rfl | rfl <;> decide, fun y h2 => by
    obtain rfl : y = 0 := by omega
    decide⟩⟩
theorem ex_three {j : Nat} (h : IsNext (upd (upd exF 2 true) 1 true) 4 2 j) : False := by
  obtain ⟨h1, h2, _⟩ := h
  have : j = 0 ∨ j = 1 ∨ j = 2 ∨ j = 3 := by omega
  rcases this with rfl | rfl | rfl | rfl <;> revert h2 <;> decide
theorem ex_new (w : World) :
    Calls Tryz.prog 15 #[.agg #[.bool false, .int .u64 0, .int .u64 167772160, .int .i64 30]] w fun e w' => ∃ q g c, e = .returned (.tuple #[.pointer (some ⟨q, 0, none⟩), .int .i64 0]) ∧
      PoolAt w' q g c false 167772160 30 exF ∧ Below w.heap.size w w' ∧ w.heap.size ≤ q ∧ w.heap.size ≤ g ∧ w.heap.size ≤ c :=
  pnew_c false 167772160 30 w (by decide) (by decide)
theorem ex_next (q g c : Nat) (f : Nat → Bool) (w : World) (h : PoolAt w q g c false 167772160 30 f) (hT : Tab w) :
    Calls Tryz.prog 31 #[.pointer (some ⟨q, 0, none⟩), .int .i64 2] w fun x w' =>
      (∃ j, IsNext f 4 2 j ∧ x = .returned (.tuple #[.agg #[.bool false, .int .u64 (hi (167772160 + j)), .int .u64 (lo (167772160 + j))], .int .i64 0]) ∧ PoolAt w' q g c false 167772160 30 (upd f j true) ∧ w.grownBy w' (some c)) ∨
      ((∀ y, y < 4 → f y = true) ∧ x = .returned (.tuple #[.agg #[.bool false, .int .u64 0, .int .u64 0], .int .i64 9]) ∧ Below w.heap.size w w') :=
  pnext_c q g c false 167772160 30 f 2 w h hT
set_option maxRecDepth 20000 in
set_option maxHeartbeats 1000000 in
theorem awake06_c (w : World) (hG : Glob w) :
    Calls Tryz.prog 13 #[] w fun e w' => e = .returned (.bool true) ∧ Below w.heap.size w w' := by
  have HP := Lib.hid (prefix_Parse.calls ⟨#[49, 48, 46, 48, 46, 48, 46, 48, 47, 51, 48]⟩ false 0 167772160 30 0 w hG (by decide +kernel))
  have HA := Lib.hid (fun w hG => addr_Print.calls false 0 167772162 ⟨#[49, 48, 46, 48, 46, 48, 46, 50]⟩ w hG (by decide +kernel))
  have HB := Lib.hid (fun w hG => addr_Print.calls false 0 167772161 ⟨#[49, 48, 46, 48, 46, 48, 46, 49]⟩ w hG (by decide +kernel))
  go_enter Tryz.func13, Tryz.ntmps13
  go_wp2_with fail
  with_reducible refine HP.out.mono ?_
  rintro e w1 ⟨rfl, hbel⟩
  clear HP
  have hGw := Lib.hid hG
  go_wp2_with fail
  refine (ex_new _).mono ?_
  rintro e w2 ⟨q, g, c, rfl, hp, hb2, -, -, hc⟩
  have hcw : w.heap.size ≤ c := Nat.le_trans (Nat.le_trans hbel.size (by simp)) hc
  replace hbel := bl_trans (bl_alloc hbel _) hb2
  clear hb2 hc
  go_wp2_with fail
  refine (ex_next q g c _ w2 hp (glob_tab (hGw.out.after hbel))).mono ?_
  rintro e w3 (⟨j, hj, rfl, hp3, hg3⟩ | ⟨hall, -, -⟩)
  rotate_left
  · exact absurd (hall 2 (by decide)) (by decide)
  obtain rfl := ex_one hj
  rw [show hi (167772160 + 2) = 0 from by decide, show lo (167772160 + 2) = 167772162 from by decide]
  replace hbel := bl_grown hbel hg3 hcw
  clear hj hg3 hp
  go_wp2_with fail
  have hA := Blk.new w3 26 #[.bool false, .int .u64 0, .int .u64 167772162]
  replace hp3 := hp3.alloc (.cells #[.bool false, .int .u64 0, .int .u64 167772162] 26)
  replace hbel := bl_alloc hbel (.cells #[.bool false, .int .u64 0, .int .u64 167772162] 26)
  generalize w3.alloc (.cells #[.bool false, .int .u64 0, .int .u64 167772162] 26) = w4 at *
  generalize w3.heap.size = ga at *
  refine (ex_next q g c _ w4 hp3 (glob_tab (hGw.out.after hbel))).mono ?_
  rintro e w5 (⟨j, hj, rfl, hp5, hg5⟩ | ⟨hall, -, -⟩)
  rotate_left
  · exact absurd (hall 1 (by decide)) (by decide)
  obtain rfl := ex_two hj
  rw [show hi (167772160 + 1) = 0 from by decide, show lo (167772160 + 1) = 167772161 from by decide]
  replace hbel := bl_grown hbel hg5 hcw
  replace hA := hA.grown hg5 (some_ne (hA.ne hp3.map.row (by decide)))
  clear hj hg5 hp3
  go_wp2_with fail
  have hB := Blk.new w5 26 #[.bool false, .int .u64 0, .int .u64 167772161]
  replace hA := hA.alloc (.cells #[.bool false, .int .u64 0, .int .u64 167772161] 26)
  replace hp5 := hp5.alloc (.cells #[.bool false, .int .u64 0, .int .u64 167772161] 26)
  replace hbel := bl_alloc hbel (.cells #[.bool false, .int .u64 0, .int .u64 167772161] 26)
  generalize w5.alloc (.cells #[.bool false, .int .u64 0, .int .u64 167772161] 26) = w6 at *
  generalize w5.heap.size = gb at *
  refine (ex_next q g c _ w6 hp5 (glob_tab (hGw.out.after hbel))).mono ?_
  rintro e w7 (⟨j, hj, -, -, -⟩ | ⟨-, rfl, hb7⟩)
  · exact (ex_three hj).elim
  replace hbel := bl_trans hbel hb7
  replace hA := hA.after hb7
  replace hB := hB.after hb7
  have hAl := hA.lt
  have hBl := hB.lt
  obtain ⟨a0, a1, a2, _⟩ := blk_adr (show Blk w7 ga 26 (AddrC false 167772162) from hA)
  rw [show hi 167772162 = 0 from by decide] at a1
  rw [show lo 167772162 = 167772162 from by decide] at a2
  clear hb7 hp5
  go_wp2_with fail
  refine (HA.out _ (hGw.out.after (bl_alloc hbel _))).mono ?_
  rintro e w8 ⟨rfl, hb8⟩
  replace hbel := bl_trans (bl_alloc hbel _) hb8
  replace hB := (hB.alloc _).after hb8
  clear hb8 a0 a1 a2 hA hAl hBl
  obtain ⟨a0, a1, a2, _⟩ := blk_adr (show Blk w8 gb 26 (AddrC false 167772161) from hB)
  rw [show hi 167772161 = 0 from by decide] at a1
  rw [show lo 167772161 = 167772161 from by decide] at a2
  go_wp2_with fail
  refine (HB.out _ (hGw.out.after hbel)).mono ?_
  rintro e w9 ⟨rfl, hb9⟩
  replace hbel := bl_trans hbel hb9
  clear hb9 a0 a1 a2 hB
  go_wp2_with fail
  go_ret
  exact ⟨rfl, hbel⟩
end Go.Proofs.YtpfilldnfpcpkaaGreatDoor

namespace Go.Proofs.YtpfilldnfpcpkaaGreatDoor
open Go.RowKit Go.Proofs.YtpfilldnfpcpkaaGreatDoorW.PrintWords Go.Proofs.YtpfilldnfpcpkaaGreatDoor.PPo

theorem numB_first {v : Bool} {n : Nat} {b : Int} (hr : rightP v n b = true) : numB v n b v n = false := by
  unfold numB
  rw [(rightP_iff.1 hr).2.2.2, kept_zero]; simp
theorem mod_host {v : Bool} {n : Nat} {b : Int} (hr : rightP v n b = true) {i : Nat} (hi : i < 2 ^ fr v b) : (n + i) % 2 ^ fr v b = i := by
  obtain ⟨q, hq⟩ := Nat.dvd_of_mod_eq_zero (rightP_iff.1 hr).2.2.2
  rw [hq, Nat.mul_add_mod, Nat.mod_eq_of_lt hi]
theorem numB_last {n : Nat} {b : Int} (hr : rightP false n b = true) : numB false n b false (n + (2 ^ fr false b - 1)) = false := by
  have hp := Nat.two_pow_pos (fr false b)
  unfold numB
  rw [mod_host hr (by omega)]
  by_cases h16 : 16 < fr false b
  · have e : cntP (fr false b) = 65536 := by unfold cntP; rw [if_pos h16]
    have hbig : 2 ^ 17 ≤ 2 ^ fr false b := Nat.pow_le_pow_right (by decide) (by omega)
    rw [e, decide_eq_false (by omega)]; simp
  · have e : cntP (fr false b) = 2 ^ fr false b := by unfold cntP; rw [if_neg h16]
    have hk : kept false (fr false b) (2 ^ fr false b - 1) = true := by
      unfold kept endK
      rw [decide_eq_true (show fr false b ≤ 16 by omega), e, show 2 ^ fr false b - 1 + 1 = 2 ^ fr false b from by omega]; simp
    rw [hk]; simp
theorem has_host {v : Bool} {n : Nat} {b : Int} (hr : rightP v n b = true) {i : Nat} (hi : i < cntP (fr v b)) : hasS v n b v (n + i) = true :=
  (has_iff hr).2 ⟨by omega, by have := cntP_pow (fr v b); omega⟩
theorem numB_host {v : Bool} {n : Nat} {b : Int} (hr : rightP v n b = true) {i : Nat} (hi : i < cntP (fr v b)) : numB v n b v (n + i) = !kept v (fr v b) i := by
  unfold numB
  rw [has_host hr hi, mod_host hr (Nat.lt_of_lt_of_le hi (cntP_pow _)), decide_eq_true hi]; simp
theorem numI_host {v : Bool} {n : Nat} {b : Int} (hr : rightP v n b = true) {i : Nat} (hi : i < cntP (fr v b)) (hk : kept v (fr v b) i = false) : numI v n b v (n + i) = i := by
  unfold numI
  rw [numB_host hr hi, hk, mod_host hr (Nat.lt_of_lt_of_le hi (cntP_pow _))]; rfl
theorem host_lt {v : Bool} {n : Nat} {b : Int} (hr : rightP v n b = true) {i : Nat} (hi : i < cntP (fr v b)) : n + i < 340282366920938463463374607431768211456 := by
  have h1 := cntP_pow (fr v b)
  have h2 := last_lt hr
  have h3 := pow_w v
  omega
theorem IsNext.congr {f g : Nat → Bool} {n a j : Nat} (h : IsNext f n a j) (e : ∀ y, y < n → f y = g y) : IsNext g n a j := by
  obtain ⟨h1, h2, h3⟩ := h
  refine ⟨h1, by rw [← e j h1]; exact h2, ?_⟩
  rcases h3 with ⟨h3, h4⟩ | ⟨h3, h4, h5⟩
  · exact .inl ⟨h3, fun y y1 y2 => by rw [← e y (by omega)]; exact h4 y y1 y2⟩
  · exact .inr ⟨h3, fun y y1 y2 => by rw [← e y y2]; exact h4 y y1 y2, fun y y1 => by rw [← e y (by omega)]; exact h5 y y1⟩
theorem kept_one (v : Bool) {F : Nat} (h : 2 ≤ F) : kept v F 1 = false := kept_false.2 ⟨by decide, fun _ => by have := cntP_ge h; omega⟩
theorem fresh_kept (v : Bool) (F : Nat) : ∀ i, i < cntP F → freshF v F i = kept v F i := by
  intro i hi
  unfold freshF
  rw [decide_eq_true hi, Bool.true_and]
theorem Told.keptOr {v : Bool} {F : Nat} {f : Nat → Bool} {us : List Nat} (h : Told v F f us) : ∀ i, i < cntP F → f i = keptOr v F us i := h.bits
theorem PoolAt.rfr {w w' : World} {base rq q g c : Nat} {v : Bool} {n : Nat} {b : Int} {f : Nat → Bool} (h : PoolAt w q g c v n b f) (hF : RFr base rq w w') (h1 : q ≠ rq) (h2 : g ≠ rq) (h3 : c ≠ rq) : PoolAt w' q g c v n b f :=
  ⟨hF.kind _ _ _ h.head (by decide) h1, ⟨hF.kind _ _ _ h.map.head (by decide) h2, hF.kind _ _ _ h.map.row (by decide) h3, h.map.ne, h.map.small, h.map.top⟩, h.right, h.big⟩
theorem cnt_drop {f : Nat → Bool} {x n : Nat} (hx : x < n) (hf : f x = false) : cnt (upd (upd f x true) x false) 0 n = cnt f 0 n := by
  refine cnt_congr fun y _ _ => ?_
  unfold upd
  by_cases e : y = x
  · rw [if_pos e, e, hf]
  · rw [if_neg e, if_neg e]
theorem upd_twice (f : Nat → Bool) (x : Nat) (b : Bool) : upd (upd f x b) x b = upd f x b := by
  funext y; unfold upd
  by_cases e : y = x
  · rw [if_pos e, if_pos e]
  · rw [if_neg e, if_neg e]
theorem ptake_out (q g c : Nat) (v : Bool) (n : Nat) (b : Int) (f : Nat → Bool) (u : Bool) (x : Nat) (w : World) (h : PoolAt w q g c v n b f) (hx : x < 340282366920938463463374607431768211456) (hB : numB v n b u x = false) :
    Calls Tryz.prog 50 #[.pointer (some ⟨q, 0, none⟩), .agg #[.bool u, .int .u64 (hi x), .int .u64 (lo x)]] w fun e w' => e = .returned (.int .i64 12) ∧ PoolAt w' q g c v n b f ∧ w.grownBy w' (some c) := by
  have := pput_k q g c v n b f u x w h hx
  rw [hB] at this
  exact this
theorem ptake_used (q g c : Nat) (v : Bool) (n : Nat) (b : Int) (f : Nat → Bool) (j : Nat) (w : World) (h : PoolAt w q g c v n b (upd f j true)) (hj : j < cntP (fr v b)) (hk : kept v (fr v b) j = false) :
    Calls Tryz.prog 50 #[.pointer (some ⟨q, 0, none⟩), .agg #[.bool v, .int .u64 (hi (n + j)), .int .u64 (lo (n + j))]] w fun e w' => e = .returned (.int .i64 14) ∧ PoolAt w' q g c v n b (upd f j true) ∧ w.grownBy w' (some c) := by
  have := pput_k q g c v n b (upd f j true) v (n + j) w h (host_lt h.right hj)
  rw [numB_host h.right hj, hk, numI_host h.right hj hk, upd_same, upd_twice] at this
  exact this
theorem pfree_ok (q g c : Nat) (v : Bool) (n : Nat) (b : Int) (f : Nat → Bool) (j : Nat) (w : World) (h : PoolAt w q g c v n b (upd f j true)) (hj : j < cntP (fr v b)) (hk : kept v (fr v b) j = false) :
    Calls Tryz.prog 52 #[.pointer (some ⟨q, 0, none⟩), .agg #[.bool v, .int .u64 (hi (n + j)), .int .u64 (lo (n + j))]] w fun e w' => e = .returned (.int .i64 0) ∧ PoolAt w' q g c v n b (upd (upd f j true) j false) ∧ w.grownBy w' (some c) := by
  have := pdrop_k q g c v n b (upd f j true) v (n + j) w h (host_lt h.right hj)
  rw [numB_host h.right hj, hk, numI_host h.right hj hk, upd_same] at this
  exact this
theorem pfree_none (q g c : Nat) (v : Bool) (n : Nat) (b : Int) (f : Nat → Bool) (j : Nat) (w : World) (h : PoolAt w q g c v n b (upd f j false)) (hj : j < cntP (fr v b)) (hk : kept v (fr v b) j = false) :
    Calls Tryz.prog 52 #[.pointer (some ⟨q, 0, none⟩), .agg #[.bool v, .int .u64 (hi (n + j)), .int .u64 (lo (n + j))]] w fun e w' => e = .returned (.int .i64 7) ∧ PoolAt w' q g c v n b (upd f j false) ∧ w.grownBy w' (some c) := by
  have := pdrop_k q g c v n b (upd f j false) v (n + j) w h (host_lt h.right hj)
  rw [numB_host h.right hj, hk, numI_host h.right hj hk, upd_same, upd_twice] at this
  exact this
theorem phas_host (q g c : Nat) (v : Bool) (n : Nat) (b : Int) (f : Nat → Bool) (j : Nat) (w : World) (h : PoolAt w q g c v n b f) (hj : j < cntP (fr v b)) :
    Calls Tryz.prog 24 #[.pointer (some ⟨q, 0, none⟩), .agg #[.bool v, .int .u64 (hi (n + j)), .int .u64 (lo (n + j))]] w fun e w' => e = .returned (.bool (!kept v (fr v b) j && f j)) ∧ Below w.heap.size w w' := by
  have := phas_c q g c v n b f v (n + j) w h (host_lt h.right hj)
  rw [numB_host h.right hj] at this
  cases hk : kept v (fr v b) j
  · rw [hk, numI_host h.right hj hk] at this; exact this
  · rw [hk] at this; exact this
theorem pleft_k (q g c : Nat) (v : Bool) (n : Nat) (b : Int) (f : Nat → Bool) (K : Nat) (w : World) (h : PoolAt w q g c v n b f) (hK : cnt f 0 (cntP (fr v b)) = K) :
    Calls Tryz.prog 18 #[.pointer (some ⟨q, 0, none⟩)] w fun e w' => e = .returned (.int .i64 ((cntP (fr v b) : Nat) - (K : Nat))) ∧ Below w.heap.size w w' := by
  rw [← hK]; exact pleft_c q g c v n b f w h
theorem ffirst_k (v : Bool) (n : Nat) (b : Int) (h : rightP v n b = true) : prefix_First.f v (hi n) (lo n) b = some (v, hi n, lo n) := by
  rw [first_f v n b (Nat.lt_of_lt_of_le (rightP_iff.1 h).1 (pow_w v)), show firstS v n b = (v, n) from by unfold firstS; rw [if_pos h]]; rfl
theorem flast_k (v : Bool) (n : Nat) (b : Int) (h : rightP v n b = true) : prefix_Last.f v (hi n) (lo n) b = some (v, hi (n + (2 ^ fr v b - 1)), lo (n + (2 ^ fr v b - 1))) := by
  rw [last_f v n b (Nat.lt_of_lt_of_le (rightP_iff.1 h).1 (pow_w v)), show lastS v n b = (v, n + (2 ^ fr v b - 1)) from by unfold lastS; rw [if_pos h]]; rfl
end Go.Proofs.YtpfilldnfpcpkaaGreatDoor

namespace Go.Proofs.YtpfilldnfpcpkaaGreatDoor
open Go.RowKit Go.Proofs.YtpfilldnfpcpkaaGreatDoorW.PrintWords Go.Proofs.YtpfilldnfpcpkaaGreatDoor.PPo

theorem pcells_of {w : World} {g : Nat} {v : Bool} {x y k : Int} (h : Blk w g 28 #[.bool v, .int .u64 x, .int .u64 y, .int .i64 k]) :
    w.cell? ⟨g, 0, none⟩ = some (.bool v) ∧ w.cell? ⟨g, 1, none⟩ = some (.int .u64 x) ∧ w.cell? ⟨g, 2, none⟩ = some (.int .u64 y) ∧ w.cell? ⟨g, 3, none⟩ = some (.int .i64 k) :=
  ⟨(h.cell 0).trans rfl, (h.cell 1).trans rfl, (h.cell 2).trans rfl, (h.cell 3).trans rfl⟩
theorem acells_of {w : World} {g : Nat} {v : Bool} {x y : Int} (h : Blk w g 26 #[.bool v, .int .u64 x, .int .u64 y]) :
    w.cell? ⟨g, 0, none⟩ = some (.bool v) ∧ w.cell? ⟨g, 1, none⟩ = some (.int .u64 x) ∧ w.cell? ⟨g, 2, none⟩ = some (.int .u64 y) :=
  ⟨(h.cell 0).trans rfl, (h.cell 1).trans rfl, (h.cell 2).trans rfl⟩
set_option maxRecDepth 20000 in
set_option maxHeartbeats 4000000 in
theorem poolGreat_walk (v : Bool) (n : Nat) (b o : Int) (w : World) (hn : n < 340282366920938463463374607431768211456) (_ : (Lit.int .i64 b).wf = true) (hG : Glob w) :
    Calls Tryz.prog 7 #[PfxV v n b, .int .i64 o] w fun e w' => e = .returned (.bool true) ∧ Below w.heap.size w w' := by
  have hGw := Lib.hid hG
  unfold PfxV PfxC
  go_enter Tryz.func7, Tryz.ntmps7
  go_wp2_with fail
  have hA : Blk (w.alloc (Obj.cells #[.bool v, .int .u64 (hi n), .int .u64 (lo n), .int .i64 b] 28)) (w.heap.size) 28 #[.bool v, .int .u64 (hi n), .int .u64 (lo n), .int .i64 b] := (Blk.new' _ _ _ _ (by simp) : Blk (w.alloc (Obj.cells #[.bool v, .int .u64 (hi n), .int .u64 (lo n), .int .i64 b] 28)) (w.heap.size) 28 #[.bool v, .int .u64 (hi n), .int .u64 (lo n), .int .i64 b])
  have hbel : Below w.heap.size w (w.alloc (Obj.cells #[.bool v, .int .u64 (hi n), .int .u64 (lo n), .int .i64 b] 28)) := bl_
  have hsz : (w.alloc (Obj.cells #[.bool v, .int .u64 (hi n), .int .u64 (lo n), .int .i64 b] 28)).heap.size = w.heap.size + 1 := by simp
  generalize w.alloc (Obj.cells #[.bool v, .int .u64 (hi n), .int .u64 (lo n), .int .i64 b] 28) = w1 at *
  refine (awake06_c w1 (hGw.out.after hbel)).mono ?_
  rintro e w2 ⟨rfl, hb⟩
  (try clear a0 a1 a2 a3)
  replace hA := hA.after hb
  replace hbel := bl_trans hbel hb
  clear hb
  obtain ⟨a0, a1, a2, a3⟩ := pcells_of hA
  go_wp2_with fail
  by_cases hc : rightP v n b = true ∧ 2 ≤ fr v b
  · obtain ⟨hr', hF⟩ := hc
    have hN := cntP_ge hF
    have hN2 := cntP_le (fr v b)
    have la := hA.lt
    have l2 := hbel.size
    refine (pnew_c v n b _ hr' hF).mono ?_
    rintro e w3 ⟨q, g, c, rfl, hp, hb, hq, hg', hcc⟩
    have naq : w.heap.size ≠ q := by omega
    have nac : w.heap.size ≠ c := by omega
    have hqw : w.heap.size ≤ q := by omega
    have hcw : w.heap.size ≤ c := by omega
    clear la l2 hq hg' hcc
    (try clear a0 a1 a2 a3)
    replace hA := hA.after hb
    replace hbel := bl_trans hbel hb
    clear hb
    obtain ⟨a0, a1, a2, a3⟩ := pcells_of hA
    go_wp2_with fail
    have la := hA.lt
    have lq := hp.head.lt
    have lg := hp.map.head.lt
    have lc := hp.map.row.lt
    refine (rnew_at v n b _ w.heap.size hr' hF).mono ?_
    rintro e w4 ⟨rq, rfl, hr, hb, hrq⟩
    have har : w.heap.size ≠ rq := by omega
    have hwr : w.heap.size ≤ rq := by omega
    have hqr : q ≠ rq := by omega
    have hgr : g ≠ rq := by omega
    have hcr : c ≠ rq := by omega
    clear la lq lg lc hrq
    (try clear a0 a1 a2 a3)
    replace hA := hA.after hb
    replace hp := hp.after hb
    replace hbel := bl_trans hbel hb
    clear hb
    obtain ⟨a0, a1, a2, a3⟩ := pcells_of hA
    have HFi := Lib.hid (fun w => prefix_First.calls v (hi n) (lo n) b _ _ _ w (ffirst_k v n b hr'))
    have HLa := Lib.hid (fun w => prefix_Last.calls v (hi n) (lo n) b _ _ _ w (flast_k v n b hr'))
    have hlM : n + (2 ^ fr v b - 1) < 340282366920938463463374607431768211456 := Nat.lt_of_lt_of_le (last_lt hr') (pow_w v)
    have HTl : Hid (v = false → numB v n b v (n + (2 ^ fr v b - 1)) = false) := Lib.hid (fun e => by subst e; exact numB_last hr')
    obtain ⟨z, hz⟩ : ∃ z, z = n + (2 ^ fr v b - 1) := ⟨_, rfl⟩
    rw [← hz] at HLa hlM HTl
    clear hz
    go_wp2_with fail
    refine (HFi.out _).mono ?_
    rintro e w5 ⟨rfl, hb⟩
    (try clear a0 a1 a2 a3)
    replace hA := hA.after hb
    replace hp := hp.after hb
    replace hr := hr.after hb
    replace hbel := bl_trans hbel hb
    clear hb
    obtain ⟨a0, a1, a2, a3⟩ := pcells_of hA
    go_wp2_with fail
    cases v
    · skip
      refine (ptake_out q g c false n b _ false n _ hp hn (numB_first hr')).mono ?_
      rintro e w6 ⟨rfl, hp', hg⟩
      (try clear a0 a1 a2 a3)
      replace hA := hA.grown hg (some_ne nac)
      replace hr := hr.grown hp.map.row hg
      replace hbel := bl_grown hbel hg hcw
      clear hg hp
      have hp := hp'
      clear hp'
      obtain ⟨a0, a1, a2, a3⟩ := pcells_of hA
      go_wp2_with fail
      obtain ⟨K, hK⟩ : ∃ K, cnt (freshF false (fr false b)) 0 (cntP (fr false b)) = K := ⟨_, rfl⟩
      have hKN : K ≤ cntP (fr false b) := by rw [← hK]; exact cnt_le _ _ _
      have HKf := Lib.hid hK
      clear hK
      refine (HLa.out _).mono ?_
      rintro e w7 ⟨rfl, hb⟩
      (try clear a0 a1 a2 a3)
      replace hA := hA.after hb
      replace hp := hp.after hb
      replace hr := hr.after hb
      replace hbel := bl_trans hbel hb
      clear hb
      obtain ⟨a0, a1, a2, a3⟩ := pcells_of hA
      go_wp2_with fail
      refine (ptake_out q g c false n b _ false z _ hp hlM (HTl.out (by first | rfl | trivial))).mono ?_
      rintro e w8 ⟨rfl, hp', hg⟩
      (try clear a0 a1 a2 a3)
      replace hA := hA.grown hg (some_ne nac)
      replace hr := hr.grown hp.map.row hg
      replace hbel := bl_grown hbel hg hcw
      clear hg hp
      have hp := hp'
      clear hp'
      obtain ⟨a0, a1, a2, a3⟩ := pcells_of hA
      go_wp2_with fail
      refine (pleft_k q g c false n b _ K _ hp HKf.out).mono ?_
      rintro e w9 ⟨rfl, hb⟩
      (try clear a0 a1 a2 a3)
      replace hA := hA.after hb
      replace hp := hp.after hb
      replace hr := hr.after hb
      replace hbel := bl_trans hbel hb
      clear hb
      obtain ⟨a0, a1, a2, a3⟩ := pcells_of hA
      go_wp2_with fail
      refine (pnext_c q g c false n b _ o _ hp (glob_tab (hGw.out.after hbel))).mono ?_
      rintro e w10 (⟨j, hj, rfl, hp', hg⟩ | ⟨hall, -, -⟩)
      rotate_left
      · have h1 := hall 1 (by omega)
        rw [fresh_kept _ _ 1 (by omega), kept_one _ hF] at h1; cases h1
      (try clear a0 a1 a2 a3)
      have hjk : kept false (fr false b) j = false := by rw [← fresh_kept _ _ j hj.1]; exact hj.2.1
      replace hA := hA.grown hg (some_ne nac)
      replace hr := hr.grown hp.map.row hg
      replace hbel := bl_grown hbel hg hcw
      clear hg hp
      have hp := hp'
      clear hp'
      obtain ⟨a0, a1, a2, a3⟩ := pcells_of hA
      go_wp2_with fail
      have hjN := hj.1
      have nxc : w10.heap.size ≠ c := Nat.ne_of_gt hp.map.row.lt
      have hX := Blk.new w10 26 #[.bool false, .int .u64 (hi (n + j)), .int .u64 (lo (n + j))]
      replace hA := hA.alloc (.cells #[.bool false, .int .u64 (hi (n + j)), .int .u64 (lo (n + j))] 26)
      replace hp := hp.after (bl_alloc (Below.refl _ _) (.cells #[.bool false, .int .u64 (hi (n + j)), .int .u64 (lo (n + j))] 26))
      replace hr := hr.after (bl_alloc (Below.refl _ _) (.cells #[.bool false, .int .u64 (hi (n + j)), .int .u64 (lo (n + j))] 26))
      replace hbel := bl_alloc hbel (.cells #[.bool false, .int .u64 (hi (n + j)), .int .u64 (lo (n + j))] 26)
      generalize w10.alloc (.cells #[.bool false, .int .u64 (hi (n + j)), .int .u64 (lo (n + j))] 26) = w11 at *
      generalize w10.heap.size = gx at *
      (try clear a0 a1 a2 a3 x0 x1 x2)
      have lx := hX.lt
      have nxr : gx ≠ rq := hX.ne hr.head (by decide)
      refine (rpnext_c w.heap.size rq _ _ false n b [] o _ hr (by decide) hbel.size).mono ?_
      rintro e w12 (⟨j', p', cap', hj', rfl, -, hF'⟩ | ⟨hall, -, -⟩)
      rotate_left
      · have h1 := hall 1 (by omega)
        unfold keptOr at h1
        rw [kept_one _ hF] at h1; cases h1
      obtain rfl : j = j' := (hj.congr (g := keptOr false (fr false b) []) fun y hy => by rw [fresh_kept _ _ y hy]; unfold keptOr; simp).one hj'
      clear hj' hj
      replace hA := hF'.kind _ _ _ hA (by decide) har
      replace hX := hF'.kind _ _ _ hX (by decide) nxr
      replace hp := hp.rfr hF' hqr hgr hcr
      replace hbel := hF'.bl hbel (Nat.le_refl _) hwr
      clear hF' hr
      have HHas := Lib.hid (fun w => platbookref03_Has.calls 700 false (hi n) (lo n) b false (hi (n + j)) (lo (n + j)) _ w ((rhas_f 700 (Nat.le_refl _) false n b false (n + j) hn (host_lt hr' hjN)).trans (congrArg some (has_host hr' hjN))))
      have HT := Lib.hid (fun f w hp => phas_host q g c false n b f j w hp hjN)
      rw [hjk] at HT
      have HU := Lib.hid (fun f w hp => ptake_used q g c false n b f j w hp hjN hjk)
      have HFo := Lib.hid (fun f w hp => pfree_ok q g c false n b f j w hp hjN hjk)
      have HFn := Lib.hid (fun f w hp => pfree_none q g c false n b f j w hp hjN hjk)
      have HK2 := Lib.hid ((cnt_add hjN (by rw [fresh_kept _ _ j hjN]; exact hjk)).trans (congrArg (· + 1) HKf.out))
      have HK3 := Lib.hid ((cnt_drop hjN (by rw [fresh_kept _ _ j hjN]; exact hjk)).trans HKf.out)
      have hwl : wrap64 (((cntP (fr false b) : Nat) : Int) - (K : Int) - 1) = ((cntP (fr false b) : Nat) : Int) - ((K + 1 : Nat) : Int) := by unfold wrap64; omega
      have HUS := Lib.hid (upd_same (freshF false (fr false b)) j true)
      generalize hi (n + j) = X1 at *
      generalize lo (n + j) = X2 at *
      obtain ⟨a0, a1, a2, a3⟩ := pcells_of hA
      obtain ⟨x0, x1, x2⟩ := acells_of hX
      have la2 := hA.lt
      have lx2 := hX.lt
      go_wp2_with fail
      clear la2 lx2
      have nyc : w12.heap.size ≠ c := Nat.ne_of_gt hp.map.row.lt
      have hY := Blk.new w12 26 #[.bool false, .int .u64 X1, .int .u64 X2]
      replace hA := hA.alloc (.cells #[.bool false, .int .u64 X1, .int .u64 X2] 26)
      replace hX := hX.alloc (.cells #[.bool false, .int .u64 X1, .int .u64 X2] 26)
      replace hp := hp.after (bl_alloc (Below.refl _ _) (.cells #[.bool false, .int .u64 X1, .int .u64 X2] 26))
      replace hbel := bl_alloc hbel (.cells #[.bool false, .int .u64 X1, .int .u64 X2] 26)
      generalize w12.alloc (.cells #[.bool false, .int .u64 X1, .int .u64 X2] 26) = w13 at *
      generalize w12.heap.size = gy at *
      (try clear a0 a1 a2 a3 x0 x1 x2 y0 y1 y2)
      obtain ⟨a0, a1, a2, a3⟩ := pcells_of hA
      obtain ⟨x0, x1, x2⟩ := acells_of hX
      obtain ⟨y0, y1, y2⟩ := acells_of hY
      have HT2 := HT.out _ _ hp
      rw [HUS.out] at HT2
      refine (HT2).mono ?_
      rintro e w14 ⟨rfl, hb⟩
      (try clear a0 a1 a2 a3 x0 x1 x2 y0 y1 y2)
      replace hA := hA.after hb
      replace hX := hX.after hb
      replace hY := hY.after hb
      replace hp := hp.after hb
      replace hbel := bl_trans hbel hb
      clear hb
      obtain ⟨a0, a1, a2, a3⟩ := pcells_of hA
      obtain ⟨x0, x1, x2⟩ := acells_of hX
      obtain ⟨y0, y1, y2⟩ := acells_of hY
      go_wp2_with fail
      refine (HU.out _ _ hp).mono ?_
      rintro e w15 ⟨rfl, hp', hg⟩
      (try clear a0 a1 a2 a3 x0 x1 x2 y0 y1 y2)
      replace hA := hA.grown hg (some_ne nac)
      replace hX := hX.grown hg (some_ne nxc)
      replace hY := hY.grown hg (some_ne nyc)
      replace hbel := bl_grown hbel hg hcw
      clear hg hp
      have hp := hp'
      clear hp'
      obtain ⟨a0, a1, a2, a3⟩ := pcells_of hA
      obtain ⟨x0, x1, x2⟩ := acells_of hX
      obtain ⟨y0, y1, y2⟩ := acells_of hY
      go_wp2_with fail
      refine (pleft_k q g c false n b _ (K + 1) _ hp HK2.out).mono ?_
      rintro e w16 ⟨rfl, hb⟩
      (try clear a0 a1 a2 a3 x0 x1 x2 y0 y1 y2)
      replace hA := hA.after hb
      replace hX := hX.after hb
      replace hY := hY.after hb
      replace hp := hp.after hb
      replace hbel := bl_trans hbel hb
      clear hb
      obtain ⟨a0, a1, a2, a3⟩ := pcells_of hA
      obtain ⟨x0, x1, x2⟩ := acells_of hX
      obtain ⟨y0, y1, y2⟩ := acells_of hY
      go_wp2_with fail
      refine (HFo.out _ _ hp).mono ?_
      rintro e w17 ⟨rfl, hp', hg⟩
      (try clear a0 a1 a2 a3 x0 x1 x2 y0 y1 y2)
      replace hA := hA.grown hg (some_ne nac)
      replace hX := hX.grown hg (some_ne nxc)
      replace hY := hY.grown hg (some_ne nyc)
      replace hbel := bl_grown hbel hg hcw
      clear hg hp
      have hp := hp'
      clear hp'
      obtain ⟨a0, a1, a2, a3⟩ := pcells_of hA
      obtain ⟨x0, x1, x2⟩ := acells_of hX
      obtain ⟨y0, y1, y2⟩ := acells_of hY
      go_wp2_with fail
      refine (HFn.out _ _ hp).mono ?_
      rintro e w18 ⟨rfl, hp', hg⟩
      (try clear a0 a1 a2 a3 x0 x1 x2 y0 y1 y2)
      replace hA := hA.grown hg (some_ne nac)
      replace hX := hX.grown hg (some_ne nxc)
      replace hY := hY.grown hg (some_ne nyc)
      replace hbel := bl_grown hbel hg hcw
      clear hg hp
      have hp := hp'
      clear hp'
      obtain ⟨a0, a1, a2, a3⟩ := pcells_of hA
      obtain ⟨x0, x1, x2⟩ := acells_of hX
      obtain ⟨y0, y1, y2⟩ := acells_of hY
      go_wp2_with fail
      refine (pleft_k q g c false n b _ K _ hp HK3.out).mono ?_
      rintro e w19 ⟨rfl, hb⟩
      (try clear a0 a1 a2 a3 x0 x1 x2 y0 y1 y2)
      replace hA := hA.after hb
      replace hX := hX.after hb
      replace hY := hY.after hb
      replace hp := hp.after hb
      replace hbel := bl_trans hbel hb
      clear hb
      obtain ⟨a0, a1, a2, a3⟩ := pcells_of hA
      obtain ⟨x0, x1, x2⟩ := acells_of hX
      obtain ⟨y0, y1, y2⟩ := acells_of hY
      go_wp2_with fail
      refine (HHas.out _).mono ?_
      rintro e w20 ⟨rfl, hb⟩
      (try clear a0 a1 a2 a3 x0 x1 x2 y0 y1 y2)
      replace hA := hA.after hb
      replace hX := hX.after hb
      replace hY := hY.after hb
      replace hbel := bl_trans hbel hb
      clear hb
      obtain ⟨a0, a1, a2, a3⟩ := pcells_of hA
      obtain ⟨x0, x1, x2⟩ := acells_of hX
      obtain ⟨y0, y1, y2⟩ := acells_of hY
      go_wp2_with fail
      go_ret
      exact ⟨rfl, hbel⟩
    · skip
      refine (ptake_out q g c true n b _ true n _ hp hn (numB_first hr')).mono ?_
      rintro e w6 ⟨rfl, hp', hg⟩
      (try clear a0 a1 a2 a3)
      replace hA := hA.grown hg (some_ne nac)
      replace hr := hr.grown hp.map.row hg
      replace hbel := bl_grown hbel hg hcw
      clear hg hp
      have hp := hp'
      clear hp'
      obtain ⟨a0, a1, a2, a3⟩ := pcells_of hA
      go_wp2_with fail
      obtain ⟨K, hK⟩ : ∃ K, cnt (freshF true (fr true b)) 0 (cntP (fr true b)) = K := ⟨_, rfl⟩
      have hKN : K ≤ cntP (fr true b) := by rw [← hK]; exact cnt_le _ _ _
      have HKf := Lib.hid hK
      clear hK
      refine (pleft_k q g c true n b _ K _ hp HKf.out).mono ?_
      rintro e w9 ⟨rfl, hb⟩
      (try clear a0 a1 a2 a3)
      replace hA := hA.after hb
      replace hp := hp.after hb
      replace hr := hr.after hb
      replace hbel := bl_trans hbel hb
      clear hb
      obtain ⟨a0, a1, a2, a3⟩ := pcells_of hA
      go_wp2_with fail
      refine (pnext_c q g c true n b _ o _ hp (glob_tab (hGw.out.after hbel))).mono ?_
      rintro e w10 (⟨j, hj, rfl, hp', hg⟩ | ⟨hall, -, -⟩)
      rotate_left
      · have h1 := hall 1 (by omega)
        rw [fresh_kept _ _ 1 (by omega), kept_one _ hF] at h1; cases h1
      (try clear a0 a1 a2 a3)
      have hjk : kept true (fr true b) j = false := by rw [← fresh_kept _ _ j hj.1]; exact hj.2.1
      replace hA := hA.grown hg (some_ne nac)
      replace hr := hr.grown hp.map.row hg
      replace hbel := bl_grown hbel hg hcw
      clear hg hp
      have hp := hp'
      clear hp'
      obtain ⟨a0, a1, a2, a3⟩ := pcells_of hA
      go_wp2_with fail
      have hjN := hj.1
      have nxc : w10.heap.size ≠ c := Nat.ne_of_gt hp.map.row.lt
      have hX := Blk.new w10 26 #[.bool true, .int .u64 (hi (n + j)), .int .u64 (lo (n + j))]
      replace hA := hA.alloc (.cells #[.bool true, .int .u64 (hi (n + j)), .int .u64 (lo (n + j))] 26)
      replace hp := hp.after (bl_alloc (Below.refl _ _) (.cells #[.bool true, .int .u64 (hi (n + j)), .int .u64 (lo (n + j))] 26))
      replace hr := hr.after (bl_alloc (Below.refl _ _) (.cells #[.bool true, .int .u64 (hi (n + j)), .int .u64 (lo (n + j))] 26))
      replace hbel := bl_alloc hbel (.cells #[.bool true, .int .u64 (hi (n + j)), .int .u64 (lo (n + j))] 26)
      generalize w10.alloc (.cells #[.bool true, .int .u64 (hi (n + j)), .int .u64 (lo (n + j))] 26) = w11 at *
      generalize w10.heap.size = gx at *
      (try clear a0 a1 a2 a3 x0 x1 x2)
      have lx := hX.lt
      have nxr : gx ≠ rq := hX.ne hr.head (by decide)
      refine (rpnext_c w.heap.size rq _ _ true n b [] o _ hr (by decide) hbel.size).mono ?_
      rintro e w12 (⟨j', p', cap', hj', rfl, -, hF'⟩ | ⟨hall, -, -⟩)
      rotate_left
      · have h1 := hall 1 (by omega)
        unfold keptOr at h1
        rw [kept_one _ hF] at h1; cases h1
      obtain rfl : j = j' := (hj.congr (g := keptOr true (fr true b) []) fun y hy => by rw [fresh_kept _ _ y hy]; unfold keptOr; simp).one hj'
      clear hj' hj
      replace hA := hF'.kind _ _ _ hA (by decide) har
      replace hX := hF'.kind _ _ _ hX (by decide) nxr
      replace hp := hp.rfr hF' hqr hgr hcr
      replace hbel := hF'.bl hbel (Nat.le_refl _) hwr
      clear hF' hr
      have HHas := Lib.hid (fun w => platbookref03_Has.calls 700 true (hi n) (lo n) b true (hi (n + j)) (lo (n + j)) _ w ((rhas_f 700 (Nat.le_refl _) true n b true (n + j) hn (host_lt hr' hjN)).trans (congrArg some (has_host hr' hjN))))
      have HT := Lib.hid (fun f w hp => phas_host q g c true n b f j w hp hjN)
      rw [hjk] at HT
      have HU := Lib.hid (fun f w hp => ptake_used q g c true n b f j w hp hjN hjk)
      have HFo := Lib.hid (fun f w hp => pfree_ok q g c true n b f j w hp hjN hjk)
      have HFn := Lib.hid (fun f w hp => pfree_none q g c true n b f j w hp hjN hjk)
      have HK2 := Lib.hid ((cnt_add hjN (by rw [fresh_kept _ _ j hjN]; exact hjk)).trans (congrArg (· + 1) HKf.out))
      have HK3 := Lib.hid ((cnt_drop hjN (by rw [fresh_kept _ _ j hjN]; exact hjk)).trans HKf.out)
      have hwl : wrap64 (((cntP (fr true b) : Nat) : Int) - (K : Int) - 1) = ((cntP (fr true b) : Nat) : Int) - ((K + 1 : Nat) : Int) := by unfold wrap64; omega
      have HUS := Lib.hid (upd_same (freshF true (fr true b)) j true)
      generalize hi (n + j) = X1 at *
      generalize lo (n + j) = X2 at *
      obtain ⟨a0, a1, a2, a3⟩ := pcells_of hA
      obtain ⟨x0, x1, x2⟩ := acells_of hX
      have la2 := hA.lt
      have lx2 := hX.lt
      go_wp2_with fail
      clear la2 lx2
      have nyc : w12.heap.size ≠ c := Nat.ne_of_gt hp.map.row.lt
      have hY := Blk.new w12 26 #[.bool true, .int .u64 X1, .int .u64 X2]
      replace hA := hA.alloc (.cells #[.bool true, .int .u64 X1, .int .u64 X2] 26)
      replace hX := hX.alloc (.cells #[.bool true, .int .u64 X1, .int .u64 X2] 26)
      replace hp := hp.after (bl_alloc (Below.refl _ _) (.cells #[.bool true, .int .u64 X1, .int .u64 X2] 26))
      replace hbel := bl_alloc hbel (.cells #[.bool true, .int .u64 X1, .int .u64 X2] 26)
      generalize w12.alloc (.cells #[.bool true, .int .u64 X1, .int .u64 X2] 26) = w13 at *
      generalize w12.heap.size = gy at *
      (try clear a0 a1 a2 a3 x0 x1 x2 y0 y1 y2)
      obtain ⟨a0, a1, a2, a3⟩ := pcells_of hA
      obtain ⟨x0, x1, x2⟩ := acells_of hX
      obtain ⟨y0, y1, y2⟩ := acells_of hY
      have HT2 := HT.out _ _ hp
      rw [HUS.out] at HT2
      refine (HT2).mono ?_
      rintro e w14 ⟨rfl, hb⟩
      (try clear a0 a1 a2 a3 x0 x1 x2 y0 y1 y2)
      replace hA := hA.after hb
      replace hX := hX.after hb
      replace hY := hY.after hb
      replace hp := hp.after hb
      replace hbel := bl_trans hbel hb
      clear hb
      obtain ⟨a0, a1, a2, a3⟩ := pcells_of hA
      obtain ⟨x0, x1, x2⟩ := acells_of hX
      obtain ⟨y0, y1, y2⟩ := acells_of hY
      go_wp2_with fail
      refine (HU.out _ _ hp).mono ?_
      rintro e w15 ⟨rfl, hp', hg⟩
      (try clear a0 a1 a2 a3 x0 x1 x2 y0 y1 y2)
      replace hA := hA.grown hg (some_ne nac)
      replace hX := hX.grown hg (some_ne nxc)
      replace hY := hY.grown hg (some_ne nyc)
      replace hbel := bl_grown hbel hg hcw
      clear hg hp
      have hp := hp'
      clear hp'
      obtain ⟨a0, a1, a2, a3⟩ := pcells_of hA
      obtain ⟨x0, x1, x2⟩ := acells_of hX
      obtain ⟨y0, y1, y2⟩ := acells_of hY
      go_wp2_with fail
      refine (pleft_k q g c true n b _ (K + 1) _ hp HK2.out).mono ?_
      rintro e w16 ⟨rfl, hb⟩
      (try clear a0 a1 a2 a3 x0 x1 x2 y0 y1 y2)
      replace hA := hA.after hb
      replace hX := hX.after hb
      replace hY := hY.after hb
      replace hp := hp.after hb
      replace hbel := bl_trans hbel hb
      clear hb
      obtain ⟨a0, a1, a2, a3⟩ := pcells_of hA
      obtain ⟨x0, x1, x2⟩ := acells_of hX
      obtain ⟨y0, y1, y2⟩ := acells_of hY
      go_wp2_with fail
      refine (HFo.out _ _ hp).mono ?_
      rintro e w17 ⟨rfl, hp', hg⟩
      (try clear a0 a1 a2 a3 x0 x1 x2 y0 y1 y2)
      replace hA := hA.grown hg (some_ne nac)
      replace hX := hX.grown hg (some_ne nxc)
      replace hY := hY.grown hg (some_ne nyc)
      replace hbel := bl_grown hbel hg hcw
      clear hg hp
      have hp := hp'
      clear hp'
      obtain ⟨a0, a1, a2, a3⟩ := pcells_of hA
      obtain ⟨x0, x1, x2⟩ := acells_of hX
      obtain ⟨y0, y1, y2⟩ := acells_of hY
      go_wp2_with fail
      refine (HFn.out _ _ hp).mono ?_
      rintro e w18 ⟨rfl, hp', hg⟩
      (try clear a0 a1 a2 a3 x0 x1 x2 y0 y1 y2)
      replace hA := hA.grown hg (some_ne nac)
      replace hX := hX.grown hg (some_ne nxc)
      replace hY := hY.grown hg (some_ne nyc)
      replace hbel := bl_grown hbel hg hcw
      clear hg hp
      have hp := hp'
      clear hp'
      obtain ⟨a0, a1, a2, a3⟩ := pcells_of hA
      obtain ⟨x0, x1, x2⟩ := acells_of hX
      obtain ⟨y0, y1, y2⟩ := acells_of hY
      go_wp2_with fail
      refine (pleft_k q g c true n b _ K _ hp HK3.out).mono ?_
      rintro e w19 ⟨rfl, hb⟩
      (try clear a0 a1 a2 a3 x0 x1 x2 y0 y1 y2)
      replace hA := hA.after hb
      replace hX := hX.after hb
      replace hY := hY.after hb
      replace hp := hp.after hb
      replace hbel := bl_trans hbel hb
      clear hb
      obtain ⟨a0, a1, a2, a3⟩ := pcells_of hA
      obtain ⟨x0, x1, x2⟩ := acells_of hX
      obtain ⟨y0, y1, y2⟩ := acells_of hY
      go_wp2_with fail
      refine (HHas.out _).mono ?_
      rintro e w20 ⟨rfl, hb⟩
      (try clear a0 a1 a2 a3 x0 x1 x2 y0 y1 y2)
      replace hA := hA.after hb
      replace hX := hX.after hb
      replace hY := hY.after hb
      replace hbel := bl_trans hbel hb
      clear hb
      obtain ⟨a0, a1, a2, a3⟩ := pcells_of hA
      obtain ⟨x0, x1, x2⟩ := acells_of hX
      obtain ⟨y0, y1, y2⟩ := acells_of hY
      go_wp2_with fail
      go_ret
      exact ⟨rfl, hbel⟩
  · have h1 : (sizeS v n b).2 = false := by
      unfold sizeS
      by_cases hr' : rightP v n b = true
      · rw [if_pos hr', decide_eq_false (fun h => hc ⟨hr', h⟩)]
      · rw [if_neg hr']
    have h2 : countS v n b = 0 := by unfold countS; rw [if_neg hc]
    clear hc
    refine (pnew_no v n b _ hn (.inr h1)).mono ?_
    rintro e w3 ⟨rfl, hb⟩
    (try clear a0 a1 a2 a3)
    replace hA := hA.after hb
    replace hbel := bl_trans hbel hb
    clear hb
    obtain ⟨a0, a1, a2, a3⟩ := pcells_of hA
    go_wp2_with fail
    refine (rnew_none v n b _ hn h2).mono ?_
    rintro e w4 ⟨rfl, hb⟩
    (try clear a0 a1 a2 a3)
    replace hA := hA.after hb
    replace hbel := bl_trans hbel hb
    clear hb
    obtain ⟨a0, a1, a2, a3⟩ := pcells_of hA
    go_wp2_with fail
    go_ret
    exact ⟨rfl, hbel⟩
end Go.Proofs.YtpfilldnfpcpkaaGreatDoor

namespace Go.Proofs.YtpfilldnfpcpkaaGreatDoor
open Go.ChangeShapes Go.WideShapes Go.ChangeAt Go.RowKit

section
variable {H : Type} {enc : TypeId × Value → H} {P : Program}
theorem post_below {f : Func} {s : ChangeSpec} {apart fresh handsOn again : Bool} {W W' : World} {args : Array Value} {v : Value} {ds gs : List (DataW H)} {before pa pv : List MemPlace}
    (hW : DataW.Whole enc P f.params.toList s.vars apart W args.toList ds gs before)
    (hres : ∀ (b : Nat) (sp : Nat → Bool) (hd : Bool), DataW.TrodAll enc P W' b sp hd f.resultTypes.toList (v.resultList f.resultTypes.size) (s.fn H (ds ++ gs)).results [])
    (hargs : ∀ sp : Nat → Bool, (∀ p ∈ before, sp p.block = true) → DataW.TrodAll enc P W' 0 sp true f.params.toList args.toList (s.fn H (ds ++ gs)).args pa)
    (hvars : ∀ sp : Nat → Bool, (∀ p ∈ before, sp p.block = true) → DataW.TrodVars enc P W' sp s.vars (s.fn H (ds ++ gs)).vars pv)
    (hps : before = pa ++ pv) (hb : Below W.heap.size W W')
    (hok : ∀ (j : Nat) (t : TypeId) (r : Value), f.resultTypes[j]? = some t → (v.resultList f.resultTypes.size)[j]? = some r → Value.okWide P W' .any 0 t r) :
    s.post enc P f apart fresh handsOn again W args v W' := by
  have hlt : ∀ p ∈ before, p.block < W.heap.size := fun p hp => hW.lt p hp
  have hold : ∀ p ∈ before, (fun b => decide (b < W.heap.size)) p.block = true := fun p hp => by simpa using hlt p hp
  refine ⟨ds, gs, before, [], pa, pv, hW, hres _ _ _, hargs _ hold, hvars _ hold, World.keptBut_mono (fun p hp => ⟨hp, ?_⟩) (hb.frame (· ∈ before)), fun _ => ?_⟩
  · rw [hps, List.mem_append] at hp
    exact Or.inr hp
  · obtain ⟨_, _, _, _, _, hz, hn⟩ := hW
    refine ⟨hok, _, _, ([] ++ pa) ++ pv, ⟨[] ++ pa, pv, trodAll_append (hargs _ (fun _ _ => rfl)) (hres _ _ _), hvars _ (fun _ _ => rfl), rfl, ?_, ?_⟩, ?_⟩
    · intro b off hp
      have hin : MemPlace.cell b off ∈ before := by rw [hps]; simpa using hp
      rw [hb.frozen (hlt _ hin)]
      exact hz b off hin
    · intro ha
      have := hn ha
      rw [hps] at this
      simpa using this
    · intro p hp _
      rw [hps]
      simpa using hp
end

theorem Tryz.own : ownKnob Tryz.prog.godebug = none := by kernel_rfl
theorem u64_bd {n : Int} (h : (Lit.int .u64 n).wf = true) : 0 ≤ n ∧ n < 18446744073709551616 := by
  simp [Lit.wf, IntKind.min, IntKind.max, IntKind.bits, IntKind.signed] at h
  omega
end Go.Proofs.YtpfilldnfpcpkaaGreatDoor

namespace Go.Proofs.YtpfilldnfpcpkaaGreatDoor
open Go.RowKit

def listA : List (String × DataW Unit) := [("math/bits.deBruijn32tab", Rows.laid_math_bits_deBruijn32tab), ("math/bits.deBruijn64tab", Rows.laid_math_bits_deBruijn64tab), ("internal/strconv.uint64pow10", Rows.laid_internal_strconv_uint64pow10), ("unicode/utf8.acceptRanges", Rows.laid_unicode_utf8_acceptRanges), ("strconv.ErrRange", Rows.laid_strconv_ErrRange), ("strconv.ErrSyntax", Rows.laid_strconv_ErrSyntax), ("unicode/utf8.first", Rows.laid_unicode_utf8_first)]
theorem doorA_met (os : Os) (args : Array Value) : laidMetH Tryz.prog listA ((World.laidAll Tryz.prog os listA).forCall (fun _ _ => 0) ⟨#[], args, []⟩).memory := by
  rw [MakeChecks.laidMetH_plain _ _ _ (by kernel_rfl)]; exact laidMet_laidAll _ (by kernel_rfl) (by kernel_rfl)
def tabZ : List Int := Lib.deBruijn64tab.map Int.ofNat
theorem listA_tab : (Rows.laid_math_bits_deBruijn64tab : DataW Unit) = Lib.tabData .u8 tabZ := by kernel_rfl
theorem listA_pow : (Rows.laid_internal_strconv_uint64pow10 : DataW Unit) = Lib.tabData .u64 Lib.pow10Tab := by kernel_rfl
theorem err_star : "*" ++ "errors.errorString" = "*errors.errorString" := by decide
theorem err_name (u : TypeId) (h : Tryz.prog.typeName? 3 u = some "*errors.errorString") : u = 233 :=
  typeName_ptr_named (nm := "errors.errorString") (by rw [err_star]; kernel_rfl) (by kernel_rfl) (by decide) u (by rw [err_star]; exact h)
theorem glob_of {W : World} (h : laidMetH Tryz.prog listA W) (hs : W.ShapedOpen Tryz.prog) : Glob W := by
  rw [MakeChecks.laidMetH_plain _ _ _ (by kernel_rfl)] at h
  unfold listA at h
  have h2 := h.tail
  have h3 := h2.tail
  have h5 := h3.tail.tail
  have h6 := h5.tail
  rw [listA_tab] at h2
  rw [listA_pow] at h3
  refine ⟨?_, ?_, ?_, ?_, ?_⟩
  · exact cell_of_shapedOpen_int (g := 1) (t := 3) (zero := #[.int .i64 0]) hs (of_decide_eq_true (by kernel_rfl)) (by kernel_rfl) rfl (by kernel_rfl) (by kernel_rfl) Tryz.underlying3
  · obtain ⟨a, s, hv, _⟩ := laid_sentinel h6 (g := 2) (by kernel_rfl) (by kernel_rfl) Tryz.underlying144 err_name Tryz.underlying233 Tryz.underlying235 rfl rfl Tryz.underlying9 (by kernel_rfl) (by kernel_rfl)
    exact ⟨_, _, hv⟩
  · obtain ⟨a, s, hv, _⟩ := laid_sentinel h5 (g := 3) (by kernel_rfl) (by kernel_rfl) Tryz.underlying144 err_name Tryz.underlying233 Tryz.underlying235 rfl rfl Tryz.underlying9 (by kernel_rfl) (by kernel_rfl)
    exact ⟨_, _, hv⟩
  · exact Lib.tabIs_of_head (P := Tryz.prog) (g := 4) (t := 237) (e := 22) (n := 20) (by kernel_rfl) (by kernel_rfl) Tryz.underlying237 Tryz.underlying22 (by kernel_rfl) (by kernel_rfl) h3
  · have hT := Lib.tabIs_of_head (P := Tryz.prog) (g := 0) (t := 216) (e := 5) (n := 64) (by kernel_rfl) (by kernel_rfl) Tryz.underlying216 Tryz.underlying5 (by kernel_rfl) (by kernel_rfl) h2
    intro j hj
    have hc := hT.cell (g := 0) (by kernel_rfl) j (by unfold tabZ; rw [List.length_map, show Lib.deBruijn64tab.length = 64 by decide]; exact hj)
    rw [hc]
    have e : tabZ.getD j 0 = ((Lib.deBruijn64tab.getD j 0 : Nat) : Int) := by
      unfold tabZ
      simp only [List.getD_eq_getElem?_getD, List.getElem?_map]
      cases Lib.deBruijn64tab[j]? <;> rfl
    rw [e]
/-- the plain wrap with the row's condition and the start's shape -/
theorem lift_shaped {H : Type} {enc : TypeId × Value → H} {C : Checked} {os : Os} {f : FuncId} {fn : Func} {s : ChangeSpec} {X : World → Array Value → Prop}
    (hX : ∀ (w w' : World) (args : Array Value), w.heap = w'.heap → X w args → X w' args)
    (own : ownKnob C.prog.godebug = none) (started : os.Started) (noInit : C.prog.inits.idxOf? f = none) (hfn : C.prog.funcs[f]? = some fn)
    (witness : ∃ (w : World) (tape : Tape) (i : Input), w.os = os ∧ (w.forCall tape i).Shaped C.prog ∧ i.vars = [] ∧ Input.okWide C.prog (w.forCall tape i) .any w.heap.size f i ∧
      ((s.pre enc C.prog fn [] false (w.forCall tape i).memory i.args ∧ X (w.forCall tape i).memory i.args) ∧ sizedMet enc C.prog fn (OpenSpec.ofChange s) false (w.forCall tape i).memory i.args) ∧ ({} : Assume).holds C.prog (lone (Frame.enter C.prog f i.args .normal) [] (w.forCall tape i)))
    (contract : ∀ (W : World) (base : Nat) (args : Array Value) (ds gs : List (DataW H)) (before : List MemPlace),
      (∀ (j : Nat) t v, fn.params[j]? = some t → args[j]? = some v → Value.okWide C.prog W .any base t v) →
      DataW.Whole enc C.prog fn.params.toList s.vars false W args.toList ds gs before → X W args → W.ShapedOpen C.prog →
      Calls C.prog f args W fun e W' => ∃ v, e = .returned v ∧ s.post enc C.prog fn false true false false W args v W') :
    ReturnsInHanded {} C os f .any (fun w args => (s.pre enc C.prog fn [] false w args ∧ X w args) ∧ sizedMet enc C.prog fn (OpenSpec.ofChange s) false w args) (s.post enc C.prog fn false true false false) := by
  refine returnsInHanded_of_calls own started noInit witness ?_
  intro w tape i _ hshape _ hok hpre _
  obtain ⟨_, _, _, fn2, hfn2, _, _, _, _, hval⟩ := hok
  obtain rfl : fn2 = fn := Option.some.inj (hfn2.symm.trans hfn)
  obtain ⟨⟨⟨ds, gs, before, hw, _⟩, hx⟩, _⟩ := hpre
  refine (contract (w.forCall tape i) w.heap.size i.args ds gs before hval (DataW.Whole.of_heap (w' := w.forCall tape i) (by rfl) hw) (hX _ _ _ (by rfl) hx) hshape).mono fun e W' ⟨v, he, hp⟩ => ?_
  subst he
  exact ChangeSpec.post_blind hp
end Go.Proofs.YtpfilldnfpcpkaaGreatDoor

namespace Go.Proofs.YtpfilldnfpcpkaaGreatDoor
open Go.ChangeShapes Go.WideShapes Go.ChangeAt Go.RowKit Go.Joins

theorem Tryz.cellsNum : Tryz.prog.cellsOf 24 = 2 := by kernel_rfl

end Go.Proofs.YtpfilldnfpcpkaaGreatDoor

namespace Go.Proofs.YtpfilldnfpcpkaaGreatDoor
open Go.ChangeShapes Go.WideShapes Go.ChangeAt Go.RowKit Go.Joins

set_option maxRecDepth 100000 in
theorem Tryz.cellsAddr : Tryz.prog.cellsOf 26 = 3 := by kernel_rfl
def numD {H : Type} (n : Nat) : DataW H := .agg [.lit (.int .u64 (hi n)), .lit (.int .u64 (lo n))]
def addrD {H : Type} (v : Bool) (n : Nat) : DataW H := .agg [.lit (.bool v), numD n]
/-- the number's words are in their bounds -/
def numOk (n : Nat) : Prop := (Lit.int .u64 (hi n)).wf = true ∧ (Lit.int .u64 (lo n)).wf = true

set_option maxRecDepth 100000 in
theorem trod_bool_form {H : Type} {enc : TypeId × Value → H} {P : Program} {w : World} {base : Nat} {sp : Nat → Bool} {held : Bool} {fuel : Nat} {t : TypeId} {c : Value} {x : DataW H × List MemPlace} (ht : P.underlying t = some .bool)
    (h : DataW.trod enc P w base sp held fuel t [c] = some x) : ∃ b, c = .bool b ∧ x = (.lit (.bool b), []) := by
  cases fuel with
  | zero => simp [DataW.trod] at h
  | succ fuel =>
    simp only [DataW.trod, ht] at h
    split at h
    · rename_i e1 e2
      simp at e2
      subst e2
      exact ⟨_, rfl, (Option.some.inj h).symm⟩
    all_goals first | (rename_i e1 _; cases e1; done) | (cases h; done) | skip
    all_goals simp_all
set_option maxRecDepth 100000 in
theorem trod_num_form {H : Type} {enc : TypeId × Value → H} {W : World} {base : Nat} {sp : Nat → Bool} {held : Bool} {fuel : Nat} {c0 c1 : Value} {x : DataW H × List MemPlace}
    (h : DataW.trod enc Tryz.prog W base sp held fuel 24 [c0, c1] = some x) : ∃ n : Nat, n < 340282366920938463463374607431768211456 ∧ c0 = .int .u64 (hi n) ∧ c1 = .int .u64 (lo n) ∧ x = (numD n, []) ∧ numOk n := by
  obtain ⟨y0, y1, m, rfl, _, h0, h1⟩ := trod_struct2 Tryz.underlying24 h
  have h0' : DataW.trod enc Tryz.prog W base sp held m 22 [c0] = some y0 := h0
  have h1' : DataW.trod enc Tryz.prog W base sp held m 22 [c1] = some y1 := h1
  obtain ⟨a, e0, rfl, wa⟩ := DataW.trod_int Tryz.underlying22 h0'
  obtain ⟨b, e1, rfl, wb⟩ := DataW.trod_int Tryz.underlying22 h1'
  simp at e0 e1
  subst e0 e1
  obtain ⟨a0, a1⟩ := u64_bd wa
  obtain ⟨b0', b1⟩ := u64_bd wb
  refine ⟨num a b, num_lt a1 b1, ?_, ?_, ?_, ?_, ?_⟩
  · rw [hi_num a0 a1 b0' b1]
  · rw [lo_num b0' b1]
  · unfold numD; rw [hi_num a0 a1 b0' b1, lo_num b0' b1]; rfl
  · rw [hi_num a0 a1 b0' b1]; exact wa
  · rw [lo_num b0' b1]; exact wb
set_option maxRecDepth 100000 in
theorem trod_num_mk {H : Type} {enc : TypeId × Value → H} {W : World} {base : Nat} {sp : Nat → Bool} {held : Bool} {n : Nat} (h : numOk n) : DataW.trod enc Tryz.prog W base sp held 2 24 [.int .u64 (hi n), .int .u64 (lo n)] = some (numD n, []) := by
  obtain ⟨wa, wb⟩ := h
  have := trod_struct2_mk (enc := enc) (w := W) (base := base) (spare := sp) (held := held) (n := 1) (cs := [.int .u64 (hi n), .int .u64 (lo n)]) (y0 := (.lit (.int .u64 (hi n)), [])) (y1 := (.lit (.int .u64 (lo n)), [])) Tryz.underlying24 Tryz.cellsNum.symm
    (by show DataW.trod enc Tryz.prog W base sp held 1 22 [.int .u64 (hi n)] = _; simp [DataW.trod, Tryz.underlying22, wa])
    (by show DataW.trod enc Tryz.prog W base sp held 1 22 [.int .u64 (lo n)] = _; simp [DataW.trod, Tryz.underlying22, wb])
  exact this
set_option maxRecDepth 100000 in
theorem trod_addr_form {H : Type} {enc : TypeId × Value → H} {W : World} {base : Nat} {sp : Nat → Bool} {held : Bool} {fuel : Nat} {c0 c1 c2 : Value} {x : DataW H × List MemPlace}
    (h : DataW.trod enc Tryz.prog W base sp held fuel 26 [c0, c1, c2] = some x) : ∃ (v : Bool) (n : Nat), n < 340282366920938463463374607431768211456 ∧ c0 = .bool v ∧ c1 = .int .u64 (hi n) ∧ c2 = .int .u64 (lo n) ∧ x = (addrD v n, []) ∧ numOk n := by
  obtain ⟨y0, y1, m, rfl, _, h0, h1⟩ := trod_struct2 Tryz.underlying26 h
  have h0' : DataW.trod enc Tryz.prog W base sp held m 4 [c0] = some y0 := h0
  have h1' : DataW.trod enc Tryz.prog W base sp held m 24 [c1, c2] = some y1 := h1
  obtain ⟨v, rfl, rfl⟩ := trod_bool_form Tryz.underlying4 h0'
  obtain ⟨n, hn, rfl, rfl, rfl, ho⟩ := trod_num_form h1'
  exact ⟨v, n, hn, rfl, rfl, rfl, rfl, ho⟩
set_option maxRecDepth 100000 in
theorem trod_addr_mk {H : Type} {enc : TypeId × Value → H} {W : World} {base : Nat} {sp : Nat → Bool} {held : Bool} {v : Bool} {n : Nat} (h : numOk n) : DataW.trod enc Tryz.prog W base sp held 3 26 [.bool v, .int .u64 (hi n), .int .u64 (lo n)] = some (addrD v n, []) := by
  have := trod_struct2_mk (enc := enc) (w := W) (base := base) (spare := sp) (held := held) (n := 2) (cs := [.bool v, .int .u64 (hi n), .int .u64 (lo n)]) (y0 := (.lit (.bool v), [])) (y1 := (numD n, [])) Tryz.underlying26 Tryz.cellsAddr.symm
    (by show DataW.trod enc Tryz.prog W base sp held 2 4 [.bool v] = _; simp [DataW.trod, Tryz.underlying4])
    (trod_num_mk h)
  exact this
end Go.Proofs.YtpfilldnfpcpkaaGreatDoor

namespace Go.Proofs.YtpfilldnfpcpkaaGreatDoor
open Go.ChangeShapes Go.WideShapes Go.ChangeAt Go.RowKit Go.Joins

set_option maxRecDepth 100000 in
theorem Tryz.cellsPfx : Tryz.prog.cellsOf 28 = 4 := by kernel_rfl
def pfxD {H : Type} (v : Bool) (n : Nat) (b : Int) : DataW H := .agg [addrD v n, .lit (.int .i64 b)]
def pfxOk (n : Nat) (b : Int) : Prop := numOk n ∧ (Lit.int .i64 b).wf = true
set_option maxRecDepth 100000 in
theorem trod_pfx_form {H : Type} {enc : TypeId × Value → H} {W : World} {base : Nat} {sp : Nat → Bool} {held : Bool} {fuel : Nat} {c0 c1 c2 c3 : Value} {x : DataW H × List MemPlace}
    (h : DataW.trod enc Tryz.prog W base sp held fuel 28 [c0, c1, c2, c3] = some x) : ∃ (v : Bool) (n : Nat) (b : Int), n < 340282366920938463463374607431768211456 ∧ c0 = .bool v ∧ c1 = .int .u64 (hi n) ∧ c2 = .int .u64 (lo n) ∧ c3 = .int .i64 b ∧ x = (pfxD v n b, []) ∧ pfxOk n b := by
  obtain ⟨y0, y1, m, rfl, _, h0, h1⟩ := trod_struct2 Tryz.underlying28 h
  have h0' : DataW.trod enc Tryz.prog W base sp held m 26 [c0, c1, c2] = some y0 := h0
  have h1' : DataW.trod enc Tryz.prog W base sp held m 3 [c3] = some y1 := h1
  obtain ⟨v, n, hn, rfl, rfl, rfl, rfl, ho⟩ := trod_addr_form h0'
  obtain ⟨b, e1, rfl, wb⟩ := DataW.trod_int Tryz.underlying3 h1'
  simp at e1
  subst e1
  exact ⟨v, n, b, hn, rfl, rfl, rfl, rfl, rfl, ho, wb⟩
set_option maxRecDepth 100000 in
theorem trod_pfx_mk {H : Type} {enc : TypeId × Value → H} {W : World} {base : Nat} {sp : Nat → Bool} {held : Bool} {v : Bool} {n : Nat} {b : Int} (h : pfxOk n b) : DataW.trod enc Tryz.prog W base sp held 4 28 [.bool v, .int .u64 (hi n), .int .u64 (lo n), .int .i64 b] = some (pfxD v n b, []) := by
  have wb := h.2
  have := trod_struct2_mk (enc := enc) (w := W) (base := base) (spare := sp) (held := held) (n := 3) (cs := [.bool v, .int .u64 (hi n), .int .u64 (lo n), .int .i64 b]) (y0 := (addrD v n, [])) (y1 := (.lit (.int .i64 b), [])) Tryz.underlying28 Tryz.cellsPfx.symm
    (trod_addr_mk h.1)
    (by show DataW.trod enc Tryz.prog W base sp held 3 3 [.int .i64 b] = _; simp [DataW.trod, Tryz.underlying3, wb])
  exact this
theorem arr4 {α : Type} {cs : Array α} (h : cs.size = 4) : ∃ c0 c1 c2 c3, cs = #[c0, c1, c2, c3] := by
  rcases cs with ⟨l⟩
  match l, h with
  | [a, b, c, d], _ => exact ⟨a, b, c, d, rfl⟩
set_option maxRecDepth 100000 in
/-- a prefix as an argument -/
theorem open_pfx {H : Type} {enc : TypeId × Value → H} {W : World} {base b0 : Nat} {sp : Nat → Bool} {v : Value} {d : DataW H} {p : List MemPlace} {r : Reach}
    (hv : Value.okWide Tryz.prog W r b0 28 v) (h : DataW.Trod enc Tryz.prog W base sp true 28 v d p) :
    ∃ (u : Bool) (n : Nat) (b : Int), n < 340282366920938463463374607431768211456 ∧ (Lit.int .i64 b).wf = true ∧ v = PfxV u n b ∧ d = pfxD u n b ∧ p = [] ∧ pfxOk n b := by
  obtain ⟨cs, rfl, hsz⟩ := okWide_struct Tryz.underlying28 hv
  obtain ⟨c0, c1, c2, c3, rfl⟩ := arr4 (hsz.trans Tryz.cellsPfx)
  obtain ⟨fuel, hf⟩ := h
  obtain ⟨u, n, b, hn, rfl, rfl, rfl, rfl, e, ho⟩ := trod_pfx_form hf
  simp only [Prod.mk.injEq] at e
  exact ⟨u, n, b, hn, ho.2, rfl, e.1, e.2, ho⟩
set_option maxRecDepth 100000 in
theorem shut_pfx {H : Type} {enc : TypeId × Value → H} {W : World} {base : Nat} {sp : Nat → Bool} {u : Bool} {n : Nat} {b : Int} (h : pfxOk n b) :
    DataW.Trod enc Tryz.prog W base sp true 28 (PfxV u n b) (pfxD u n b) [] := ⟨4, trod_pfx_mk h⟩
end Go.Proofs.YtpfilldnfpcpkaaGreatDoor

namespace Go.Proofs.YtpfilldnfpcpkaaGreatDoor
open Go.ChangeShapes Go.WideShapes Go.ChangeAt Go.RowKit
open Go.ChangeMaps (open_string shut_string)

set_option maxRecDepth 100000 in
theorem poolGreat_lifted (os : Os) (started : os.Started) (H : Type) (enc : TypeId × Value → H) :
    ReturnsInHanded {} Tryz.checked os 7 .any (fun w args => (Rows.poolGreatSpec.pre enc Tryz.prog Tryz.f7 [] false w args ∧ laidMetH Tryz.prog listA w) ∧ sizedMet enc Tryz.prog Tryz.f7 (OpenSpec.ofChange Rows.poolGreatSpec) false w args)
      (Rows.poolGreatSpec.post enc Tryz.prog Tryz.f7 false true false false) := by
  refine lift_shaped (C := Tryz.checked) (X := fun w _ => laidMetH Tryz.prog listA w) (fun _ _ _ hh h => h.of_heap hh) Tryz.own started (by kernel_rfl) Tryz.func7
    (ChangeSpec.witness_shaped (enc := enc) (C := Tryz.checked) (os := os) (X := fun w _ => laidMetH Tryz.prog listA w) false (World.laidAll Tryz.prog os listA) #[.agg #[.bool false, .int .u64 0, .int .u64 0, .int .i64 0], .int .i64 0] 8 (World.laidAll_os _ _ _) (World.shaped_of_ZipB (by kernel_rfl) (by kernel_rfl)) (by kernel_rfl) (by kernel_rfl) (by kernel_rfl) (doorA_met os _)) ?_
  intro W base args ds gs before hval0 hW hL hSh
  have hval : ∀ (j : Nat) t v, Tryz.f7.params[j]? = some t → args[j]? = some v → Value.okWide Tryz.prog W .any base t v := hval0
  have hW' := hW
  obtain ⟨p, q, hA0, hV, rfl, _, _⟩ := hW
  have hA : DataW.TrodAll enc Tryz.prog W 0 (fun _ => true) true Tryz.f7.params.toList args.toList ds p := hA0
  rw [Tryz.params7] at hA hval
  obtain ⟨v0, v1, d0, d1, p0, p1, rfl, rfl, rfl, h0, h1⟩ := trodAll_two hA
  obtain ⟨rfl, rfl⟩ := trodVars_none hV
  obtain ⟨u0, x0, b0, hx0, hb0, rfl, rfl, rfl, ho0⟩ := open_pfx (hval 0 28 v0 rfl rfl) h0
  obtain ⟨x1, rfl, rfl, rfl, wx1⟩ := open_int Tryz.underlying3 (hval 1 3 v1 rfl rfl) h1
  clear hA0 hval0
  simp only [List.append_nil] at hW'
  refine (poolGreat_walk u0 x0 b0 x1 W hx0 hb0 (glob_of hL hSh)).mono fun e W' ⟨he, hw⟩ => ?_
  subst he
  exact ⟨_, rfl, post_below (pa := []) (pv := []) hW' (fun _ _ _ => trodAll_mk1 (shut_bool Tryz.underlying4 _)) (fun sp _ => trodAll_mk2 (shut_pfx ho0) (shut_int Tryz.underlying3 wx1)) (fun _ _ => rfl) rfl
    hw (ok_one (by kernel_rfl) rfl (okWide_bool_mk Tryz.underlying4 _))⟩

theorem poolGreat_row : Rows.PoolGreatSaid :=
  OpenClaim.holds_of_wide 7 Tryz.f7 rfl rfl rfl rfl rfl rfl rfl ⟨rfl, rfl, rfl, rfl, rfl⟩ rfl rfl rfl rfl rfl (by kernel_rfl) Tryz.func7 (by kernel_rfl)
    (of_decide_eq_true (by kernel_rfl)) (by unfold Func.isWrapper; first | (rw [if_pos (by decide +kernel)]; kernel_rfl) | (rw [if_neg (by decide +kernel)]; exact ⟨rfl, rfl⟩))
    (fun os started H enc _ => poolGreat_lifted os started H enc)

theorem poolGreat_card : Rows.PoolGreatCardSaid :=
  Claim7.holds_tied_plain_at .later [] [.data, .data, .data, .data, .sentinel, .sentinel, .pinned] true Rows.poolGreatCard.stood.harness true
    poolGreat_row (fun _ h => by cases h) (by kernel_rfl) (fun _ h => by cases h) poolGreat_row_tie rfl ⟨rfl, rfl⟩ (by kernel_rfl) rfl
    (fun f fn hf hfn => by
      obtain rfl : f = 7 := Option.some.inj ((show Tryz.prog.funcNamed "platbook/platbooklaw06.PoolGreat" = some 7 by kernel_rfl).symm.trans hf) |>.symm
      obtain rfl : fn = Tryz.f7 := (Option.some.inj (Tryz.func7.symm.trans hfn)).symm
      exact ⟨by kernel_rfl, fun j t ht => by
        rw [Tryz.params7] at ht
        have hm : t ∈ [28, 3] := by simpa using Array.mem_of_getElem? ht
        have hall : ([28, 3].all fun u => !Tryz.prog.wantsStandIn u) = true := by kernel_rfl
        exact (show Tryz.prog.wantsStandIn t = false by simpa using List.all_eq_true.1 hall t hm)⟩)
    (by kernel_rfl)
end Go.Proofs.YtpfilldnfpcpkaaGreatDoor

#print axioms Go.Proofs.YtpfilldnfpcpkaaGreatDoor.poolGreat_card
