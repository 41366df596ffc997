/-
BlocksNil: a set of blocks that is not there gives nothing: for every prefix the call returns true. No condition; the listed variables are tied to the program's text.
-/
import Derived.ProofKit
import Derived.ChangeSame
import Derived.LaidMore
import Derived.Lay
import Derived.MakeChecks
import Derived.LaidByTextLater
import Derived.OpenShut
import Derived.Stop.Joined
import Derived.Stop.LaidErr
import Derived.Handed
import Derived.Shelf.Vars
import Derived.Lib.SmallJoins
import Derived.Carry
import Derived.SevenTiedAt
import Derived.ShutString
import Derived.Test.YtpfilldnfpcpkaaGreatDoorBnlM3
import Derived.Test.YtpfilldnfpcpkaaGreatDoorRows
import Derived.Test.YtpfilldnfpcpkaaGreatDoorCards
import Derived.Test.YtpfilldnfpcpkaaGreatDoorTie
set_option linter.unusedVariables false
set_option linter.unusedSimpArgs false
namespace Go.Proofs.YtpfilldnfpcpkaaGreatDoor
open Go.RowKit

/-- in w the pool of a prefix lies at block q, its map at g, its words at c; f: which numbers are used, or kept -/
structure PoolAt (w : World) (q g c : Nat) (v : Bool) (n : Nat) (b : Int) (f : Nat → Bool) : Prop where
  head : Blk w q 105 #[.bool v, .int .u64 (hi n), .int .u64 (lo n), .int .i64 b, .pointer (some ⟨g, 0, none⟩)]
  map : MapAt w g c (cntP (fr v b)) f
  right : rightP v n b = true
  big : 2 ≤ fr v b
theorem PoolAt.drew {w : World} {q g c : Nat} {v : Bool} {n : Nat} {b : Int} {f : Nat → Bool} (h : PoolAt w q g c v n b f) : PoolAt w.drew q g c v n b f := ⟨h.head.drew, h.map.drew, h.right, h.big⟩
theorem PoolAt.alloc {w : World} {q g c : Nat} {v : Bool} {n : Nat} {b : Int} {f : Nat → Bool} (h : PoolAt w q g c v n b f) (o : Obj) : PoolAt (w.alloc o) q g c v n b f := ⟨h.head.alloc o, h.map.alloc o, h.right, h.big⟩
theorem PoolAt.after {w w' : World} {q g c : Nat} {v : Bool} {n : Nat} {b : Int} {f : Nat → Bool} (h : PoolAt w q g c v n b f) (hb : Below w.heap.size w w') : PoolAt w' q g c v n b f := ⟨h.head.after hb, h.map.after hb, h.right, h.big⟩
theorem PoolAt.cells {w : World} {q g c : Nat} {v : Bool} {n : Nat} {b : Int} {f : Nat → Bool} (h : PoolAt w q g c v n b f) :
    w.cell? ⟨q, 0, none⟩ = some (.bool v) ∧ w.cell? ⟨q, 1, none⟩ = some (.int .u64 (hi n)) ∧ w.cell? ⟨q, 2, none⟩ = some (.int .u64 (lo n)) ∧ w.cell? ⟨q, 3, none⟩ = some (.int .i64 b) ∧ w.cell? ⟨q, 4, none⟩ = some (.pointer (some ⟨g, 0, none⟩)) :=
  ⟨(h.head.cell 0).trans rfl, (h.head.cell 1).trans rfl, (h.head.cell 2).trans rfl, (h.head.cell 3).trans rfl, (h.head.cell 4).trans rfl⟩
theorem PoolAt.ne {w : World} {q g c : Nat} {v : Bool} {n : Nat} {b : Int} {f : Nat → Bool} (h : PoolAt w q g c v n b f) : q ≠ c := h.head.ne h.map.row (by decide)
theorem PoolAt.put {w w' : World} {q g c : Nat} {v : Bool} {n : Nat} {b : Int} {f f' : Nat → Bool} (h : PoolAt w q g c v n b f) (hm : MapAt w' g c (cntP (fr v b)) f') (hg : w.grownBy w' (some c)) : PoolAt w' q g c v n b f' :=
  ⟨h.head.grown hg (some_ne h.ne), hm, h.right, h.big⟩
theorem PoolAt.lt {w : World} {q g c : Nat} {v : Bool} {n : Nat} {b : Int} {f : Nat → Bool} (h : PoolAt w q g c v n b f) : n < 340282366920938463463374607431768211456 := Nat.lt_of_lt_of_le (rightP_iff.1 h.right).1 (pow_w v)

end Go.Proofs.YtpfilldnfpcpkaaGreatDoor

namespace Go.Proofs.YtpfilldnfpcpkaaGreatDoor
open Go.RowKit

theorem MapAt.far {w : World} {g c n : Nat} {f : Nat → Bool} (h : MapAt w g c n f) {p : Addr} (h2 : g ≠ p.block) (h3 : c ≠ p.block) (u : Value) : MapAt (w.setCell p u) g c n f :=
  ⟨h.head.far h2 u, h.row.far h3 u, h.ne, h.small, h.top⟩
theorem PoolAt.far {w : World} {q g c : Nat} {v : Bool} {n : Nat} {b : Int} {f : Nat → Bool} (h : PoolAt w q g c v n b f) {p : Addr} (h1 : q ≠ p.block) (h2 : g ≠ p.block) (h3 : c ≠ p.block) (u : Value) : PoolAt (w.setCell p u) q g c v n b f :=
  ⟨h.head.far h1 u, h.map.far h2 h3 u, h.right, h.big⟩
end Go.Proofs.YtpfilldnfpcpkaaGreatDoor

namespace Go.Proofs.YtpfilldnfpcpkaaGreatDoor
open Go.RowKit Go.Proofs.YtpfilldnfpcpkaaGreatDoorW.PrintWords Go.Proofs.YtpfilldnfpcpkaaGreatDoor.PPo

/-- how many blocks a prefix has -/
def nB (b bits : Int) : Nat := 2 ^ (bits - b).toNat
/-- in w the set of blocks of a prefix lies at block q, its map at g, the words at c -/
structure SetAt (w : World) (q g c : Nat) (v : Bool) (n : Nat) (b bits : Int) (f : Nat → Bool) (cur : Nat) : Prop where
  head : Blk w q 129 #[.bool v, .int .u64 (hi n), .int .u64 (lo n), .int .i64 b, .int .i64 bits, .pointer (some ⟨g, 0, none⟩), .int .i64 cur]
  map : MapAt w g c (nB b bits) f
  cuts : cutsS v n b bits = true
  few : bits - b ≤ 16
  at_ : cur < nB b bits
theorem nB_le {b bits : Int} (h : bits - b ≤ 16) : nB b bits ≤ 65536 := Nat.pow_le_pow_right (n := 2) (i := (bits - b).toNat) (j := 16) (by decide) (by omega)
theorem nB_pos (b bits : Int) : 0 < nB b bits := Nat.two_pow_pos _
theorem SetAt.after {w w' : World} {q g c : Nat} {v : Bool} {n : Nat} {b bits : Int} {f : Nat → Bool} {cur : Nat} (h : SetAt w q g c v n b bits f cur) (hb : Below w.heap.size w w') : SetAt w' q g c v n b bits f cur := ⟨h.head.after hb, h.map.after hb, h.cuts, h.few, h.at_⟩
theorem set_cells {w : World} {q g c : Nat} {v : Bool} {n : Nat} {b bits : Int} {f : Nat → Bool} {cur : Nat} (h : SetAt w q g c v n b bits f cur) :
    w.cell? ⟨q, 0, none⟩ = some (.bool v) ∧ w.cell? ⟨q, 1, none⟩ = some (.int .u64 (hi n)) ∧ w.cell? ⟨q, 2, none⟩ = some (.int .u64 (lo n)) ∧ w.cell? ⟨q, 3, none⟩ = some (.int .i64 b) ∧ w.cell? ⟨q, 4, none⟩ = some (.int .i64 bits) ∧ w.cell? ⟨q, 5, none⟩ = some (.pointer (some ⟨g, 0, none⟩)) ∧ w.cell? ⟨q, 6, none⟩ = some (.int .i64 cur) :=
  ⟨(h.head.cell 0).trans rfl, (h.head.cell 1).trans rfl, (h.head.cell 2).trans rfl, (h.head.cell 3).trans rfl, (h.head.cell 4).trans rfl, (h.head.cell 5).trans rfl, (h.head.cell 6).trans rfl⟩
theorem SetAt.lt {w : World} {q g c : Nat} {v : Bool} {n : Nat} {b bits : Int} {f : Nat → Bool} {cur : Nat} (h : SetAt w q g c v n b bits f cur) : n < 340282366920938463463374607431768211456 := Nat.lt_of_lt_of_le (rightP_iff.1 (cutsS_iff.1 h.cuts).1).1 (pow_w v)
theorem SetAt.put {w w' : World} {q g c : Nat} {v : Bool} {n : Nat} {b bits : Int} {f f' : Nat → Bool} {cur : Nat} (h : SetAt w q g c v n b bits f cur) (hm : MapAt w' g c (nB b bits) f') (hg : w.grownBy w' (some c)) : SetAt w' q g c v n b bits f' cur :=
  ⟨h.head.grown hg (some_ne (h.head.ne h.map.row (by decide))), hm, h.cuts, h.few, h.at_⟩

theorem blocks_k (v : Bool) (n : Nat) (b bits : Int) (w : World) (hn : n < 340282366920938463463374607431768211456) :
    Calls Tryz.prog 95 #[.agg #[.bool v, .int .u64 (hi n), .int .u64 (lo n), .int .i64 b], .int .i64 bits] w fun e w' =>
      e = .returned (.tuple #[.agg #[.int .u64 (hi (blocksS v n b bits).1), .int .u64 (lo (blocksS v n b bits).1)], .bool (blocksS v n b bits).2.1, .int .i64 (blocksS v n b bits).2.2]) ∧ Below w.heap.size w w' :=
  carve_Blocks.calls v (hi n) (lo n) b bits _ _ _ _ w (blocks_f v n b bits hn)
theorem block_k (v : Bool) (n : Nat) (b bits : Int) (i : Nat) (w : World) (hc : cutsS v n b bits = true) (hi' : i < nB b bits) (h64 : i < 18446744073709551616) :
    Calls Tryz.prog 142 #[.agg #[.bool v, .int .u64 (hi n), .int .u64 (lo n), .int .i64 b], .int .i64 bits, .agg #[.int .u64 (hi i), .int .u64 (lo i)]] w fun e w' =>
      e = .returned (.tuple #[.agg #[.bool v, .int .u64 (hi (n + i * 2 ^ fr v bits)), .int .u64 (lo (n + i * 2 ^ fr v bits)), .int .i64 bits], .int .i64 0]) ∧ Below w.heap.size w w' := by
  have hn : n < 340282366920938463463374607431768211456 := Nat.lt_of_lt_of_le (rightP_iff.1 (cutsS_iff.1 hc).1).1 (pow_w v)
  have hbb := (cutsS_iff.1 hc).2.1
  have hl : (lenN i : Int) ≤ bits - b := by
    have := (lenN_iff i (bits - b).toNat).2 hi'
    omega
  obtain ⟨e, _⟩ := block_at hc hl
  have hf := block_f v n b bits i hn (by omega)
  rw [e] at hf
  exact carve_Block.calls v (hi n) (lo n) b bits (hi i) (lo i) _ _ _ _ _ w hf
theorem span_k (v : Bool) (n : Nat) (b bits : Int) (u : Bool) (m : Nat) (c : Int) (w : World) (hn : n < 340282366920938463463374607431768211456) (hm : m < 340282366920938463463374607431768211456) :
    Calls Tryz.prog 139 #[.agg #[.bool v, .int .u64 (hi n), .int .u64 (lo n), .int .i64 b], .int .i64 bits, .agg #[.bool u, .int .u64 (hi m), .int .u64 (lo m), .int .i64 c]] w fun e w' =>
      e = .returned (.tuple #[.agg #[.int .u64 (hi (spanS v n b bits u m c).1), .int .u64 (lo (spanS v n b bits u m c).1)], .agg #[.int .u64 (hi (spanS v n b bits u m c).2.1), .int .u64 (lo (spanS v n b bits u m c).2.1)], .int .i64 (spanS v n b bits u m c).2.2]) ∧ Below w.heap.size w w' :=
  carve_Span.calls 10 v (hi n) (lo n) b bits u (hi m) (lo m) c _ _ _ _ _ w (span_f 10 (by omega) v n b bits u m c hn hm)
set_option maxRecDepth 20000 in
set_option maxHeartbeats 1000000 in
theorem knew_c (v : Bool) (n : Nat) (b bits : Int) (w : World) (hc : cutsS v n b bits = true) (h16 : bits - b ≤ 16) :
    Calls Tryz.prog 37 #[.agg #[.bool v, .int .u64 (hi n), .int .u64 (lo n), .int .i64 b], .int .i64 bits] w fun e w' => ∃ q g c, e = .returned (.tuple #[.pointer (some ⟨q, 0, none⟩), .int .i64 0]) ∧
      SetAt w' q g c v n b bits (fun _ => false) 0 ∧ Below w.heap.size w w' ∧ w.heap.size ≤ q ∧ w.heap.size ≤ g ∧ w.heap.size ≤ c := by
  have hn : n < 340282366920938463463374607431768211456 := Nat.lt_of_lt_of_le (rightP_iff.1 (cutsS_iff.1 hc).1).1 (pow_w v)
  have H := Lib.hid (fun w => blocks_k v n b bits w hn)
  have hbb := (cutsS_iff.1 hc).2.1
  have hS : blocksS v n b bits = (nB b bits, true, 0) := by unfold blocksS; rw [if_pos hc, powS_small (by omega)]; rfl
  rw [hS] at H
  have hN := nB_le h16
  have hN0 := nB_pos b bits
  have hk64 : nB b bits < 18446744073709551616 := by omega
  have hwk : IntKind.i64.wrap ((nB b bits : Nat) : Int) = ((nB b bits : Nat) : Int) := by rw [IntKind.wrap_i64]; omega
  clear hS
  simp only at H
  go_enter Tryz.func37, Tryz.ntmps37
  go_wp2_with fail
  have hA : Blk (w.alloc (Obj.cells #[Value.bool v, Value.int IntKind.u64 (hi n), Value.int IntKind.u64 (lo n), Value.int IntKind.i64 b] 28)) w.heap.size 28 (PfxC v n b) := Blk.new _ _ _
  have hbel : Below w.heap.size w (w.alloc (Obj.cells #[Value.bool v, Value.int IntKind.u64 (hi n), Value.int IntKind.u64 (lo n), Value.int IntKind.i64 b] 28)) := bl_
  generalize w.alloc (Obj.cells #[Value.bool v, Value.int IntKind.u64 (hi n), Value.int IntKind.u64 (lo n), Value.int IntKind.i64 b] 28) = wz at *
  refine (H.out _).mono ?_
  rintro e w1 ⟨rfl, hb1⟩
  replace hA := hA.after hb1
  replace hbel := bl_trans hbel hb1
  clear hb1
  go_wp2_with fail
  refine (small_k (nB b bits) _ (by omega)).mono ?_
  rintro e w2 ⟨rfl, hb2⟩
  replace hA := (hA.alloc _).after hb2
  replace hbel := bl_trans (bl_alloc hbel _) hb2
  clear hb2
  rw [smallS_lt hk64]
  have d1 : decide (65536 < nB b bits) = false := decide_eq_false (by omega)
  go_wp2_with fail
  refine (new_c _ _ hN).mono ?_
  rintro e w3 ⟨rfl, hm, hb3⟩
  replace hA := hA.after hb3
  have hws := hbel.size
  replace hbel := bl_trans hbel hb3
  clear hb3
  obtain ⟨a0, a1, a2, a3, _⟩ := blk_pfx hA
  have hs3 := hbel.size
  go_wp2_with fail
  go_ret2
  exact ⟨w3.heap.size, w2.heap.size + 1, w2.heap.size, rfl, ⟨Blk.new _ _ _, hm.alloc _, hc, h16, hN0⟩, bl_alloc hbel _, hs3, by omega, hws⟩
end Go.Proofs.YtpfilldnfpcpkaaGreatDoor

namespace Go.Proofs.YtpfilldnfpcpkaaGreatDoor
open Go.RowKit

theorem blk_fill4 {w : World} {g : Nat} {t : TypeId} {u v z o x y k m : Value} (h : Blk w g t #[u, v, z, o]) : Blk ((((w.setCell ⟨g, 0, none⟩ x).setCell ⟨g, 1, none⟩ y).setCell ⟨g, 2, none⟩ k).setCell ⟨g, 3, none⟩ m) g t #[x, y, k, m] := (((h.put 0 x).put 1 y).put 2 k).put 3 m
set_option maxRecDepth 20000 in
set_option maxHeartbeats 1600000 in
theorem kblock_c (q g c : Nat) (v : Bool) (n : Nat) (b bits : Int) (f : Nat → Bool) (cur : Nat) (i : Nat) (w : World) (h : SetAt w q g c v n b bits f cur) (hi' : i < nB b bits) :
    Calls Tryz.prog 99 #[.pointer (some ⟨q, 0, none⟩), .int .i64 i] w fun e w' => e = .returned (.agg #[.bool v, .int .u64 (hi (n + i * 2 ^ fr v bits)), .int .u64 (lo (n + i * 2 ^ fr v bits)), .int .i64 bits]) ∧ Below w.heap.size w w' := by
  have hN2 := nB_le h.few
  have H1 := Lib.hid (fun w => block_k v n b bits i w h.cuts hi' (by omega))
  have H2 := Lib.hid (fun w => numof_k i w (by omega))
  have hw64 : IntKind.u64.wrap (i : Int) = (i : Int) := by show _ % 18446744073709551616 = _; omega
  generalize n + i * 2 ^ fr v bits = y at *
  go_enter Tryz.func99, Tryz.ntmps99
  go_wp2_with fail
  have hR : Blk (w.alloc (Obj.cells #[Value.bool false, Value.int IntKind.u64 0, Value.int IntKind.u64 0, Value.int IntKind.i64 0] 28)) w.heap.size 28 (PfxC false 0 0) := Blk.new _ _ _
  have hbel : Below w.heap.size w (w.alloc (Obj.cells #[Value.bool false, Value.int IntKind.u64 0, Value.int IntKind.u64 0, Value.int IntKind.i64 0] 28)) := bl_
  generalize w.alloc (Obj.cells #[Value.bool false, Value.int IntKind.u64 0, Value.int IntKind.u64 0, Value.int IntKind.i64 0] 28) = wz at *
  have hlt := hR.lt
  go_cut [5] from 7 (fun s5 wc => ∃ g5, s5 = .pointer (some ⟨g5, 0, none⟩) ∧ Blk wc g5 28 #[.bool v, .int .u64 (hi y), .int .u64 (lo y), .int .i64 bits] ∧ Blk wc w.heap.size 28 (PfxC false 0 0) ∧ w.heap.size < g5 ∧ Below w.heap.size w wc)
  case first =>
    go_region_held3 (fun w' => (w'.cell? ⟨q, 0, none⟩ = some (.bool v) ∧ w'.cell? ⟨q, 1, none⟩ = some (.int .u64 (hi n)) ∧ w'.cell? ⟨q, 2, none⟩ = some (.int .u64 (lo n)) ∧ w'.cell? ⟨q, 3, none⟩ = some (.int .i64 b) ∧ w'.cell? ⟨q, 4, none⟩ = some (.int .i64 bits) ∧ w'.cell? ⟨q, 5, none⟩ = some (.pointer (some ⟨g, 0, none⟩)) ∧ w'.cell? ⟨q, 6, none⟩ = some (.int .i64 cur)) ∧ Blk w' w.heap.size 28 (PfxC false 0 0) ∧ Below w.heap.size w w')
      (exact ⟨set_cells (h.after bl_), bk_, bl_⟩)
      (first
      | (go_at_call 126; refine (H2.out _).mono ?_; rintro e w3 ⟨rfl, hb3⟩; obtain ⟨hc3, hf3⟩ := bcell hb3; have hz3 := hb3.size; (try simp only [size_alloc', size_setCell', size_drew'] at hz3); (try have hy3 : wz.heap.size < w3.heap.size := by omega))
      | (go_at_call 142; refine (H1.out _).mono ?_; rintro e w4 ⟨rfl, hb4⟩; obtain ⟨hc4, hf4⟩ := bcell hb4; have hz4 := hb4.size; (try simp only [size_alloc', size_setCell', size_drew'] at hz4); (try have hy4 : wz.heap.size < w4.heap.size := by omega)))
    all_goals
      go_wp2_with fail
      go_meet
      case rel => exact ⟨_, rfl, (by first | with_reducible exact Blk.new _ _ _ | exact blk_fill4 (u := .bool false) (v := .int .u64 0) (z := .int .u64 0) (o := .int .i64 0) bk_), bk_, by omega, bl_⟩
  case rest =>
    obtain ⟨g5, rfl, hA, hR, h5, hbel⟩ := hcut
    have a0 := (hA.cell 0).trans rfl
    have a1 := (hA.cell 1).trans rfl
    have a2 := (hA.cell 2).trans rfl
    have a3 := (hA.cell 3).trans rfl
    simp only [List.getElem?_toArray, List.getElem?_cons_zero, List.getElem?_cons_succ] at a0 a1 a2 a3
    obtain ⟨r0, r1, r2, r3, _⟩ := blk_pfx hR
    have z0 := hR.frozen 0
    have z1 := hR.frozen 1
    have z2 := hR.frozen 2
    have z3 := hR.frozen 3
    go_wp2_with fail
    refine bodyPost_ret (v := .agg #[.bool v, .int .u64 (hi y), .int .u64 (lo y), .int .i64 bits]) (results_cell_row (t := 28) Tryz.results99 _ _ w.heap.size _ (0, 0) _ rfl ((((hR.put 0 _).put 1 _).put 2 _).put 3 _) Tryz.underlying28 rfl (by kernel_rfl)) rfl ⟨rfl, bl_⟩
theorem spanS_small (v : Bool) (n : Nat) (b bits : Int) (u : Bool) (m : Nat) (c : Int) (h16 : bits - b ≤ 16) : (spanS v n b bits u m c).1 < 65537 ∧ (spanS v n b bits u m c).2.1 < 65537 := by
  by_cases hc : cutsS v n b bits = true ∧ rightP u m c = true
  · by_cases ho : overlapS v n b u m c = true
    · obtain ⟨rfl, _, _⟩ := overlap_kind ho
      obtain ⟨_, _, s2, s3, _⟩ := span_between hc.1 ho
      have hN := nB_le h16
      have h1 := (lenN_iff (spanS u n b bits u m c).1 (bits - b).toNat).1 (by omega)
      have h2 := (lenN_iff (spanS u n b bits u m c).2.1 (bits - b).toNat).1 (by omega)
      unfold nB at hN
      omega
    · unfold spanS; rw [if_pos hc, if_neg ho]; decide
  · unfold spanS; rw [if_neg hc]; decide
theorem spanS_err (v : Bool) (n : Nat) (b bits : Int) (u : Bool) (m : Nat) (c : Int) (h : (spanS v n b bits u m c).2.2 ≠ 0) : (spanS v n b bits u m c).1 = 0 ∧ (spanS v n b bits u m c).2.1 = 0 := by
  by_cases hc : cutsS v n b bits = true ∧ rightP u m c = true
  · by_cases ho : overlapS v n b u m c = true
    · obtain ⟨rfl, _, _⟩ := overlap_kind ho
      exact absurd (span_between hc.1 ho).1 h
    · unfold spanS; rw [if_pos hc, if_neg ho]; exact ⟨rfl, rfl⟩
  · unfold spanS; rw [if_neg hc]; exact ⟨rfl, rfl⟩
set_option maxRecDepth 20000 in
set_option maxHeartbeats 1600000 in
theorem kspan_c (q g c : Nat) (v : Bool) (n : Nat) (b bits : Int) (f : Nat → Bool) (cur : Nat) (u : Bool) (m : Nat) (k : Int) (w : World) (h : SetAt w q g c v n b bits f cur) (hm : m < 340282366920938463463374607431768211456) :
    Calls Tryz.prog 97 #[.pointer (some ⟨q, 0, none⟩), .agg #[.bool u, .int .u64 (hi m), .int .u64 (lo m), .int .i64 k]] w fun e w' =>
      e = .returned (.tuple #[.int .i64 ((spanS v n b bits u m k).1 : Nat), .int .i64 ((spanS v n b bits u m k).2.1 : Nat), .int .i64 (spanS v n b bits u m k).2.2]) ∧ Below w.heap.size w w' := by
  have hn := h.lt
  have H := Lib.hid (fun w => span_k v n b bits u m k w hn hm)
  obtain ⟨hs1, hs2⟩ := spanS_small v n b bits u m k h.few
  have HE := Lib.hid (spanS_err v n b bits u m k)
  generalize (spanS v n b bits u m k).1 = A at *
  generalize (spanS v n b bits u m k).2.1 = B at *
  generalize (spanS v n b bits u m k).2.2 = E at *
  go_enter Tryz.func97, Tryz.ntmps97
  go_wp2_with fail
  have hA : Blk (w.alloc (Obj.cells #[Value.bool u, Value.int IntKind.u64 (hi m), Value.int IntKind.u64 (lo m), Value.int IntKind.i64 k] 28)) w.heap.size 28 (PfxC u m k) := Blk.new _ _ _
  have hbel : Below w.heap.size w (w.alloc (Obj.cells #[Value.bool u, Value.int IntKind.u64 (hi m), Value.int IntKind.u64 (lo m), Value.int IntKind.i64 k] 28)) := bl_
  generalize w.alloc (Obj.cells #[Value.bool u, Value.int IntKind.u64 (hi m), Value.int IntKind.u64 (lo m), Value.int IntKind.i64 k] 28) = wz at *
  have hlt := hA.lt
  go_cut [7, 8, 9] from 16 (fun s7 s8 s9 wc => ∃ g7 g8, s7 = .pointer (some ⟨g7, 0, none⟩) ∧ s8 = .pointer (some ⟨g8, 0, none⟩) ∧ s9 = .int .i64 E ∧ Blk wc g7 24 #[.int .u64 (hi A), .int .u64 (lo A)] ∧ Blk wc g8 24 #[.int .u64 (hi B), .int .u64 (lo B)] ∧ Below w.heap.size w wc)
  case first =>
    go_region_held3 (fun w' => (w'.cell? ⟨w.heap.size, 0, none⟩ = some (.bool u) ∧ w'.cell? ⟨w.heap.size, 1, none⟩ = some (.int .u64 (hi m)) ∧ w'.cell? ⟨w.heap.size, 2, none⟩ = some (.int .u64 (lo m)) ∧ w'.cell? ⟨w.heap.size, 3, none⟩ = some (.int .i64 k) ∧ Blk w' w.heap.size 28 (PfxC u m k)) ∧ (w'.cell? ⟨q, 0, none⟩ = some (.bool v) ∧ w'.cell? ⟨q, 1, none⟩ = some (.int .u64 (hi n)) ∧ w'.cell? ⟨q, 2, none⟩ = some (.int .u64 (lo n)) ∧ w'.cell? ⟨q, 3, none⟩ = some (.int .i64 b) ∧ w'.cell? ⟨q, 4, none⟩ = some (.int .i64 bits) ∧ w'.cell? ⟨q, 5, none⟩ = some (.pointer (some ⟨g, 0, none⟩)) ∧ w'.cell? ⟨q, 6, none⟩ = some (.int .i64 cur)) ∧ Below w.heap.size w w')
      (exact ⟨blk_pfx bk_, set_cells (h.after bl_), bl_⟩)
      (first
      | (go_at_call 139; refine (H.out _).mono ?_; rintro e w3 ⟨rfl, hb3⟩; obtain ⟨hc3, hf3⟩ := bcell hb3; have hz3 := hb3.size; (try simp only [size_alloc', size_setCell', size_drew'] at hz3); (try have hy3 : wz.heap.size < w3.heap.size := by omega); (try have hy4 : wz.heap.size + 1 < w3.heap.size := by omega); (try have hq1 : Blk w3 wz.heap.size 24 #[.int .u64 0, .int .u64 0] := (((Blk.new wz 24 #[.int .u64 0, .int .u64 0]).alloc _).drew).after hb3); (try have hq1 : Blk w3 wz.heap.size 24 #[.int .u64 0, .int .u64 0] := ((Blk.new wz 24 #[.int .u64 0, .int .u64 0]).drew).after hb3); (try have hq2 : Blk w3 (wz.heap.size + 1) 24 #[.int .u64 0, .int .u64 0] := by (refine (Blk.new' (wz.alloc (.cells #[.int .u64 0, .int .u64 0] 24)) 24 #[.int .u64 0, .int .u64 0] (wz.heap.size + 1) ?_).drew.after hb3; simp; done))))
    all_goals
      go_wp2_with fail
      go_meet
      case rel =>
        refine ⟨_, _, rfl, rfl, rfl, ?_, ?_, bl_⟩
        all_goals
          first
          | (with_reducible exact (Blk.new _ _ _).alloc _)
          | (with_reducible exact (blk_fill hq1).alloc _)
          | (with_reducible exact ((blk_fill hq1).far (Nat.ne_of_lt (Nat.lt_succ_self _)) _).far (Nat.ne_of_lt (Nat.lt_succ_self _)) _)
          | (with_reducible exact ((blk_fill hq2).far (Nat.ne_of_gt (Nat.lt_succ_self _)) _).far (Nat.ne_of_gt (Nat.lt_succ_self _)) _)
          | (with_reducible exact blk_fill ((hq2.far (Nat.ne_of_gt (Nat.lt_succ_self _)) _).far (Nat.ne_of_gt (Nat.lt_succ_self _)) _))
          | (with_reducible exact blk_fill ((hq1.far (Nat.ne_of_lt (Nat.lt_succ_self _)) _).far (Nat.ne_of_lt (Nat.lt_succ_self _)) _))
          | (with_reducible refine Blk.new' _ _ _ _ ?_; simp; done)
  case rest =>
    obtain ⟨g7, g8, rfl, rfl, rfl, hP, hQ, hbel⟩ := hcut
    obtain ⟨n0, n1, _⟩ := blk_two hP
    obtain ⟨m0, m1, _⟩ := blk_two hQ
    by_cases hE : E = 0
    · subst hE
      have hA64 : A < 18446744073709551616 := by omega
      have hB64 : B < 18446744073709551616 := by omega
      go_wp2_with fail
      refine (small_k A _ (by omega)).mono ?_
      rintro e w4 ⟨rfl, hb4⟩
      replace hbel := bl_trans hbel hb4
      replace hQ := hQ.after hb4
      clear hb4 n0 n1 m0 m1 hP
      rw [smallS_lt hA64]
      obtain ⟨m0, m1, _⟩ := blk_two hQ
      go_wp2_with fail
      refine (small_k B _ (by omega)).mono ?_
      rintro e w5 ⟨rfl, hb5⟩
      replace hbel := bl_trans hbel hb5
      clear hb5 m0 m1 hQ
      rw [smallS_lt hB64]
      have hwA : wrap64 (A : Int) = (A : Int) := by unfold wrap64; omega
      have hwB : wrap64 (B : Int) = (B : Int) := by unfold wrap64; omega
      go_wp2_with fail
      go_ret3
      exact ⟨rfl, hbel⟩
    · have d0 : (E == 0) = false := by simpa using hE
      obtain ⟨e1, e2⟩ := HE.out hE
      subst e1 e2
      clear hE HE n0 n1 m0 m1
      go_wp2_with fail
      go_ret3
      exact ⟨rfl, hbel⟩
end Go.Proofs.YtpfilldnfpcpkaaGreatDoor

namespace Go.Proofs.YtpfilldnfpcpkaaGreatDoor
open Go.RowKit

def notF (f : Nat → Bool) : Nat → Bool := fun x => !f x
set_option maxRecDepth 20000 in
set_option maxHeartbeats 1000000 in
theorem kfill_c (q g c : Nat) (v : Bool) (n : Nat) (b bits : Int) (f : Nat → Bool) (cur : Nat) (m : Nat) (k : Int) (w : World) (h : SetAt w q g c v n b bits f cur) (hm : m < 340282366920938463463374607431768211456) (ho : overlapS v n b v m k = true) :
    Calls Tryz.prog 38 #[.pointer (some ⟨q, 0, none⟩), .agg #[.bool v, .int .u64 (hi m), .int .u64 (lo m), .int .i64 k]] w fun e w' =>
      e = .returned (.tuple #[.int .i64 (cnt (notF f) (spanS v n b bits v m k).1 ((spanS v n b bits v m k).2.1 + 1 - (spanS v n b bits v m k).1) : Nat), .int .i64 0]) ∧
      SetAt w' q g c v n b bits (fun x => if (spanS v n b bits v m k).1 ≤ x ∧ x ≤ (spanS v n b bits v m k).2.1 then true else f x) cur ∧ w.grownBy w' (some c) := by
  have H := Lib.hid (fun w hh => kspan_c q g c v n b bits f cur v m k w hh hm)
  obtain ⟨s1, s2, s3, s4, _⟩ := span_between h.cuts ho
  have hB : (spanS v n b bits v m k).2.1 < nB b bits := (lenN_iff _ (bits - b).toNat).1 (by have := (cutsS_iff.1 h.cuts).2.1; omega)
  rw [s1] at H
  generalize (spanS v n b bits v m k).1 = A at *
  generalize (spanS v n b bits v m k).2.1 = B at *
  clear s1 s3 s4
  go_enter Tryz.func38, Tryz.ntmps38
  go_wp2_with fail
  refine (H.out _ (h.after bl_)).mono ?_
  rintro e w1 ⟨rfl, hb1⟩
  have hbel : Below w.heap.size w w1 := bl_trans bl_ hb1
  clear hb1
  obtain ⟨c0, c1, c2, c3, c4, c5, c6⟩ := set_cells (h.after hbel)
  go_wp2_with fail
  refine (fill_c g c (nB b bits) A B f w1 (h.after hbel).map s2 hB).mono ?_
  rintro e w2 ⟨rfl, hm2, hg2⟩
  go_wp2_with fail
  go_ret2
  exact ⟨rfl, (h.after hbel).put hm2 hg2, gb_trans (gb_below hbel) hg2⟩
end Go.Proofs.YtpfilldnfpcpkaaGreatDoor

namespace Go.Proofs.YtpfilldnfpcpkaaGreatDoor
open Go.RowKit

theorem MapAt.far2 {w : World} {g c n : Nat} {f : Nat → Bool} (h : MapAt w g c n f) {p : Addr} (h2 : g ≠ p.block) (h3 : c ≠ p.block) (u : Value) : MapAt (w.setCell p u) g c n f :=
  ⟨h.head.far h2 u, h.row.far h3 u, h.ne, h.small, h.top⟩
theorem SetAt.far {w : World} {q g c : Nat} {v : Bool} {n : Nat} {b bits : Int} {f : Nat → Bool} {cur : Nat} (h : SetAt w q g c v n b bits f cur) {p : Addr} (h1 : q ≠ p.block) (h2 : g ≠ p.block) (h3 : c ≠ p.block) (u : Value) : SetAt (w.setCell p u) q g c v n b bits f cur :=
  ⟨h.head.far h1 u, h.map.far2 h2 h3 u, h.cuts, h.few, h.at_⟩
theorem SetAt.move {w : World} {q g c : Nat} {v : Bool} {n : Nat} {b bits : Int} {f : Nat → Bool} {cur k : Nat} (h : SetAt w q g c v n b bits f cur) (hk : k < nB b bits) : SetAt (w.setCell ⟨q, 6, none⟩ (.int .i64 k)) q g c v n b bits f k :=
  ⟨h.head.put 6 _, h.map.far2 (h.head.ne h.map.head (by decide)).symm (h.head.ne h.map.row (by decide)).symm _, h.cuts, h.few, hk⟩
theorem fr2_new {a c : Nat} {u v : World} (h : Fr2 a c u v) {p : Addr} (hp : u.heap.size ≤ p.block) (x : Value) : Fr2 a c u (v.setCell p x) :=
  ⟨h.os, h.tape, h.output, by simp only [World.setCell]; simpa using h.size, fun i hi h1 h2 => (Below.heap_setCell _ _ _ _ (fun e => by rw [e] at hi; omega)).trans (h.block i hi h1 h2)⟩
theorem fr2_below {a c : Nat} {u v : World} (h : Below u.heap.size u v) : Fr2 a c u v := ⟨h.os, h.tape, h.output, h.size, fun i hi _ _ => h.block i hi⟩
theorem fr2_gb {a c : Nat} {u v : World} (h : u.grownBy v (some c)) : Fr2 a c u v := ⟨h.os, h.tape, h.output, h.size, fun i hi _ h2 => h.block i hi (fun e => h2 (by cases e; rfl))⟩
theorem bl_fr2 {a : World} {q c : Nat} {w w' : World} (h : Below a.heap.size a w) (k : Fr2 q c w w') (hq : a.heap.size ≤ q) (hc : a.heap.size ≤ c) : Below a.heap.size a w' :=
  ⟨k.os.trans h.os, k.tape.trans h.tape, k.output.trans h.output, Nat.le_trans h.size k.size, fun i hi => (k.block i (Nat.lt_of_lt_of_le hi h.size) (by omega) (by omega)).trans (h.block i hi)⟩
/-- what Next answers -/
def KNexted (q g c : Nat) (v : Bool) (n : Nat) (b bits : Int) (f : Nat → Bool) (cur : Nat) (w0 : World) (x : Ending) (w : World) : Prop :=
  (∃ j, IsNext f (nB b bits) cur j ∧ x = .returned (.tuple #[.agg #[.bool v, .int .u64 (hi (n + j * 2 ^ fr v bits)), .int .u64 (lo (n + j * 2 ^ fr v bits)), .int .i64 bits], .int .i64 0]) ∧ SetAt w q g c v n b bits (upd f j true) ((j + 1) % nB b bits) ∧ Fr2 q c w0 w) ∨
  ((∀ y, y < nB b bits → f y = true) ∧ x = .returned (.tuple #[.agg #[.bool false, .int .u64 0, .int .u64 0, .int .i64 0], .int .i64 9]) ∧ Below w0.heap.size w0 w)
set_option maxRecDepth 20000 in
set_option maxHeartbeats 1600000 in
theorem knext_c (q g c : Nat) (v : Bool) (n : Nat) (b bits : Int) (f : Nat → Bool) (cur : Nat) (w : World) (h : SetAt w q g c v n b bits f cur) (hT : Tab w) :
    Calls Tryz.prog 40 #[.pointer (some ⟨q, 0, none⟩)] w (KNexted q g c v n b bits f cur w) := by
  have hql := h.head.lt
  have hgl := h.map.head.lt
  have hcl := h.map.row.lt
  have hTl := hT.lt
  have hN := nB_le h.few
  have hN0 := nB_pos b bits
  have hcur := h.at_
  have HX := Lib.hid (fun w hh hh2 => next_c g c (nB b bits) f (cur : Int) w hh hh2)
  rw [show startAt (cur : Int) (nB b bits) = cur from by unfold startAt; rw [Int.toNat_natCast, Nat.mod_eq_of_lt hcur]] at HX
  go_enter Tryz.func40, Tryz.ntmps40
  go_wp2_with fail
  have hR : Blk (w.alloc (Obj.cells #[Value.bool false, Value.int IntKind.u64 0, Value.int IntKind.u64 0, Value.int IntKind.i64 0] 28)) w.heap.size 28 (PfxC false 0 0) := Blk.new _ _ _
  have hbel : Below w.heap.size w (w.alloc (Obj.cells #[Value.bool false, Value.int IntKind.u64 0, Value.int IntKind.u64 0, Value.int IntKind.i64 0] 28)) := bl_
  generalize w.alloc (Obj.cells #[Value.bool false, Value.int IntKind.u64 0, Value.int IntKind.u64 0, Value.int IntKind.i64 0] 28) = wz at *
  have hlt := hR.lt
  go_cut [4, 5] from 6 (fun s4 s5 wc => ∃ (j : Nat) (B : Bool), s4 = .int .i64 j ∧ s5 = .bool B ∧ (B = true → IsNext f (nB b bits) cur j) ∧ (B = false → ∀ y, y < nB b bits → f y = true) ∧ Blk wc w.heap.size 28 (PfxC false 0 0) ∧ Below w.heap.size w wc)
  case first =>
    go_region_held3 (fun w' => (w'.cell? ⟨q, 0, none⟩ = some (.bool v) ∧ w'.cell? ⟨q, 1, none⟩ = some (.int .u64 (hi n)) ∧ w'.cell? ⟨q, 2, none⟩ = some (.int .u64 (lo n)) ∧ w'.cell? ⟨q, 3, none⟩ = some (.int .i64 b) ∧ w'.cell? ⟨q, 4, none⟩ = some (.int .i64 bits) ∧ w'.cell? ⟨q, 5, none⟩ = some (.pointer (some ⟨g, 0, none⟩)) ∧ w'.cell? ⟨q, 6, none⟩ = some (.int .i64 cur)) ∧ Blk w' w.heap.size 28 (PfxC false 0 0) ∧ Below w.heap.size w w')
      (exact ⟨set_cells (h.after bl_), bk_, bl_⟩)
      (first
      | (go_at_call 89; refine (HX.out _ (h.after bl_).map (hT.after hTl bl_)).mono ?_; rintro e w3 ⟨j, B, rfl, hx1, hx2, hb3⟩))
    all_goals
      go_wp2_with fail
      go_meet
      case rel => exact ⟨j, B, rfl, rfl, hx1, fun q => (hx2 q).2, bk_, bl_⟩
  case rest =>
    obtain ⟨j, B, rfl, rfl, hx1, hx2, hR, hbel⟩ := hcut
    obtain ⟨r0, r1, r2, r3, _⟩ := blk_pfx hR
    have z0 := hR.frozen 0
    have z1 := hR.frozen 1
    have z2 := hR.frozen 2
    have z3 := hR.frozen 3
    cases B
    · have hall := Lib.hid (hx2 rfl)
      clear hx1 hx2
      go_wp2_with fail
      refine bodyPost_ret (v := .tuple #[.agg #[.bool false, .int .u64 0, .int .u64 0, .int .i64 0], .int .i64 9]) (by simp [results, Tryz.results40, go_sem, r0, r1, r2, r3, hi_zero, lo_zero]) rfl (Or.inr ⟨hall.out, rfl, bl_⟩)
    · have hn := Lib.hid (hx1 rfl)
      have hjN := hn.out.1
      have hjf := hn.out.2.1
      clear hx1 hx2 r0 r1 r2 r3 z0 z1 z2 z3
      obtain ⟨c0, c1, c2, c3, c4, c5, c6⟩ := set_cells (h.after hbel)
      have hqz : wc.frozen? ⟨q, 6, none⟩ = false := (h.after hbel).head.frozen 6
      have hw1 : wrap64 ((j : Int) + 1) = ((j + 1 : Nat) : Int) := by unfold wrap64; omega
      have hrem : Int.tmod ((j + 1 : Nat) : Int) ((nB b bits : Nat) : Int) = (((j + 1) % nB b bits : Nat) : Int) := by rw [Int.tmod_eq_emod_of_nonneg (by omega)]; omega
      have hne0 : (((nB b bits : Nat) : Int) == 0) = false := by simp; omega
      go_wp2_with fail
      refine (size_c g c _ f _ (h.after hbel).map).mono ?_
      rintro e w4 ⟨rfl, rfl⟩
      go_wp2_with fail
      rw [show ((j : Int) + 1) % ((nB b bits : Nat) : Int) = (((j + 1) % nB b bits : Nat) : Int) from by simp]
      have hqz : q ≠ w.heap.size := by omega
      have hgz : g ≠ w.heap.size := by omega
      have hcz : c ≠ w.heap.size := by omega
      have h5 := (h.after hbel).move (k := (j + 1) % nB b bits) (Nat.mod_lt _ hN0)
      have hR5 := hR.far (p := ⟨q, 6, none⟩) (by show w.heap.size ≠ q; omega) (.int .i64 (((j + 1) % nB b bits : Nat) : Int))
      have hF5 : Fr2 q c w (wc.setCell ⟨q, 6, none⟩ (.int .i64 (((j + 1) % nB b bits : Nat) : Int))) := (fr2_below hbel).set (p := ⟨q, 6, none⟩) (.inl rfl) _
      have HN := Lib.hid (Nat.mod_lt (j + 1) hN0)
      generalize (((j + 1) % nB b bits : Nat) : Int) = X at *
      generalize hk : (j + 1) % nB b bits = k at *
      clear hqz hw1 hrem hne0 c0 c1 c2 c3 c4 c5 c6
      generalize wc.setCell ⟨q, 6, none⟩ (.int .i64 X) = w5 at *
      obtain ⟨c0, c1, c2, c3, c4, c5, c6⟩ := set_cells h5
      have hqw : q ≠ w.heap.size := by omega
      have hws : w.heap.size ≤ w.heap.size := Nat.le_refl _
      go_region_held3 (fun w' => w'.cell? ⟨q, 5, none⟩ = some (.pointer (some ⟨g, 0, none⟩)))
        (first | with_reducible assumption | exact c5 | exact d5 | exact k5 | exact (((((hp7.head.far hqw _).far hqw _).far hqw _).far hqw _).cell 5).trans rfl)
        (first
        | (go_at_call 99; refine (kblock_c q g c v n b bits f k j _ (h5.after bl_) hjN).mono ?_; rintro e w6 ⟨rfl, hb6⟩; obtain ⟨hc6, hf6⟩ := bcell hb6; have hz6 := hb6.size; (try simp only [size_alloc', size_setCell', size_drew'] at hz6); have h6 := h5.after (show Below w5.heap.size w5 w6 from bl_); obtain ⟨d0, d1, d2, d3, d4, d5, d6⟩ := set_cells h6; have hR6 : Blk w6 w.heap.size 28 (PfxC false 0 0) := hR5.after (show Below w5.heap.size w5 w6 from bl_); have hF6 : Fr2 q c w w6 := hF5.trans (fr2_below (show Below w5.heap.size w5 w6 from bl_)))
        | (go_at_call 70; refine (bput_c g c _ f j w6 h6.map hjN hjf).mono ?_; rintro e w7 ⟨rfl, hm, hg⟩; have hp7 := h6.put hm hg; have hF7 : Fr2 q c w w7 := hF6.trans (fr2_gb hg); have hR7 := hR6.grown hg (some_ne (fun e => hcz e.symm)); obtain ⟨r0, r1, r2, r3, _⟩ := blk_pfx hR7; have z0 := hR7.frozen 0; have z1 := hR7.frozen 1; have z2 := hR7.frozen 2; have z3 := hR7.frozen 3; have k5 := (set_cells hp7).2.2.2.2.2.1))
      all_goals
        go_wp2_with fail
        have hRf := blk_fill4 (x := .bool v) (y := .int .u64 (hi (n + j * 2 ^ fr v bits))) (k := .int .u64 (lo (n + j * 2 ^ fr v bits))) (m := .int .i64 bits) hR7
        have hPf := (((hp7.far (p := ⟨w.heap.size, 0, none⟩) hqw hgz hcz (.bool v)).far (p := ⟨w.heap.size, 1, none⟩) hqw hgz hcz (.int .u64 (hi (n + j * 2 ^ fr v bits)))).far (p := ⟨w.heap.size, 2, none⟩) hqw hgz hcz (.int .u64 (lo (n + j * 2 ^ fr v bits)))).far (p := ⟨w.heap.size, 3, none⟩) hqw hgz hcz (.int .i64 bits)
        have hGf := fr2_new (fr2_new (fr2_new (fr2_new hF7 (p := ⟨w.heap.size, 0, none⟩) (Nat.le_refl _) (.bool v)) (p := ⟨w.heap.size, 1, none⟩) (Nat.le_refl _) (.int .u64 (hi (n + j * 2 ^ fr v bits)))) (p := ⟨w.heap.size, 2, none⟩) (Nat.le_refl _) (.int .u64 (lo (n + j * 2 ^ fr v bits)))) (p := ⟨w.heap.size, 3, none⟩) (Nat.le_refl _) (.int .i64 bits)
        generalize (((w7.setCell ⟨w.heap.size, 0, none⟩ (.bool v)).setCell ⟨w.heap.size, 1, none⟩ (.int .u64 (hi (n + j * 2 ^ fr v bits)))).setCell ⟨w.heap.size, 2, none⟩ (.int .u64 (lo (n + j * 2 ^ fr v bits)))).setCell ⟨w.heap.size, 3, none⟩ (.int .i64 bits) = wf at *
        obtain ⟨s0, s1, s2, s3, _⟩ := blk_pfx (show Blk wf w.heap.size 28 (PfxC v (n + j * 2 ^ fr v bits) bits) from hRf)
        refine bodyPost_ret (v := .tuple #[.agg #[.bool v, .int .u64 (hi (n + j * 2 ^ fr v bits)), .int .u64 (lo (n + j * 2 ^ fr v bits)), .int .i64 bits], .int .i64 0]) (by simp [results, Tryz.results40, go_sem, s0, s1, s2, s3]) rfl (Or.inl ⟨j, hn.out, rfl, by rw [hk]; exact hPf, hGf⟩)
end Go.Proofs.YtpfilldnfpcpkaaGreatDoor

namespace Go.Proofs.YtpfilldnfpcpkaaGreatDoor
open Go.RowKit

theorem knext_nil (w : World) :
    Calls Tryz.prog 40 #[.pointer none] w fun e w' => e = .returned (.tuple #[.agg #[.bool false, .int .u64 0, .int .u64 0, .int .i64 0], .int .i64 2]) ∧ Below w.heap.size w w' := by
  go_enter Tryz.func40, Tryz.ntmps40
  go_wp2_with fail
  refine bodyPost_ret (v := .tuple #[.agg #[.bool false, .int .u64 0, .int .u64 0, .int .i64 0], .int .i64 2]) (by simp [results, Tryz.results40, go_sem]) rfl ⟨rfl, bl_⟩
theorem kspan_nil (u : Bool) (x1 x2 x3 : Int) (w : World) :
    Calls Tryz.prog 97 #[.pointer none, .agg #[.bool u, .int .u64 x1, .int .u64 x2, .int .i64 x3]] w fun e w' => e = .returned (.tuple #[.int .i64 0, .int .i64 0, .int .i64 2]) ∧ Below w.heap.size w w' := by
  go_enter Tryz.func97, Tryz.ntmps97
  go_wp2_with fail
  refine bodyPost_ret (v := .tuple #[.int .i64 0, .int .i64 0, .int .i64 2]) (by simp [results, Tryz.results97, go_sem]) rfl ⟨rfl, bl_⟩
theorem ksize_nil (w : World) :
    Calls Tryz.prog 44 #[.pointer none] w fun e w' => e = .returned (.int .i64 0) ∧ Below w.heap.size w w' := by
  go_enter Tryz.func44, Tryz.ntmps44
  go_wp2_with fail
  go_ret
  exact ⟨rfl, bl_⟩
theorem kleft_nil (w : World) :
    Calls Tryz.prog 39 #[.pointer none] w fun e w' => e = .returned (.int .i64 0) ∧ Below w.heap.size w w' := by
  go_enter Tryz.func39, Tryz.ntmps39
  go_wp2_with fail
  go_ret
  exact ⟨rfl, bl_⟩
theorem kbits_nil (w : World) :
    Calls Tryz.prog 61 #[.pointer none] w fun e w' => e = .returned (.int .i64 0) ∧ Below w.heap.size w w' := by
  go_enter Tryz.func61, Tryz.ntmps61
  go_wp2_with fail
  go_ret
  exact ⟨rfl, bl_⟩
theorem kused_nil (w : World) :
    Calls Tryz.prog 43 #[.pointer none] w fun e w' => e = .returned (.slice none 0 0) ∧ Below w.heap.size w w' := by
  go_enter Tryz.func43, Tryz.ntmps43
  go_wp2_with fail
  go_ret
  exact ⟨rfl, bl_⟩
theorem kcopy_nil (w : World) :
    Calls Tryz.prog 63 #[.pointer none] w fun e w' => e = .returned (.pointer none) ∧ Below w.heap.size w w' := by
  go_enter Tryz.func63, Tryz.ntmps63
  go_wp2_with fail
  go_ret
  exact ⟨rfl, bl_⟩
theorem kprefix_nil (w : World) :
    Calls Tryz.prog 62 #[.pointer none] w fun e w' => e = .returned (.agg #[.bool false, .int .u64 0, .int .u64 0, .int .i64 0]) ∧ Below w.heap.size w w' := by
  go_enter Tryz.func62, Tryz.ntmps62
  go_wp2_with fail
  refine bodyPost_ret (v := .agg #[.bool false, .int .u64 0, .int .u64 0, .int .i64 0]) (by simp [results, Tryz.results62, go_sem]) rfl ⟨rfl, bl_⟩
end Go.Proofs.YtpfilldnfpcpkaaGreatDoor

namespace Go.Proofs.YtpfilldnfpcpkaaGreatDoor
open Go.RowKit Go.Proofs.YtpfilldnfpcpkaaGreatDoorW.PrintWords Go.Proofs.YtpfilldnfpcpkaaGreatDoor.PPo

theorem glob_tabK {w : World} (h : Glob w) : Tab w := h.bru
theorem IsNext.oneK {f : Nat → Bool} {n a j k : Nat} (h : IsNext f n a j) (hk : k < n) (hf : f k = false) (ha : a ≤ k) (hy : ∀ y, a ≤ y → y < k → f y = true) : j = k := by
  obtain ⟨q1, q2, q3⟩ := h
  rcases q3 with ⟨q3, q4⟩ | ⟨q3, q4, q5⟩
  · rcases Nat.lt_trichotomy j k with e | e | e
    · rw [hy j q3 e] at q2; cases q2
    · exact e
    · rw [q4 k ha e] at hf; cases hf
  · rw [q4 k ha hk] at hf; cases hf
/-- the example's bits -/
def exK : Nat → Bool := fun x => if 0 ≤ x ∧ x ≤ 1 then true else false
theorem exk_new (w : World) :
    Calls Tryz.prog 37 #[.agg #[.bool false, .int .u64 0, .int .u64 167772160, .int .i64 8], .int .i64 16] w fun e w' => ∃ q g c, e = .returned (.tuple #[.pointer (some ⟨q, 0, none⟩), .int .i64 0]) ∧
      SetAt w' q g c false 167772160 8 16 (fun _ => false) 0 ∧ Below w.heap.size w w' ∧ w.heap.size ≤ q ∧ w.heap.size ≤ g ∧ w.heap.size ≤ c :=
  knew_c false 167772160 8 16 w (by decide) (by decide)
theorem exk_span : spanS false 167772160 8 16 false 167772160 15 = (0, 1, 0) := by decide +kernel
theorem exk_fill (q g c : Nat) (w : World) (h : SetAt w q g c false 167772160 8 16 (fun _ => false) 0) :
    Calls Tryz.prog 38 #[.pointer (some ⟨q, 0, none⟩), .agg #[.bool false, .int .u64 0, .int .u64 167772160, .int .i64 15]] w fun e w' =>
      e = .returned (.tuple #[.int .i64 2, .int .i64 0]) ∧ SetAt w' q g c false 167772160 8 16 exK 0 ∧ w.grownBy w' (some c) := by
  have := kfill_c q g c false 167772160 8 16 (fun _ => false) 0 167772160 15 w h (by decide) (by decide +kernel)
  rw [exk_span] at this
  exact this
theorem exk_next (q g c : Nat) (w : World) (h : SetAt w q g c false 167772160 8 16 exK 0) (hT : Tab w) :
    Calls Tryz.prog 40 #[.pointer (some ⟨q, 0, none⟩)] w fun x w' =>
      x = .returned (.tuple #[.agg #[.bool false, .int .u64 0, .int .u64 167903232, .int .i64 16], .int .i64 0]) ∧ Fr2 q c w w' := by
  refine (knext_c q g c false 167772160 8 16 exK 0 w h hT).mono ?_
  rintro e w' (⟨j, hj, rfl, _, hF⟩ | ⟨hall, _, _⟩)
  · obtain rfl : j = 2 := hj.oneK (by decide) (by decide) (by decide) (fun y _ h2 => by unfold exK; rw [if_pos ⟨by omega, by omega⟩])
    exact ⟨by rw [show 167772160 + 2 * 2 ^ fr false 16 = 167903232 from by decide]; rfl, hF⟩
  · exact absurd (hall 2 (by decide)) (by decide)
set_option maxRecDepth 20000 in
set_option maxHeartbeats 1000000 in
theorem awake07_c (w : World) (hG : Glob w) :
    Calls Tryz.prog 35 #[] w fun e w' => e = .returned (.bool true) ∧ Below w.heap.size w w' := by
  have HP := Lib.hid (fun w hG => prefix_Parse.calls ⟨#[49, 48, 46, 48, 46, 48, 46, 48, 47, 56]⟩ false 0 167772160 8 0 w hG (by decide +kernel))
  have HQ := Lib.hid (fun w hG => prefix_Parse.calls ⟨#[49, 48, 46, 48, 46, 48, 46, 48, 47, 49, 53]⟩ false 0 167772160 15 0 w hG (by decide +kernel))
  have HA := Lib.hid (fun w hG => prefix_Print.calls false 0 167903232 16 ⟨#[49, 48, 46, 50, 46, 48, 46, 48, 47, 49, 54]⟩ w hG (by decide +kernel))
  have hGw := Lib.hid hG
  go_enter Tryz.func35, Tryz.ntmps35
  go_wp2_with fail
  with_reducible refine (HP.out w hG).mono ?_
  rintro e w1 ⟨rfl, hbel⟩
  clear HP
  go_wp2_with fail
  have hA := Blk.new w1 28 #[.bool false, .int .u64 0, .int .u64 167772160, .int .i64 8]
  replace hbel := bl_alloc hbel (.cells #[.bool false, .int .u64 0, .int .u64 167772160, .int .i64 8] 28)
  generalize w1.alloc (.cells #[.bool false, .int .u64 0, .int .u64 167772160, .int .i64 8] 28) = w2 at *
  generalize w1.heap.size = ga at *
  refine (HQ.out w2 (hGw.out.after hbel)).mono ?_
  rintro e w3 ⟨rfl, hb3⟩
  replace hA := hA.after hb3
  replace hbel := bl_trans hbel hb3
  clear hb3
  have hal := hA.lt
  have a0 := (hA.cell 0).trans rfl
  have a1 := (hA.cell 1).trans rfl
  have a2 := (hA.cell 2).trans rfl
  have a3 := (hA.cell 3).trans rfl
  simp only [List.getElem?_toArray, List.getElem?_cons_zero, List.getElem?_cons_succ] at a0 a1 a2 a3
  go_wp2_with fail
  have hB := Blk.new w3 28 #[.bool false, .int .u64 0, .int .u64 167772160, .int .i64 15]
  replace hbel := bl_alloc hbel (.cells #[.bool false, .int .u64 0, .int .u64 167772160, .int .i64 15] 28)
  clear a0 a1 a2 a3 hA hal
  generalize w3.alloc (.cells #[.bool false, .int .u64 0, .int .u64 167772160, .int .i64 15] 28) = w4 at *
  generalize w3.heap.size = gb at *
  refine (exk_new w4).mono ?_
  rintro e w5 ⟨q, g, c, rfl, hs, hb5, hq, -, hc⟩
  have hqw : w.heap.size ≤ q := Nat.le_trans hbel.size hq
  have hcw : w.heap.size ≤ c := Nat.le_trans hbel.size hc
  replace hB := hB.after hb5
  replace hbel := bl_trans hbel hb5
  clear hb5 hq hc
  have a0 := (hB.cell 0).trans rfl
  have a1 := (hB.cell 1).trans rfl
  have a2 := (hB.cell 2).trans rfl
  have a3 := (hB.cell 3).trans rfl
  simp only [List.getElem?_toArray, List.getElem?_cons_zero, List.getElem?_cons_succ] at a0 a1 a2 a3
  go_wp2_with fail
  refine (exk_fill q g c w5 hs).mono ?_
  rintro e w6 ⟨rfl, hs6, hg6⟩
  replace hbel := bl_grown hbel hg6 hcw
  clear a0 a1 a2 a3 hB hs hg6
  go_wp2_with fail
  refine (exk_next q g c w6 hs6 (glob_tabK (hGw.out.after hbel))).mono ?_
  rintro e w7 ⟨rfl, hF⟩
  replace hbel := bl_fr2 hbel hF hqw hcw
  clear hs6 hF
  go_wp2_with fail
  refine (HA.out _ (hGw.out.after (bl_alloc hbel _))).mono ?_
  rintro e w8 ⟨rfl, hb8⟩
  replace hbel := bl_trans (bl_alloc hbel _) hb8
  clear hb8
  go_wp2_with fail
  go_ret
  exact ⟨rfl, hbel⟩
theorem koccupy_nil (u : Bool) (x1 x2 x3 : Int) (w : World) :
    Calls Tryz.prog 38 #[.pointer none, .agg #[.bool u, .int .u64 x1, .int .u64 x2, .int .i64 x3]] w fun e w' => e = .returned (.tuple #[.int .i64 0, .int .i64 2]) ∧ Below w.heap.size w w' := by
  go_enter Tryz.func38, Tryz.ntmps38
  go_wp2_with fail
  refine (kspan_nil u x1 x2 x3 _).mono ?_
  rintro e w1 ⟨rfl, hb1⟩
  have hbel : Below w.heap.size w w1 := bl_trans bl_ hb1
  clear hb1
  go_wp2_with fail
  go_ret2
  exact ⟨rfl, hbel⟩
theorem krelease_nil (u : Bool) (x1 x2 x3 : Int) (w : World) :
    Calls Tryz.prog 47 #[.pointer none, .agg #[.bool u, .int .u64 x1, .int .u64 x2, .int .i64 x3]] w fun e w' => e = .returned (.tuple #[.int .i64 0, .int .i64 2]) ∧ Below w.heap.size w w' := by
  go_enter Tryz.func47, Tryz.ntmps47
  go_wp2_with fail
  refine (kspan_nil u x1 x2 x3 _).mono ?_
  rintro e w1 ⟨rfl, hb1⟩
  have hbel : Below w.heap.size w w1 := bl_trans bl_ hb1
  clear hb1
  go_wp2_with fail
  go_ret2
  exact ⟨rfl, hbel⟩
theorem khas_nil (u : Bool) (x1 x2 x3 : Int) (w : World) :
    Calls Tryz.prog 56 #[.pointer none, .agg #[.bool u, .int .u64 x1, .int .u64 x2, .int .i64 x3]] w fun e w' => e = .returned (.bool false) ∧ Below w.heap.size w w' := by
  go_enter Tryz.func56, Tryz.ntmps56
  go_wp2_with fail
  refine (kspan_nil u x1 x2 x3 _).mono ?_
  rintro e w1 ⟨rfl, hb1⟩
  have hbel : Below w.heap.size w w1 := bl_trans bl_ hb1
  clear hb1
  go_wp2_with fail
  go_loopw [8] (fun i wr => i = .int .i64 0 ∧ Below w.heap.size w wr) (fun _ _ => 0)
  case atStart => exact ⟨rfl, hbel⟩
  case round =>
    obtain ⟨rfl, hb⟩ := hrel
    go_wp2_with fail
    go_ret
    exact ⟨rfl, hb⟩
set_option maxRecDepth 20000 in
set_option maxHeartbeats 1000000 in
theorem blocksNil_walk (u : Bool) (x : Nat) (k : Int) (w : World) (_ : x < 340282366920938463463374607431768211456) (_ : (Lit.int .i64 k).wf = true) (hG : Glob w) :
    Calls Tryz.prog 11 #[PfxV u x k] w fun e w' => e = .returned (.bool true) ∧ Below w.heap.size w w' := by
  have hGw := Lib.hid hG
  unfold PfxV PfxC
  generalize hi x = x1
  generalize lo x = x2
  go_enter Tryz.func11, Tryz.ntmps11
  go_wp2_with fail
  have hA := Blk.new w 28 #[.bool u, .int .u64 x1, .int .u64 x2, .int .i64 k]
  have hbel : Below w.heap.size w (w.alloc (.cells #[.bool u, .int .u64 x1, .int .u64 x2, .int .i64 k] 28)) := bl_
  generalize w.alloc (.cells #[.bool u, .int .u64 x1, .int .u64 x2, .int .i64 k] 28) = w1 at *
  refine (awake07_c w1 (hGw.out.after hbel)).mono ?_
  rintro e w2 ⟨rfl, hb2⟩
  replace hA := hA.after hb2
  replace hbel := bl_trans hbel hb2
  clear hb2
  go_wp2_with fail
  refine (knext_nil _).mono ?_
  rintro e w3 ⟨rfl, hb3⟩
  replace hA := hA.after hb3
  replace hbel := bl_trans hbel hb3
  clear hb3
  have hal := hA.lt
  have a0 := (hA.cell 0).trans rfl
  have a1 := (hA.cell 1).trans rfl
  have a2 := (hA.cell 2).trans rfl
  have a3 := (hA.cell 3).trans rfl
  simp only [List.getElem?_toArray, List.getElem?_cons_zero, List.getElem?_cons_succ] at a0 a1 a2 a3
  go_wp2_with fail
  have hB := Blk.new w3 28 #[.bool false, .int .u64 0, .int .u64 0, .int .i64 0]
  replace hA := hA.alloc (.cells #[.bool false, .int .u64 0, .int .u64 0, .int .i64 0] 28)
  replace hbel := bl_alloc hbel (.cells #[.bool false, .int .u64 0, .int .u64 0, .int .i64 0] 28)
  generalize w3.alloc (.cells #[.bool false, .int .u64 0, .int .u64 0, .int .i64 0] 28) = w4 at *
  generalize w3.heap.size = gb at *
  refine (koccupy_nil u x1 x2 k _).mono ?_
  rintro e w5 ⟨rfl, hb⟩
  replace hA := hA.after hb
  replace hB := hB.after hb
  replace hbel := bl_trans hbel hb
  clear hb a0 a1 a2 a3
  have a0 := (hA.cell 0).trans rfl
  have a1 := (hA.cell 1).trans rfl
  have a2 := (hA.cell 2).trans rfl
  have a3 := (hA.cell 3).trans rfl
  simp only [List.getElem?_toArray, List.getElem?_cons_zero, List.getElem?_cons_succ] at a0 a1 a2 a3
  go_wp2_with fail
  refine (krelease_nil u x1 x2 k _).mono ?_
  rintro e w6 ⟨rfl, hb⟩
  replace hA := hA.after hb
  replace hB := hB.after hb
  replace hbel := bl_trans hbel hb
  clear hb a0 a1 a2 a3
  have a0 := (hA.cell 0).trans rfl
  have a1 := (hA.cell 1).trans rfl
  have a2 := (hA.cell 2).trans rfl
  have a3 := (hA.cell 3).trans rfl
  simp only [List.getElem?_toArray, List.getElem?_cons_zero, List.getElem?_cons_succ] at a0 a1 a2 a3
  have b0 := (hB.cell 0).trans rfl
  have b1 := (hB.cell 1).trans rfl
  have b2 := (hB.cell 2).trans rfl
  have b3 := (hB.cell 3).trans rfl
  simp only [List.getElem?_toArray, List.getElem?_cons_zero, List.getElem?_cons_succ] at b0 b1 b2 b3
  go_wp2_with fail
  clear b0 b1 b2 b3
  refine (khas_nil u x1 x2 k _).mono ?_
  rintro e w7 ⟨rfl, hb⟩
  replace hA := hA.after hb
  replace hB := hB.after hb
  replace hbel := bl_trans hbel hb
  clear hb a0 a1 a2 a3
  have a0 := (hA.cell 0).trans rfl
  have a1 := (hA.cell 1).trans rfl
  have a2 := (hA.cell 2).trans rfl
  have a3 := (hA.cell 3).trans rfl
  simp only [List.getElem?_toArray, List.getElem?_cons_zero, List.getElem?_cons_succ] at a0 a1 a2 a3
  go_wp2_with fail
  refine (ksize_nil _).mono ?_
  rintro e w8 ⟨rfl, hb⟩
  replace hA := hA.after hb
  replace hB := hB.after hb
  replace hbel := bl_trans hbel hb
  clear hb a0 a1 a2 a3
  have a0 := (hA.cell 0).trans rfl
  have a1 := (hA.cell 1).trans rfl
  have a2 := (hA.cell 2).trans rfl
  have a3 := (hA.cell 3).trans rfl
  simp only [List.getElem?_toArray, List.getElem?_cons_zero, List.getElem?_cons_succ] at a0 a1 a2 a3
  go_wp2_with fail
  refine (kleft_nil _).mono ?_
  rintro e w9 ⟨rfl, hb⟩
  replace hA := hA.after hb
  replace hB := hB.after hb
  replace hbel := bl_trans hbel hb
  clear hb a0 a1 a2 a3
  have a0 := (hA.cell 0).trans rfl
  have a1 := (hA.cell 1).trans rfl
  have a2 := (hA.cell 2).trans rfl
  have a3 := (hA.cell 3).trans rfl
  simp only [List.getElem?_toArray, List.getElem?_cons_zero, List.getElem?_cons_succ] at a0 a1 a2 a3
  go_wp2_with fail
  refine (kbits_nil _).mono ?_
  rintro e w10 ⟨rfl, hb⟩
  replace hA := hA.after hb
  replace hB := hB.after hb
  replace hbel := bl_trans hbel hb
  clear hb a0 a1 a2 a3
  have a0 := (hA.cell 0).trans rfl
  have a1 := (hA.cell 1).trans rfl
  have a2 := (hA.cell 2).trans rfl
  have a3 := (hA.cell 3).trans rfl
  simp only [List.getElem?_toArray, List.getElem?_cons_zero, List.getElem?_cons_succ] at a0 a1 a2 a3
  go_wp2_with fail
  refine (kused_nil _).mono ?_
  rintro e w11 ⟨rfl, hb⟩
  replace hA := hA.after hb
  replace hB := hB.after hb
  replace hbel := bl_trans hbel hb
  clear hb a0 a1 a2 a3
  have a0 := (hA.cell 0).trans rfl
  have a1 := (hA.cell 1).trans rfl
  have a2 := (hA.cell 2).trans rfl
  have a3 := (hA.cell 3).trans rfl
  simp only [List.getElem?_toArray, List.getElem?_cons_zero, List.getElem?_cons_succ] at a0 a1 a2 a3
  go_wp2_with fail
  refine (kcopy_nil _).mono ?_
  rintro e w12 ⟨rfl, hb⟩
  replace hA := hA.after hb
  replace hB := hB.after hb
  replace hbel := bl_trans hbel hb
  clear hb a0 a1 a2 a3
  have a0 := (hA.cell 0).trans rfl
  have a1 := (hA.cell 1).trans rfl
  have a2 := (hA.cell 2).trans rfl
  have a3 := (hA.cell 3).trans rfl
  simp only [List.getElem?_toArray, List.getElem?_cons_zero, List.getElem?_cons_succ] at a0 a1 a2 a3
  go_wp2_with fail
  refine (kprefix_nil _).mono ?_
  rintro e w13 ⟨rfl, hb⟩
  replace hA := hA.after hb
  replace hB := hB.after hb
  replace hbel := bl_trans hbel hb
  clear hb a0 a1 a2 a3
  have a0 := (hA.cell 0).trans rfl
  have a1 := (hA.cell 1).trans rfl
  have a2 := (hA.cell 2).trans rfl
  have a3 := (hA.cell 3).trans rfl
  simp only [List.getElem?_toArray, List.getElem?_cons_zero, List.getElem?_cons_succ] at a0 a1 a2 a3
  go_wp2_with fail
  go_ret
  exact ⟨rfl, hbel⟩
end Go.Proofs.YtpfilldnfpcpkaaGreatDoor

namespace Go.Proofs.YtpfilldnfpcpkaaGreatDoor
open Go.ChangeShapes Go.WideShapes Go.ChangeAt Go.RowKit

section
variable {H : Type} {enc : TypeId × Value → H} {P : Program}
theorem post_below {f : Func} {s : ChangeSpec} {apart fresh handsOn again : Bool} {W W' : World} {args : Array Value} {v : Value} {ds gs : List (DataW H)} {before pa pv : List MemPlace}
    (hW : DataW.Whole enc P f.params.toList s.vars apart W args.toList ds gs before)
    (hres : ∀ (b : Nat) (sp : Nat → Bool) (hd : Bool), DataW.TrodAll enc P W' b sp hd f.resultTypes.toList (v.resultList f.resultTypes.size) (s.fn H (ds ++ gs)).results [])
    (hargs : ∀ sp : Nat → Bool, (∀ p ∈ before, sp p.block = true) → DataW.TrodAll enc P W' 0 sp true f.params.toList args.toList (s.fn H (ds ++ gs)).args pa)
    (hvars : ∀ sp : Nat → Bool, (∀ p ∈ before, sp p.block = true) → DataW.TrodVars enc P W' sp s.vars (s.fn H (ds ++ gs)).vars pv)
    (hps : before = pa ++ pv) (hb : Below W.heap.size W W')
    (hok : ∀ (j : Nat) (t : TypeId) (r : Value), f.resultTypes[j]? = some t → (v.resultList f.resultTypes.size)[j]? = some r → Value.okWide P W' .any 0 t r) :
    s.post enc P f apart fresh handsOn again W args v W' := by
  have hlt : ∀ p ∈ before, p.block < W.heap.size := fun p hp => hW.lt p hp
  have hold : ∀ p ∈ before, (fun b => decide (b < W.heap.size)) p.block = true := fun p hp => by simpa using hlt p hp
  refine ⟨ds, gs, before, [], pa, pv, hW, hres _ _ _, hargs _ hold, hvars _ hold, World.keptBut_mono (fun p hp => ⟨hp, ?_⟩) (hb.frame (· ∈ before)), fun _ => ?_⟩
  · rw [hps, List.mem_append] at hp
    exact Or.inr hp
  · obtain ⟨_, _, _, _, _, hz, hn⟩ := hW
    refine ⟨hok, _, _, ([] ++ pa) ++ pv, ⟨[] ++ pa, pv, trodAll_append (hargs _ (fun _ _ => rfl)) (hres _ _ _), hvars _ (fun _ _ => rfl), rfl, ?_, ?_⟩, ?_⟩
    · intro b off hp
      have hin : MemPlace.cell b off ∈ before := by rw [hps]; simpa using hp
      rw [hb.frozen (hlt _ hin)]
      exact hz b off hin
    · intro ha
      have := hn ha
      rw [hps] at this
      simpa using this
    · intro p hp _
      rw [hps]
      simpa using hp
end

theorem Tryz.own : ownKnob Tryz.prog.godebug = none := by kernel_rfl
theorem u64_bd {n : Int} (h : (Lit.int .u64 n).wf = true) : 0 ≤ n ∧ n < 18446744073709551616 := by
  simp [Lit.wf, IntKind.min, IntKind.max, IntKind.bits, IntKind.signed] at h
  omega
end Go.Proofs.YtpfilldnfpcpkaaGreatDoor

namespace Go.Proofs.YtpfilldnfpcpkaaGreatDoor
open Go.RowKit

def listA : List (String × DataW Unit) := [("math/bits.deBruijn32tab", Rows.laid_math_bits_deBruijn32tab), ("math/bits.deBruijn64tab", Rows.laid_math_bits_deBruijn64tab), ("internal/strconv.uint64pow10", Rows.laid_internal_strconv_uint64pow10), ("unicode/utf8.acceptRanges", Rows.laid_unicode_utf8_acceptRanges), ("strconv.ErrRange", Rows.laid_strconv_ErrRange), ("strconv.ErrSyntax", Rows.laid_strconv_ErrSyntax), ("unicode/utf8.first", Rows.laid_unicode_utf8_first)]
theorem doorA_met (os : Os) (args : Array Value) : laidMetH Tryz.prog listA ((World.laidAll Tryz.prog os listA).forCall (fun _ _ => 0) ⟨#[], args, []⟩).memory := by
  rw [MakeChecks.laidMetH_plain _ _ _ (by kernel_rfl)]; exact laidMet_laidAll _ (by kernel_rfl) (by kernel_rfl)
def tabZ : List Int := Lib.deBruijn64tab.map Int.ofNat
theorem listA_tab : (Rows.laid_math_bits_deBruijn64tab : DataW Unit) = Lib.tabData .u8 tabZ := by kernel_rfl
theorem listA_pow : (Rows.laid_internal_strconv_uint64pow10 : DataW Unit) = Lib.tabData .u64 Lib.pow10Tab := by kernel_rfl
theorem err_star : "*" ++ "errors.errorString" = "*errors.errorString" := by decide
theorem err_name (u : TypeId) (h : Tryz.prog.typeName? 3 u = some "*errors.errorString") : u = 233 :=
  typeName_ptr_named (nm := "errors.errorString") (by rw [err_star]; kernel_rfl) (by kernel_rfl) (by decide) u (by rw [err_star]; exact h)
theorem glob_of {W : World} (h : laidMetH Tryz.prog listA W) (hs : W.ShapedOpen Tryz.prog) : Glob W := by
  rw [MakeChecks.laidMetH_plain _ _ _ (by kernel_rfl)] at h
  unfold listA at h
  have h2 := h.tail
  have h3 := h2.tail
  have h5 := h3.tail.tail
  have h6 := h5.tail
  rw [listA_tab] at h2
  rw [listA_pow] at h3
  refine ⟨?_, ?_, ?_, ?_, ?_⟩
  · exact cell_of_shapedOpen_int (g := 1) (t := 3) (zero := #[.int .i64 0]) hs (of_decide_eq_true (by kernel_rfl)) (by kernel_rfl) rfl (by kernel_rfl) (by kernel_rfl) Tryz.underlying3
  · obtain ⟨a, s, hv, _⟩ := laid_sentinel h6 (g := 2) (by kernel_rfl) (by kernel_rfl) Tryz.underlying144 err_name Tryz.underlying233 Tryz.underlying235 rfl rfl Tryz.underlying9 (by kernel_rfl) (by kernel_rfl)
    exact ⟨_, _, hv⟩
  · obtain ⟨a, s, hv, _⟩ := laid_sentinel h5 (g := 3) (by kernel_rfl) (by kernel_rfl) Tryz.underlying144 err_name Tryz.underlying233 Tryz.underlying235 rfl rfl Tryz.underlying9 (by kernel_rfl) (by kernel_rfl)
    exact ⟨_, _, hv⟩
  · exact Lib.tabIs_of_head (P := Tryz.prog) (g := 4) (t := 237) (e := 22) (n := 20) (by kernel_rfl) (by kernel_rfl) Tryz.underlying237 Tryz.underlying22 (by kernel_rfl) (by kernel_rfl) h3
  · have hT := Lib.tabIs_of_head (P := Tryz.prog) (g := 0) (t := 216) (e := 5) (n := 64) (by kernel_rfl) (by kernel_rfl) Tryz.underlying216 Tryz.underlying5 (by kernel_rfl) (by kernel_rfl) h2
    intro j hj
    have hc := hT.cell (g := 0) (by kernel_rfl) j (by unfold tabZ; rw [List.length_map, show Lib.deBruijn64tab.length = 64 by decide]; exact hj)
    rw [hc]
    have e : tabZ.getD j 0 = ((Lib.deBruijn64tab.getD j 0 : Nat) : Int) := by
      unfold tabZ
      simp only [List.getD_eq_getElem?_getD, List.getElem?_map]
      cases Lib.deBruijn64tab[j]? <;> rfl
    rw [e]
/-- the plain wrap with the row's condition and the start's shape -/
theorem lift_shaped {H : Type} {enc : TypeId × Value → H} {C : Checked} {os : Os} {f : FuncId} {fn : Func} {s : ChangeSpec} {X : World → Array Value → Prop}
    (hX : ∀ (w w' : World) (args : Array Value), w.heap = w'.heap → X w args → X w' args)
    (own : ownKnob C.prog.godebug = none) (started : os.Started) (noInit : C.prog.inits.idxOf? f = none) (hfn : C.prog.funcs[f]? = some fn)
    (witness : ∃ (w : World) (tape : Tape) (i : Input), w.os = os ∧ (w.forCall tape i).Shaped C.prog ∧ i.vars = [] ∧ Input.okWide C.prog (w.forCall tape i) .any w.heap.size f i ∧
      ((s.pre enc C.prog fn [] false (w.forCall tape i).memory i.args ∧ X (w.forCall tape i).memory i.args) ∧ sizedMet enc C.prog fn (OpenSpec.ofChange s) false (w.forCall tape i).memory i.args) ∧ ({} : Assume).holds C.prog (lone (Frame.enter C.prog f i.args .normal) [] (w.forCall tape i)))
    (contract : ∀ (W : World) (base : Nat) (args : Array Value) (ds gs : List (DataW H)) (before : List MemPlace),
      (∀ (j : Nat) t v, fn.params[j]? = some t → args[j]? = some v → Value.okWide C.prog W .any base t v) →
      DataW.Whole enc C.prog fn.params.toList s.vars false W args.toList ds gs before → X W args → W.ShapedOpen C.prog →
      Calls C.prog f args W fun e W' => ∃ v, e = .returned v ∧ s.post enc C.prog fn false true false false W args v W') :
    ReturnsInHanded {} C os f .any (fun w args => (s.pre enc C.prog fn [] false w args ∧ X w args) ∧ sizedMet enc C.prog fn (OpenSpec.ofChange s) false w args) (s.post enc C.prog fn false true false false) := by
  refine returnsInHanded_of_calls own started noInit witness ?_
  intro w tape i _ hshape _ hok hpre _
  obtain ⟨_, _, _, fn2, hfn2, _, _, _, _, hval⟩ := hok
  obtain rfl : fn2 = fn := Option.some.inj (hfn2.symm.trans hfn)
  obtain ⟨⟨⟨ds, gs, before, hw, _⟩, hx⟩, _⟩ := hpre
  refine (contract (w.forCall tape i) w.heap.size i.args ds gs before hval (DataW.Whole.of_heap (w' := w.forCall tape i) (by rfl) hw) (hX _ _ _ (by rfl) hx) hshape).mono fun e W' ⟨v, he, hp⟩ => ?_
  subst he
  exact ChangeSpec.post_blind hp
end Go.Proofs.YtpfilldnfpcpkaaGreatDoor

namespace Go.Proofs.YtpfilldnfpcpkaaGreatDoor
open Go.ChangeShapes Go.WideShapes Go.ChangeAt Go.RowKit Go.Joins

theorem Tryz.cellsNum : Tryz.prog.cellsOf 24 = 2 := by kernel_rfl

end Go.Proofs.YtpfilldnfpcpkaaGreatDoor

namespace Go.Proofs.YtpfilldnfpcpkaaGreatDoor
open Go.ChangeShapes Go.WideShapes Go.ChangeAt Go.RowKit Go.Joins

set_option maxRecDepth 100000 in
theorem Tryz.cellsAddr : Tryz.prog.cellsOf 26 = 3 := by kernel_rfl
def numD {H : Type} (n : Nat) : DataW H := .agg [.lit (.int .u64 (hi n)), .lit (.int .u64 (lo n))]
def addrD {H : Type} (v : Bool) (n : Nat) : DataW H := .agg [.lit (.bool v), numD n]
/-- the number's words are in their bounds -/
def numOk (n : Nat) : Prop := (Lit.int .u64 (hi n)).wf = true ∧ (Lit.int .u64 (lo n)).wf = true

set_option maxRecDepth 100000 in
theorem trod_bool_form {H : Type} {enc : TypeId × Value → H} {P : Program} {w : World} {base : Nat} {sp : Nat → Bool} {held : Bool} {fuel : Nat} {t : TypeId} {c : Value} {x : DataW H × List MemPlace} (ht : P.underlying t = some .bool)
    (h : DataW.trod enc P w base sp held fuel t [c] = some x) : ∃ b, c = .bool b ∧ x = (.lit (.bool b), []) := by
  cases fuel with
  | zero => simp [DataW.trod] at h
  | succ fuel =>
    simp only [DataW.trod, ht] at h
    split at h
    · rename_i e1 e2
      simp at e2
      subst e2
      exact ⟨_, rfl, (Option.some.inj h).symm⟩
    all_goals first | (rename_i e1 _; cases e1; done) | (cases h; done) | skip
    all_goals simp_all
set_option maxRecDepth 100000 in
theorem trod_num_form {H : Type} {enc : TypeId × Value → H} {W : World} {base : Nat} {sp : Nat → Bool} {held : Bool} {fuel : Nat} {c0 c1 : Value} {x : DataW H × List MemPlace}
    (h : DataW.trod enc Tryz.prog W base sp held fuel 24 [c0, c1] = some x) : ∃ n : Nat, n < 340282366920938463463374607431768211456 ∧ c0 = .int .u64 (hi n) ∧ c1 = .int .u64 (lo n) ∧ x = (numD n, []) ∧ numOk n := by
  obtain ⟨y0, y1, m, rfl, _, h0, h1⟩ := trod_struct2 Tryz.underlying24 h
  have h0' : DataW.trod enc Tryz.prog W base sp held m 22 [c0] = some y0 := h0
  have h1' : DataW.trod enc Tryz.prog W base sp held m 22 [c1] = some y1 := h1
  obtain ⟨a, e0, rfl, wa⟩ := DataW.trod_int Tryz.underlying22 h0'
  obtain ⟨b, e1, rfl, wb⟩ := DataW.trod_int Tryz.underlying22 h1'
  simp at e0 e1
  subst e0 e1
  obtain ⟨a0, a1⟩ := u64_bd wa
  obtain ⟨b0', b1⟩ := u64_bd wb
  refine ⟨num a b, num_lt a1 b1, ?_, ?_, ?_, ?_, ?_⟩
  · rw [hi_num a0 a1 b0' b1]
  · rw [lo_num b0' b1]
  · unfold numD; rw [hi_num a0 a1 b0' b1, lo_num b0' b1]; rfl
  · rw [hi_num a0 a1 b0' b1]; exact wa
  · rw [lo_num b0' b1]; exact wb
set_option maxRecDepth 100000 in
theorem trod_num_mk {H : Type} {enc : TypeId × Value → H} {W : World} {base : Nat} {sp : Nat → Bool} {held : Bool} {n : Nat} (h : numOk n) : DataW.trod enc Tryz.prog W base sp held 2 24 [.int .u64 (hi n), .int .u64 (lo n)] = some (numD n, []) := by
  obtain ⟨wa, wb⟩ := h
  have := trod_struct2_mk (enc := enc) (w := W) (base := base) (spare := sp) (held := held) (n := 1) (cs := [.int .u64 (hi n), .int .u64 (lo n)]) (y0 := (.lit (.int .u64 (hi n)), [])) (y1 := (.lit (.int .u64 (lo n)), [])) Tryz.underlying24 Tryz.cellsNum.symm
    (by show DataW.trod enc Tryz.prog W base sp held 1 22 [.int .u64 (hi n)] = _; simp [DataW.trod, Tryz.underlying22, wa])
    (by show DataW.trod enc Tryz.prog W base sp held 1 22 [.int .u64 (lo n)] = _; simp [DataW.trod, Tryz.underlying22, wb])
  exact this
set_option maxRecDepth 100000 in
theorem trod_addr_form {H : Type} {enc : TypeId × Value → H} {W : World} {base : Nat} {sp : Nat → Bool} {held : Bool} {fuel : Nat} {c0 c1 c2 : Value} {x : DataW H × List MemPlace}
    (h : DataW.trod enc Tryz.prog W base sp held fuel 26 [c0, c1, c2] = some x) : ∃ (v : Bool) (n : Nat), n < 340282366920938463463374607431768211456 ∧ c0 = .bool v ∧ c1 = .int .u64 (hi n) ∧ c2 = .int .u64 (lo n) ∧ x = (addrD v n, []) ∧ numOk n := by
  obtain ⟨y0, y1, m, rfl, _, h0, h1⟩ := trod_struct2 Tryz.underlying26 h
  have h0' : DataW.trod enc Tryz.prog W base sp held m 4 [c0] = some y0 := h0
  have h1' : DataW.trod enc Tryz.prog W base sp held m 24 [c1, c2] = some y1 := h1
  obtain ⟨v, rfl, rfl⟩ := trod_bool_form Tryz.underlying4 h0'
  obtain ⟨n, hn, rfl, rfl, rfl, ho⟩ := trod_num_form h1'
  exact ⟨v, n, hn, rfl, rfl, rfl, rfl, ho⟩
set_option maxRecDepth 100000 in
theorem trod_addr_mk {H : Type} {enc : TypeId × Value → H} {W : World} {base : Nat} {sp : Nat → Bool} {held : Bool} {v : Bool} {n : Nat} (h : numOk n) : DataW.trod enc Tryz.prog W base sp held 3 26 [.bool v, .int .u64 (hi n), .int .u64 (lo n)] = some (addrD v n, []) := by
  have := trod_struct2_mk (enc := enc) (w := W) (base := base) (spare := sp) (held := held) (n := 2) (cs := [.bool v, .int .u64 (hi n), .int .u64 (lo n)]) (y0 := (.lit (.bool v), [])) (y1 := (numD n, [])) Tryz.underlying26 Tryz.cellsAddr.symm
    (by show DataW.trod enc Tryz.prog W base sp held 2 4 [.bool v] = _; simp [DataW.trod, Tryz.underlying4])
    (trod_num_mk h)
  exact this
end Go.Proofs.YtpfilldnfpcpkaaGreatDoor

namespace Go.Proofs.YtpfilldnfpcpkaaGreatDoor
open Go.ChangeShapes Go.WideShapes Go.ChangeAt Go.RowKit Go.Joins

set_option maxRecDepth 100000 in
theorem Tryz.cellsPfx : Tryz.prog.cellsOf 28 = 4 := by kernel_rfl
def pfxD {H : Type} (v : Bool) (n : Nat) (b : Int) : DataW H := .agg [addrD v n, .lit (.int .i64 b)]
def pfxOk (n : Nat) (b : Int) : Prop := numOk n ∧ (Lit.int .i64 b).wf = true
set_option maxRecDepth 100000 in
theorem trod_pfx_form {H : Type} {enc : TypeId × Value → H} {W : World} {base : Nat} {sp : Nat → Bool} {held : Bool} {fuel : Nat} {c0 c1 c2 c3 : Value} {x : DataW H × List MemPlace}
    (h : DataW.trod enc Tryz.prog W base sp held fuel 28 [c0, c1, c2, c3] = some x) : ∃ (v : Bool) (n : Nat) (b : Int), n < 340282366920938463463374607431768211456 ∧ c0 = .bool v ∧ c1 = .int .u64 (hi n) ∧ c2 = .int .u64 (lo n) ∧ c3 = .int .i64 b ∧ x = (pfxD v n b, []) ∧ pfxOk n b := by
  obtain ⟨y0, y1, m, rfl, _, h0, h1⟩ := trod_struct2 Tryz.underlying28 h
  have h0' : DataW.trod enc Tryz.prog W base sp held m 26 [c0, c1, c2] = some y0 := h0
  have h1' : DataW.trod enc Tryz.prog W base sp held m 3 [c3] = some y1 := h1
  obtain ⟨v, n, hn, rfl, rfl, rfl, rfl, ho⟩ := trod_addr_form h0'
  obtain ⟨b, e1, rfl, wb⟩ := DataW.trod_int Tryz.underlying3 h1'
  simp at e1
  subst e1
  exact ⟨v, n, b, hn, rfl, rfl, rfl, rfl, rfl, ho, wb⟩
set_option maxRecDepth 100000 in
theorem trod_pfx_mk {H : Type} {enc : TypeId × Value → H} {W : World} {base : Nat} {sp : Nat → Bool} {held : Bool} {v : Bool} {n : Nat} {b : Int} (h : pfxOk n b) : DataW.trod enc Tryz.prog W base sp held 4 28 [.bool v, .int .u64 (hi n), .int .u64 (lo n), .int .i64 b] = some (pfxD v n b, []) := by
  have wb := h.2
  have := trod_struct2_mk (enc := enc) (w := W) (base := base) (spare := sp) (held := held) (n := 3) (cs := [.bool v, .int .u64 (hi n), .int .u64 (lo n), .int .i64 b]) (y0 := (addrD v n, [])) (y1 := (.lit (.int .i64 b), [])) Tryz.underlying28 Tryz.cellsPfx.symm
    (trod_addr_mk h.1)
    (by show DataW.trod enc Tryz.prog W base sp held 3 3 [.int .i64 b] = _; simp [DataW.trod, Tryz.underlying3, wb])
  exact this
theorem arr4 {α : Type} {cs : Array α} (h : cs.size = 4) : ∃ c0 c1 c2 c3, cs = #[c0, c1, c2, c3] := by
  rcases cs with ⟨l⟩
  match l, h with
  | [a, b, c, d], _ => exact ⟨a, b, c, d, rfl⟩
set_option maxRecDepth 100000 in
/-- a prefix as an argument -/
theorem open_pfx {H : Type} {enc : TypeId × Value → H} {W : World} {base b0 : Nat} {sp : Nat → Bool} {v : Value} {d : DataW H} {p : List MemPlace} {r : Reach}
    (hv : Value.okWide Tryz.prog W r b0 28 v) (h : DataW.Trod enc Tryz.prog W base sp true 28 v d p) :
    ∃ (u : Bool) (n : Nat) (b : Int), n < 340282366920938463463374607431768211456 ∧ (Lit.int .i64 b).wf = true ∧ v = PfxV u n b ∧ d = pfxD u n b ∧ p = [] ∧ pfxOk n b := by
  obtain ⟨cs, rfl, hsz⟩ := okWide_struct Tryz.underlying28 hv
  obtain ⟨c0, c1, c2, c3, rfl⟩ := arr4 (hsz.trans Tryz.cellsPfx)
  obtain ⟨fuel, hf⟩ := h
  obtain ⟨u, n, b, hn, rfl, rfl, rfl, rfl, e, ho⟩ := trod_pfx_form hf
  simp only [Prod.mk.injEq] at e
  exact ⟨u, n, b, hn, ho.2, rfl, e.1, e.2, ho⟩
set_option maxRecDepth 100000 in
theorem shut_pfx {H : Type} {enc : TypeId × Value → H} {W : World} {base : Nat} {sp : Nat → Bool} {u : Bool} {n : Nat} {b : Int} (h : pfxOk n b) :
    DataW.Trod enc Tryz.prog W base sp true 28 (PfxV u n b) (pfxD u n b) [] := ⟨4, trod_pfx_mk h⟩
end Go.Proofs.YtpfilldnfpcpkaaGreatDoor

namespace Go.Proofs.YtpfilldnfpcpkaaGreatDoor
open Go.ChangeShapes Go.WideShapes Go.ChangeAt Go.RowKit
open Go.ChangeMaps (open_string shut_string)

set_option maxRecDepth 100000 in
theorem blocksNil_lifted (os : Os) (started : os.Started) (H : Type) (enc : TypeId × Value → H) :
    ReturnsInHanded {} Tryz.checked os 11 .any (fun w args => (Rows.blocksNilSpec.pre enc Tryz.prog Tryz.f11 [] false w args ∧ laidMetH Tryz.prog listA w) ∧ sizedMet enc Tryz.prog Tryz.f11 (OpenSpec.ofChange Rows.blocksNilSpec) false w args)
      (Rows.blocksNilSpec.post enc Tryz.prog Tryz.f11 false true false false) := by
  refine lift_shaped (C := Tryz.checked) (X := fun w _ => laidMetH Tryz.prog listA w) (fun _ _ _ hh h => h.of_heap hh) Tryz.own started (by kernel_rfl) Tryz.func11
    (ChangeSpec.witness_shaped (enc := enc) (C := Tryz.checked) (os := os) (X := fun w _ => laidMetH Tryz.prog listA w) false (World.laidAll Tryz.prog os listA) #[.agg #[.bool false, .int .u64 0, .int .u64 0, .int .i64 0]] 8 (World.laidAll_os _ _ _) (World.shaped_of_ZipB (by kernel_rfl) (by kernel_rfl)) (by kernel_rfl) (by kernel_rfl) (by kernel_rfl) (doorA_met os _)) ?_
  intro W base args ds gs before hval0 hW hL hSh
  have hval : ∀ (j : Nat) t v, Tryz.f11.params[j]? = some t → args[j]? = some v → Value.okWide Tryz.prog W .any base t v := hval0
  have hW' := hW
  obtain ⟨p, q, hA0, hV, rfl, _, _⟩ := hW
  have hA : DataW.TrodAll enc Tryz.prog W 0 (fun _ => true) true Tryz.f11.params.toList args.toList ds p := hA0
  rw [Tryz.params11] at hA hval
  obtain ⟨v0, d0, rfl, rfl, h0⟩ := trodAll_one hA
  obtain ⟨rfl, rfl⟩ := trodVars_none hV
  obtain ⟨u0, x0, b0, hx0, hb0, rfl, rfl, rfl, ho0⟩ := open_pfx (hval 0 28 v0 rfl rfl) h0
  clear hA0 hval0
  simp only [List.append_nil] at hW'
  refine (blocksNil_walk u0 x0 b0 W hx0 hb0 (glob_of hL hSh)).mono fun e W' ⟨he, hw⟩ => ?_
  subst he
  exact ⟨_, rfl, post_below (pa := []) (pv := []) hW' (fun _ _ _ => trodAll_mk1 (shut_bool Tryz.underlying4 _)) (fun sp _ => trodAll_mk1 (shut_pfx ho0)) (fun _ _ => rfl) rfl
    hw (ok_one (by kernel_rfl) rfl (okWide_bool_mk Tryz.underlying4 _))⟩

theorem blocksNil_row : Rows.BlocksNilSaid :=
  OpenClaim.holds_of_wide 11 Tryz.f11 rfl rfl rfl rfl rfl rfl rfl ⟨rfl, rfl, rfl, rfl, rfl⟩ rfl rfl rfl rfl rfl (by kernel_rfl) Tryz.func11 (by kernel_rfl)
    (of_decide_eq_true (by kernel_rfl)) (by unfold Func.isWrapper; first | (rw [if_pos (by decide +kernel)]; kernel_rfl) | (rw [if_neg (by decide +kernel)]; exact ⟨rfl, rfl⟩))
    (fun os started H enc _ => blocksNil_lifted os started H enc)

theorem blocksNil_card : Rows.BlocksNilCardSaid :=
  Claim7.holds_tied_plain_at .later [] [.data, .data, .data, .data, .sentinel, .sentinel, .pinned] true Rows.blocksNilCard.stood.harness true
    blocksNil_row (fun _ h => by cases h) (by kernel_rfl) (fun _ h => by cases h) blocksNil_row_tie rfl ⟨rfl, rfl⟩ (by kernel_rfl) rfl
    (fun f fn hf hfn => by
      obtain rfl : f = 11 := Option.some.inj ((show Tryz.prog.funcNamed "platbook/platbooklaw07.BlocksNil" = some 11 by kernel_rfl).symm.trans hf) |>.symm
      obtain rfl : fn = Tryz.f11 := (Option.some.inj (Tryz.func11.symm.trans hfn)).symm
      exact ⟨by kernel_rfl, fun j t ht => by
        rw [Tryz.params11] at ht
        have hm : t ∈ [28] := by simpa using Array.mem_of_getElem? ht
        have hall : ([28].all fun u => !Tryz.prog.wantsStandIn u) = true := by kernel_rfl
        exact (show Tryz.prog.wantsStandIn t = false by simpa using List.all_eq_true.1 hall t hm)⟩)
    (by kernel_rfl)
end Go.Proofs.YtpfilldnfpcpkaaGreatDoor

#print axioms Go.Proofs.YtpfilldnfpcpkaaGreatDoor.blocksNil_card
