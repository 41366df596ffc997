/-
A part of the proof of blocksBack_card: its lemmas and walks, part 2. No condition.
-/
import Derived.ProofKit
import Derived.ChangeSame
import Derived.Carry
import Derived.Deep.Slices
import Derived.Deep.Fields
import Derived.LaidMore
import Derived.Lay
import Derived.MakeChecks
import Derived.LaidByTextLater
import Derived.OpenShut
import Derived.Stop.Joined
import Derived.Stop.LaidErr
import Derived.Lib.LaidTab
import Derived.Handed
import Derived.Shelf.Vars
import Derived.Test.YtpfilldnfpcpkaaGreatDoorBbkM1
import Derived.Test.YtpfilldnfpcpkaaGreatDoorRows
import Derived.Test.YtpfilldnfpcpkaaGreatDoorCards
import Derived.Test.YtpfilldnfpcpkaaGreatDoorTie
set_option linter.unusedVariables false
set_option linter.unusedSimpArgs false
namespace Go.Proofs.YtpfilldnfpcpkaaGreatDoor
open Go.RowKit Go.Proofs.YtpfilldnfpcpkaaGreatDoorW.PrintWords Go.Proofs.YtpfilldnfpcpkaaGreatDoor.PPo

theorem kblock_lt {v : Bool} {n : Nat} {b bits : Int} {i : Nat} (hc : cutsS v n b bits = true) (hi : i < nB b bits) : n + i * 2 ^ fr v bits < 340282366920938463463374607431768211456 :=
  Nat.lt_of_lt_of_le (rightP_iff.1 (kblock_in hc hi).1).1 (pow_w v)
/-- what overlaps a block overlaps the prefix -/
theorem kblock_over {v : Bool} {n : Nat} {b bits : Int} {j : Nat} {u : Bool} {m : Nat} {k : Int} (hc : cutsS v n b bits = true) (hj : j < nB b bits) (h : overlapS v (n + j * 2 ^ fr v bits) bits u m k = true) : overlapS v n b u m k = true := by
  obtain ⟨rfl, r1, r2⟩ := overlap_kind h
  obtain ⟨h1, h2⟩ := (overlap_iff r1 r2).1 h
  obtain ⟨e1, e2⟩ := within_ends (kblock_in hc hj).2
  exact (overlap_iff (cutsS_iff.1 hc).1 r2).2 ⟨by omega, by omega⟩
theorem cnt_one {f : Nat → Bool} {n x : Nat} (hx : x < n) (hf : f x = false) : cnt f 0 n < n := by
  have := cnt_add hx hf
  have := cnt_le (upd f x true) 0 n
  omega
theorem cnt_all_of {f : Nat → Bool} {n : Nat} (h : cnt f 0 n = n) : ∀ x, x < n → f x = true := by
  intro x hx
  cases hf : f x
  · have := cnt_one hx hf; omega
  · rfl
/-- the prefixes that came in -/
structure PfxRow (w : World) (p : Option Addr) (len : Nat) (U : Nat → Bool) (M : Nat → Nat) (C : Nat → Int) : Prop where
  lt : ∀ i, i < len → M i < 340282366920938463463374607431768211456
  cells : ∀ i, i < len → ∃ (a : Addr), p = some a ∧ a.block < w.heap.size ∧ w.cell? (a.add (i * 4)) = some (.bool (U i)) ∧ w.cell? ⟨(a.add (i * 4)).block, (a.add (i * 4)).off + 1, none⟩ = some (.int .u64 (hi (M i))) ∧
    w.cell? ⟨(a.add (i * 4)).block, (a.add (i * 4)).off + 2, none⟩ = some (.int .u64 (lo (M i))) ∧ w.cell? ⟨(a.add (i * 4)).block, (a.add (i * 4)).off + 3, none⟩ = some (.int .i64 (C i))
theorem add_block (a : Addr) (k : Nat) : (a.add k).block = a.block := by unfold Addr.add; split <;> rfl
theorem PfxRow.after {w w' : World} {p : Option Addr} {len : Nat} {U : Nat → Bool} {M : Nat → Nat} {C : Nat → Int} (h : PfxRow w p len U M C) (hb : Below w.heap.size w w') : PfxRow w' p len U M C := by
  refine ⟨h.lt, fun i hi => ?_⟩
  obtain ⟨a, e, hl, h0, h1, h2, h3⟩ := h.cells i hi
  have hs := hb.size
  have hbl : (a.add (i * 4)).block < w.heap.size := by rw [add_block]; exact hl
  exact ⟨a, e, by omega, (hb.cell hbl).trans h0, (hb.cell (p := ⟨_, _, none⟩) hbl).trans h1, (hb.cell (p := ⟨_, _, none⟩) hbl).trans h2, (hb.cell (p := ⟨_, _, none⟩) hbl).trans h3⟩
end Go.Proofs.YtpfilldnfpcpkaaGreatDoor

namespace Go.Proofs.YtpfilldnfpcpkaaGreatDoor
open Go.RowKit Go.Proofs.YtpfilldnfpcpkaaGreatDoorW.PrintWords Go.Proofs.YtpfilldnfpcpkaaGreatDoor.PPo

theorem glob_tabK {w : World} (h : Glob w) : Tab w := h.bru
theorem IsNext.oneK {f : Nat → Bool} {n a j k : Nat} (h : IsNext f n a j) (hk : k < n) (hf : f k = false) (ha : a ≤ k) (hy : ∀ y, a ≤ y → y < k → f y = true) : j = k := by
  obtain ⟨q1, q2, q3⟩ := h
  rcases q3 with ⟨q3, q4⟩ | ⟨q3, q4, q5⟩
  · rcases Nat.lt_trichotomy j k with e | e | e
    · rw [hy j q3 e] at q2; cases q2
    · exact e
    · rw [q4 k ha e] at hf; cases hf
  · rw [q4 k ha hk] at hf; cases hf
/-- the example's bits -/
def exK : Nat → Bool := fun x => if 0 ≤ x ∧ x ≤ 1 then true else false
theorem exk_new (w : World) :
    Calls Tryz.prog 37 #[.agg #[.bool false, .int .u64 0, .int .u64 167772160, .int .i64 8], .int .i64 16] w fun e w' => ∃ q g c, e = .returned (.tuple #[.pointer (some ⟨q, 0, none⟩), .int .i64 0]) ∧
      SetAt w' q g c false 167772160 8 16 (fun _ => false) 0 ∧ Below w.heap.size w w' ∧ w.heap.size ≤ q ∧ w.heap.size ≤ g ∧ w.heap.size ≤ c :=
  knew_c false 167772160 8 16 w (by decide) (by decide)
theorem exk_span : spanS false 167772160 8 16 false 167772160 15 = (0, 1, 0) := by decide +kernel
theorem exk_fill (q g c : Nat) (w : World) (h : SetAt w q g c false 167772160 8 16 (fun _ => false) 0) :
    Calls Tryz.prog 38 #[.pointer (some ⟨q, 0, none⟩), .agg #[.bool false, .int .u64 0, .int .u64 167772160, .int .i64 15]] w fun e w' =>
      e = .returned (.tuple #[.int .i64 2, .int .i64 0]) ∧ SetAt w' q g c false 167772160 8 16 exK 0 ∧ w.grownBy w' (some c) := by
  have := kfill_c q g c false 167772160 8 16 (fun _ => false) 0 167772160 15 w h (by decide) (by decide +kernel)
  rw [exk_span] at this
  exact this
theorem exk_next (q g c : Nat) (w : World) (h : SetAt w q g c false 167772160 8 16 exK 0) (hT : Tab w) :
    Calls Tryz.prog 40 #[.pointer (some ⟨q, 0, none⟩)] w fun x w' =>
      x = .returned (.tuple #[.agg #[.bool false, .int .u64 0, .int .u64 167903232, .int .i64 16], .int .i64 0]) ∧ Fr2 q c w w' := by
  refine (knext_c q g c false 167772160 8 16 exK 0 w h hT).mono ?_
  rintro e w' (⟨j, hj, rfl, _, hF⟩ | ⟨hall, _, _⟩)
  · obtain rfl : j = 2 := hj.oneK (by decide) (by decide) (by decide) (fun y _ h2 => by unfold exK; rw [if_pos ⟨by omega, by omega⟩])
    exact ⟨by rw [show 167772160 + 2 * 2 ^ fr false 16 = 167903232 from by decide]; rfl, hF⟩
  · exact absurd (hall 2 (by decide)) (by decide)
set_option maxRecDepth 20000 in
set_option maxHeartbeats 1000000 in
theorem awake07_c (w : World) (hG : Glob w) :
    Calls Tryz.prog 35 #[] w fun e w' => e = .returned (.bool true) ∧ Below w.heap.size w w' := by
  have HP := Lib.hid (fun w hG => prefix_Parse.calls ⟨#[49, 48, 46, 48, 46, 48, 46, 48, 47, 56]⟩ false 0 167772160 8 0 w hG (by decide +kernel))
  have HQ := Lib.hid (fun w hG => prefix_Parse.calls ⟨#[49, 48, 46, 48, 46, 48, 46, 48, 47, 49, 53]⟩ false 0 167772160 15 0 w hG (by decide +kernel))
  have HA := Lib.hid (fun w hG => prefix_Print.calls false 0 167903232 16 ⟨#[49, 48, 46, 50, 46, 48, 46, 48, 47, 49, 54]⟩ w hG (by decide +kernel))
  have hGw := Lib.hid hG
  go_enter Tryz.func35, Tryz.ntmps35
  go_wp2_with fail
  with_reducible refine (HP.out w hG).mono ?_
  rintro e w1 ⟨rfl, hbel⟩
  clear HP
  go_wp2_with fail
  have hA := Blk.new w1 28 #[.bool false, .int .u64 0, .int .u64 167772160, .int .i64 8]
  replace hbel := bl_alloc hbel (.cells #[.bool false, .int .u64 0, .int .u64 167772160, .int .i64 8] 28)
  generalize w1.alloc (.cells #[.bool false, .int .u64 0, .int .u64 167772160, .int .i64 8] 28) = w2 at *
  generalize w1.heap.size = ga at *
  refine (HQ.out w2 (hGw.out.after hbel)).mono ?_
  rintro e w3 ⟨rfl, hb3⟩
  replace hA := hA.after hb3
  replace hbel := bl_trans hbel hb3
  clear hb3
  have hal := hA.lt
  have a0 := (hA.cell 0).trans rfl
  have a1 := (hA.cell 1).trans rfl
  have a2 := (hA.cell 2).trans rfl
  have a3 := (hA.cell 3).trans rfl
  simp only [List.getElem?_toArray, List.getElem?_cons_zero, List.getElem?_cons_succ] at a0 a1 a2 a3
  go_wp2_with fail
  have hB := Blk.new w3 28 #[.bool false, .int .u64 0, .int .u64 167772160, .int .i64 15]
  replace hbel := bl_alloc hbel (.cells #[.bool false, .int .u64 0, .int .u64 167772160, .int .i64 15] 28)
  clear a0 a1 a2 a3 hA hal
  generalize w3.alloc (.cells #[.bool false, .int .u64 0, .int .u64 167772160, .int .i64 15] 28) = w4 at *
  generalize w3.heap.size = gb at *
  refine (exk_new w4).mono ?_
  rintro e w5 ⟨q, g, c, rfl, hs, hb5, hq, -, hc⟩
  have hqw : w.heap.size ≤ q := Nat.le_trans hbel.size hq
  have hcw : w.heap.size ≤ c := Nat.le_trans hbel.size hc
  replace hB := hB.after hb5
  replace hbel := bl_trans hbel hb5
  clear hb5 hq hc
  have a0 := (hB.cell 0).trans rfl
  have a1 := (hB.cell 1).trans rfl
  have a2 := (hB.cell 2).trans rfl
  have a3 := (hB.cell 3).trans rfl
  simp only [List.getElem?_toArray, List.getElem?_cons_zero, List.getElem?_cons_succ] at a0 a1 a2 a3
  go_wp2_with fail
  refine (exk_fill q g c w5 hs).mono ?_
  rintro e w6 ⟨rfl, hs6, hg6⟩
  replace hbel := bl_grown hbel hg6 hcw
  clear a0 a1 a2 a3 hB hs hg6
  go_wp2_with fail
  refine (exk_next q g c w6 hs6 (glob_tabK (hGw.out.after hbel))).mono ?_
  rintro e w7 ⟨rfl, hF⟩
  replace hbel := bl_fr2 hbel hF hqw hcw
  clear hs6 hF
  go_wp2_with fail
  refine (HA.out _ (hGw.out.after (bl_alloc hbel _))).mono ?_
  rintro e w8 ⟨rfl, hb8⟩
  replace hbel := bl_trans (bl_alloc hbel _) hb8
  clear hb8
  go_wp2_with fail
  go_ret
  exact ⟨rfl, hbel⟩
end Go.Proofs.YtpfilldnfpcpkaaGreatDoor

namespace Go.Proofs.YtpfilldnfpcpkaaGreatDoor
open Go.RowKit Go.Proofs.YtpfilldnfpcpkaaGreatDoorW.PrintWords Go.Proofs.YtpfilldnfpcpkaaGreatDoor.PPo

theorem pcells_of {w : World} {g : Nat} {v : Bool} {x y k : Int} (h : Blk w g 28 #[.bool v, .int .u64 x, .int .u64 y, .int .i64 k]) :
    w.cell? ⟨g, 0, none⟩ = some (.bool v) ∧ w.cell? ⟨g, 1, none⟩ = some (.int .u64 x) ∧ w.cell? ⟨g, 2, none⟩ = some (.int .u64 y) ∧ w.cell? ⟨g, 3, none⟩ = some (.int .i64 k) :=
  ⟨(h.cell 0).trans rfl, (h.cell 1).trans rfl, (h.cell 2).trans rfl, (h.cell 3).trans rfl⟩
end Go.Proofs.YtpfilldnfpcpkaaGreatDoor

namespace Go.Proofs.YtpfilldnfpcpkaaGreatDoor
open Go.RowKit Go.Proofs.YtpfilldnfpcpkaaGreatDoorW.PrintWords Go.Proofs.YtpfilldnfpcpkaaGreatDoor.PPo

theorem own_pfxRow {w : World} {base cap : Nat} {p : Option Addr} {v : Bool} {n : Nat} {bits : Int} {js : List Nat} (h : w.ownsRow base 28 4 (.slice p js.length cap) js.length (blkV v n bits js)) (hl : ∀ j ∈ js, n + j * 2 ^ fr v bits < 340282366920938463463374607431768211456) :
    PfxRow w p js.length (fun _ => v) (fun t => n + js.getD t 0 * 2 ^ fr v bits) (fun _ => bits) := by
  refine ⟨fun i hi => hl _ (by simp [List.getD, hi]), fun i hi => ?_⟩
  rcases h.2 with ⟨e, h0⟩ | ⟨g, cap', cur, e, hb, hh, _⟩
  · omega
  · cases e
    have hg : (Value.slice (some (⟨g, 0, none⟩ : Addr)) js.length cap).ownBlock = some g := rfl
    obtain ⟨e0, e1, e2, e3⟩ := blkV_get v n bits js i hi
    have hc := h.cells hg
    have hs : (⟨g, 0, none⟩ : Addr).add (i * 4) = ⟨g, i * 4, none⟩ := by unfold Addr.add; split <;> simp_all
    have ha : ∀ k, (⟨g, 0, none⟩ : Addr).add (i * 4 + k) = ⟨g, i * 4 + k, none⟩ := fun k => by unfold Addr.add; split <;> simp_all
    have c0 := hc _ _ e0
    have c1 := hc _ _ e1
    have c2 := hc _ _ e2
    have c3 := hc _ _ e3
    rw [ha] at c1 c2 c3
    have hd : js.getD i 0 = js[i] := by simp [List.getD, hi]
    refine ⟨_, rfl, ?_, c0, ?_, ?_, ?_⟩
    · rcases Nat.lt_or_ge g w.heap.size with k | k
      · exact k
      · rw [Array.getElem?_eq_none k] at hh; cases hh
    · rw [hs, hd]; exact c1
    · rw [hs, hd]; exact c2
    · rw [hs]; exact c3
theorem PfxRow.at_ {w : World} {p : Option Addr} {len : Nat} {U : Nat → Bool} {M : Nat → Nat} {C : Nat → Int} (h : PfxRow w p len U M C) {i : Nat} (hi' : i < len) : ∃ (a : Addr), p = some a ∧ a.block < w.heap.size ∧ ∀ w', Below w.heap.size w w' →
    (w'.cell? (a.add (i * 4)) = some (.bool (U i)) ∧ w'.cell? ⟨(a.add (i * 4)).block, (a.add (i * 4)).off + 1, none⟩ = some (.int .u64 (hi (M i))) ∧ w'.cell? ⟨(a.add (i * 4)).block, (a.add (i * 4)).off + 2, none⟩ = some (.int .u64 (lo (M i))) ∧ w'.cell? ⟨(a.add (i * 4)).block, (a.add (i * 4)).off + 3, none⟩ = some (.int .i64 (C i))) := by
  obtain ⟨a, e, hl, h0, h1, h2, h3⟩ := h.cells i hi'
  have hbl : (a.add (i * 4)).block < w.heap.size := by rw [add_block]; exact hl
  exact ⟨a, e, hl, fun w' hb => ⟨(hb.cell hbl).trans h0, (hb.cell (p := ⟨_, _, none⟩) hbl).trans h1, (hb.cell (p := ⟨_, _, none⟩) hbl).trans h2, (hb.cell (p := ⟨_, _, none⟩) hbl).trans h3⟩⟩
theorem own_fr2 {w w' : World} {base n size q c : Nat} {e tq tc : TypeId} {v : Value} {xs : List Value} {cq cc : Array Value} (h : w.ownsRow base e size v n xs) (hF : Fr2 q c w w') (hq : Blk w q tq cq) (hc : Blk w c tc cc) (h1 : tq ≠ e) (h2 : tc ≠ e) : w'.ownsRow base e size v n xs := by
  have n1 := hq.ne_own h h1
  have n2 := hc.ne_own h h2
  refine ⟨h.1, h.2.imp id ?_⟩
  rintro ⟨g, cap, cur, rfl, hb, hh, h3⟩
  refine ⟨g, cap, cur, rfl, hb, ?_, h3⟩
  have hg : g < w.heap.size := by
    rcases Nat.lt_or_ge g w.heap.size with k | k
    · exact k
    · rw [Array.getElem?_eq_none k] at hh; cases hh
  rw [hF.block g hg (fun e => n1 (by simp [Value.ownBlock, e])) (fun e => n2 (by simp [Value.ownBlock, e]))]
  exact hh
theorem SetAt.own {w w' : World} {q g c : Nat} {v : Bool} {n : Nat} {b bits : Int} {f : Nat → Bool} {cur : Nat} (h : SetAt w q g c v n b bits f cur) {base m size : Nat} {u : Value} {xs : List Value} (ho : w.ownsRow base 28 size u m xs) (hg : w.grownBy w' u.ownBlock) : SetAt w' q g c v n b bits f cur :=
  ⟨h.head.grown hg (h.head.ne_own ho (by decide)), ⟨h.map.head.grown hg (h.map.head.ne_own ho (by decide)), h.map.row.grown hg (h.map.row.ne_own ho (by decide)), h.map.ne, h.map.small, h.map.top⟩, h.cuts, h.few, h.at_⟩
theorem ksmall_k (v : Bool) (n : Nat) (b bits : Int) (w : World) (hn : n < 340282366920938463463374607431768211456) :
    Calls Tryz.prog 36 #[.agg #[.bool v, .int .u64 (hi n), .int .u64 (lo n), .int .i64 b], .int .i64 bits] w fun e w' => e = .returned (.bool (cutsS v n b bits && decide (bits - b ≤ 8))) ∧ Below w.heap.size w w' :=
  platbooklaw07_small.calls 600 v (hi n) (lo n) b bits _ w (by
    unfold platbooklaw07_small.f
    rw [rcuts_f 600 (Nat.le_refl _) v n b bits hn]
    simp only [bsome]
    cases hc : cutsS v n b bits
    · simp
    · obtain ⟨h1, h2, h3⟩ := cutsS_iff.1 hc
      obtain ⟨_, r2, r3, _⟩ := rightP_iff.1 h1
      have := widthN_le v
      rw [w64 (by omega) (by omega)]
      simp)
end Go.Proofs.YtpfilldnfpcpkaaGreatDoor

namespace Go.Proofs.YtpfilldnfpcpkaaGreatDoor
open Go.RowKit Go.Proofs.YtpfilldnfpcpkaaGreatDoorW.PrintWords Go.Proofs.YtpfilldnfpcpkaaGreatDoorW.PrintLast Go.Proofs.YtpfilldnfpcpkaaGreatDoorW.PrintMore Go.Proofs.YtpfilldnfpcpkaaGreatDoor.PPo
def tabT_45_10 : Bool × List (List Nat × List Nat) := (true, [([], []), ([], []), ([], []), ([2, 2], [2]), ([0, 1, 3], [0, 1, 3]), ([4], [4]), ([5, 0, 1, 2, 3, 4, 5], [5])])
def tabB_45_10 : List Nat := [0, 0, 0, 4, 15, 31, 63]
theorem tabH_45_10 : rtab .any (opsOf Tryz.f45 10) = tabT_45_10 := by kernel_rfl
theorem tabK_45_10 : waitsOk tabT_45_10.2 tabB_45_10 = true := by kernel_rfl
def tabT_45_15 : Bool × List (List Nat × List Nat) := (true, [([], []), ([], []), ([1], [1]), ([2], [2]), ([3], [3]), ([], []), ([5], [5]), ([4, 6], [4, 6]), ([0, 0, 1, 2, 3, 4, 5, 6, 7], [0]), ([8, 0, 1, 2, 3, 4, 5, 6, 7], [8]), ([9, 7, 7, 0, 1, 2, 3, 4, 5, 6, 7], [7, 9])])
def tabB_45_15 : List Nat := [0, 0, 2, 6, 14, 0, 32, 126, 255, 511, 1023]
theorem tabH_45_15 : rtab .any (opsOf Tryz.f45 15) = tabT_45_15 := by kernel_rfl
theorem tabK_45_15 : waitsOk tabT_45_15.2 tabB_45_15 = true := by kernel_rfl

/-- in w the reference's set of a prefix lies at block q, its blocks a row of its own, its truths at uc -/
structure RSetAt (w : World) (base q : Nat) (lp : Option Addr) (lcap uc : Nat) (v : Bool) (n : Nat) (b bits : Int) (f : Nat → Bool) (cur : Nat) : Prop where
  head : Blk w q 92 #[.bool v, .int .u64 (hi n), .int .u64 (lo n), .int .i64 b, .int .i64 bits, .slice lp (nB b bits) lcap, .slice (some ⟨uc, 0, none⟩) (nB b bits) (nB b bits), .int .i64 cur]
  list : w.ownsRow base 28 4 (.slice lp (nB b bits) lcap) (nB b bits) (blkV v n bits (List.range (nB b bits)))
  used : Blk w uc 4 (boolsV f (nB b bits)).toArray
  cuts : cutsS v n b bits = true
  few : bits - b ≤ 16
  at_ : cur < nB b bits
theorem RSetAt.after {w w' : World} {base q lcap uc : Nat} {lp : Option Addr} {v : Bool} {n : Nat} {b bits : Int} {f : Nat → Bool} {cur : Nat} (h : RSetAt w base q lp lcap uc v n b bits f cur) (hb : Below w.heap.size w w') : RSetAt w' base q lp lcap uc v n b bits f cur :=
  ⟨h.head.after hb, own_afterS h.list hb, h.used.after hb, h.cuts, h.few, h.at_⟩
theorem rset_cells {w : World} {base q lcap uc : Nat} {lp : Option Addr} {v : Bool} {n : Nat} {b bits : Int} {f : Nat → Bool} {cur : Nat} (h : RSetAt w base q lp lcap uc v n b bits f cur) :
    w.cell? ⟨q, 0, none⟩ = some (.bool v) ∧ w.cell? ⟨q, 1, none⟩ = some (.int .u64 (hi n)) ∧ w.cell? ⟨q, 2, none⟩ = some (.int .u64 (lo n)) ∧ w.cell? ⟨q, 3, none⟩ = some (.int .i64 b) ∧ w.cell? ⟨q, 4, none⟩ = some (.int .i64 bits) ∧ w.cell? ⟨q, 5, none⟩ = some (.slice lp (nB b bits) lcap) ∧ w.cell? ⟨q, 6, none⟩ = some (.slice (some ⟨uc, 0, none⟩) (nB b bits) (nB b bits)) ∧ w.cell? ⟨q, 7, none⟩ = some (.int .i64 cur) :=
  ⟨(h.head.cell 0).trans rfl, (h.head.cell 1).trans rfl, (h.head.cell 2).trans rfl, (h.head.cell 3).trans rfl, (h.head.cell 4).trans rfl, (h.head.cell 5).trans rfl, (h.head.cell 6).trans rfl, (h.head.cell 7).trans rfl⟩
theorem rkblock_k (v : Bool) (n : Nat) (b bits : Int) (i : Nat) (w : World) (hc : cutsS v n b bits = true) (hi' : i < nB b bits) (h64 : i < 18446744073709551616) :
    Calls Tryz.prog 100 #[.agg #[.bool v, .int .u64 (hi n), .int .u64 (lo n), .int .i64 b], .int .i64 bits, .agg #[.int .u64 0, .int .u64 (i : Int)]] w fun e w' =>
      e = .returned (.tuple #[.agg #[.bool v, .int .u64 (hi (n + i * 2 ^ fr v bits)), .int .u64 (lo (n + i * 2 ^ fr v bits)), .int .i64 bits], .int .i64 0]) ∧ Below w.heap.size w w' := by
  have hn : n < 340282366920938463463374607431768211456 := Nat.lt_of_lt_of_le (rightP_iff.1 (cutsS_iff.1 hc).1).1 (pow_w v)
  have hbb := (cutsS_iff.1 hc).2.1
  have hl : (lenN i : Int) ≤ bits - b := by
    have := (lenN_iff i (bits - b).toNat).2 hi'
    omega
  obtain ⟨e, _⟩ := block_at hc hl
  have hf := rblock_f 1000 (by omega) v n b bits i hn (by omega)
  rw [e, hi_zero' h64, lo_is h64] at hf
  exact platbookref04_Block.calls 1000 v (hi n) (lo n) b bits 0 (i : Int) _ _ _ _ _ w hf
theorem kown_far {w : World} {base n size : Nat} {e : TypeId} {v : Value} {xs : List Value} (h : w.ownsRow base e size v n xs) {p : Addr} (hp : some p.block ≠ v.ownBlock) (u : Value) : (w.setCell p u).ownsRow base e size v n xs := by
  obtain ⟨h1, h2⟩ := h
  refine ⟨h1, h2.imp id ?_⟩
  rintro ⟨g, cap, cur, rfl, hb, hh, h3⟩
  refine ⟨g, cap, cur, rfl, hb, ?_, h3⟩
  rw [Below.heap_setCell w p u g (fun e => hp (by simp [Value.ownBlock, e]))]
  exact hh
theorem one4 (v : Bool) (a b c : Int) : ∀ u ∈ [Value.bool v, Value.int .u64 a, Value.int .u64 b, Value.int .i64 c], u.oneCell' = true := by
  intro u hu; simp at hu; rcases hu with rfl | rfl | rfl | rfl <;> rfl
set_option maxRecDepth 100000 in
set_option maxHeartbeats 4000000 in
theorem rknew_c (v : Bool) (n : Nat) (b bits : Int) (w : World) (hc : cutsS v n b bits = true) (h16 : bits - b ≤ 16) :
    Calls Tryz.prog 45 #[.agg #[.bool v, .int .u64 (hi n), .int .u64 (lo n), .int .i64 b], .int .i64 bits] w fun e w' => ∃ q lp lcap uc, e = .returned (.tuple #[.pointer (some ⟨q, 0, none⟩), .int .i64 0]) ∧
      RSetAt w' (w.heap.size + 1) q lp lcap uc v n b bits (fun _ => false) 0 ∧ Below w.heap.size w w' ∧ w.heap.size ≤ q ∧ w.heap.size ≤ uc := by
  have hn : n < 340282366920938463463374607431768211456 := Nat.lt_of_lt_of_le (rightP_iff.1 (cutsS_iff.1 hc).1).1 (pow_w v)
  obtain ⟨_, r2, r3, _⟩ := rightP_iff.1 (cutsS_iff.1 hc).1
  have hwv := widthN_le v
  have hbb := (cutsS_iff.1 hc).2.1
  have hbw := (cutsS_iff.1 hc).2.2
  have hN := nB_le h16
  have hN0 := nB_pos b bits
  have HC := Lib.hid (fun w => platbookref04_Cuts.calls 600 v (hi n) (lo n) b bits _ w (rcuts_f 600 (Nat.le_refl _) v n b bits hn))
  rw [hc] at HC
  have HB := Lib.hid (fun i w hi' => rkblock_k v n b bits i w hc hi' (by omega))
  have hwd : IntKind.i64.wrap (bits - b) = bits - b := by rw [IntKind.wrap_i64]; omega
  have d16 : decide ((16 : Int) < bits - b) = false := decide_eq_false (by omega)
  have hmk := make_bools (nB b bits) hN
  go_enter Tryz.func45, Tryz.ntmps45
  go_wp2_with fail
  have hA : Blk (w.alloc (Obj.cells #[.bool v, .int .u64 (hi n), .int .u64 (lo n), .int .i64 b] 28)) (w.heap.size) 28 #[.bool v, .int .u64 (hi n), .int .u64 (lo n), .int .i64 b] := (Blk.new' _ _ _ _ (by simp) : Blk (w.alloc (Obj.cells #[.bool v, .int .u64 (hi n), .int .u64 (lo n), .int .i64 b] 28)) (w.heap.size) 28 #[.bool v, .int .u64 (hi n), .int .u64 (lo n), .int .i64 b])
  have hbel : Below w.heap.size w (w.alloc (Obj.cells #[.bool v, .int .u64 (hi n), .int .u64 (lo n), .int .i64 b] 28)) := bl_
  have hsz : (w.alloc (Obj.cells #[.bool v, .int .u64 (hi n), .int .u64 (lo n), .int .i64 b] 28)).heap.size = w.heap.size + 1 := by simp
  generalize w.alloc (Obj.cells #[.bool v, .int .u64 (hi n), .int .u64 (lo n), .int .i64 b] 28) = w1 at *
  refine (HC.out _).mono ?_
  rintro e w2 ⟨rfl, hb⟩
  (try clear a0 a1 a2 a3)
  replace hA := hA.after hb
  replace hbel := bl_trans hbel hb
  clear hb HC
  obtain ⟨a0, a1, a2, a3⟩ := pcells_of hA
  go_wp2_with fail
  go_loopw [6, 7] (fun s i wr => ∃ z : Nat, (z : Int) ≤ bits - b ∧ i = .int .i64 (b + (z : Int)) ∧ s = .int .i64 ((2 ^ z : Nat) : Int) ∧ wr = w2) (fun _ i _ => (bits - intOf i).toNat)
  case atStart => exact ⟨0, by omega, by simp, rfl, rfl⟩
  case round =>
    obtain ⟨z, hz, rfl, rfl, rfl⟩ := hrel
    have hp : 2 ^ z ≤ 65536 := Nat.pow_le_pow_right (n := 2) (i := z) (j := 16) (by decide) (by omega)
    by_cases hlt : (z : Int) < bits - b
    · have d1 : decide (b + (z : Int) < bits) = true := decide_eq_true (by omega)
      have hp2 : 2 ^ (z + 1) = 2 ^ z * 2 := Nat.pow_succ 2 z
      have HP2 := Lib.hid hp2
      clear hp2
      generalize 2 ^ z = P at *
      go_wp2_with fail
      go_roundw
      case rel => exact ⟨z + 1, by omega, by go_num, by rw [HP2.out]; go_num, trivial⟩
      case measure => simp [intOf]; omega
    · have d1 : decide (b + (z : Int) < bits) = false := decide_eq_false (by omega)
      have hzN : 2 ^ z = nB b bits := by unfold nB; congr 1; omega
      rw [hzN]
      go_wp2_with fail
      clear hlt d1 hz hzN
      have hA1 := hA
      obtain ⟨a0, a1, a2, a3⟩ := pcells_of hA1
      refine start_ (n := 7) (S := fun w' => w'.cell? ⟨w.heap.size, 0, none⟩ = some (.bool v) ∧ w'.cell? ⟨w.heap.size, 1, none⟩ = some (.int .u64 (hi n)) ∧ w'.cell? ⟨w.heap.size, 2, none⟩ = some (.int .u64 (lo n)) ∧ w'.cell? ⟨w.heap.size, 3, none⟩ = some (.int .i64 b)) (ds := []) (bm_ 7 0) (by kernel_rfl) rfl rfl ⟨a0, a1, a2, a3⟩ (fun hHeld => ?_); refine with_tabW tabH_45_10 tabK_45_10 (fun HT_ HW_ => ?_)
      refine ta_ 0 (some 30) (bm_ 7 1) rfl HT_ HW_ ⟨by rfl, by rintro w' ⟨s0, s1, s2, s3⟩; go_simp; with_reducible rfl⟩ hHeld ?_
      refine pu_ 1 (some 31) (bm_ 7 3) rfl HT_ ⟨by rfl, by intro w'; go_simp; with_reducible rfl⟩ ?_
      refine pu_ 2 (some 32) (bm_ 7 7) rfl HT_ ⟨by rfl, by intro w'; go_simp; with_reducible rfl⟩ ?_
      refine one_ (i := 3) (N := (some 33)) (bm_ 7 15) rfl rfl (one_of HT_.out (by kernel_rfl)) (by decide) (fun K hK => ?_)
      go_simp
      refine hK.out _ _ (pcells_of (hA1.drew.alloc _)) (fun hHeld => ?_)
      clear hK K
      refine norm_ (a' := ?_) ?_ ?_
      rotate_left
      · (try simp only [Act.put, List.setIfInBounds_toArray, List.set_cons_zero, List.set_cons_succ, i64_w, i32_w])
        rfl
      refine pu_ 4 (some 34) (bm_ 7 31) rfl HT_ ⟨by rfl, by intro w'; go_simp; with_reducible rfl⟩ ?_
      refine one_ (i := 5) (N := (some 35)) (bm_ 7 63) rfl rfl (one_of HT_.out (by kernel_rfl)) (by decide) (fun K hK => ?_)
      go_simp
      refine hK.out _ _ (pcells_of ((hA1.drew.alloc _).alloc _)) (fun hHeld => ?_)
      clear hK K
      refine norm_ (a' := ?_) ?_ ?_
      rotate_left
      · (try simp only [Act.put, List.setIfInBounds_toArray, List.set_cons_zero, List.set_cons_succ, i64_w, i32_w])
        rfl
      refine pu_ 6 (some 8) (bm_ 7 127) rfl HT_ ⟨by rfl, by intro w'; go_simp; with_reducible rfl⟩ ?_
      refine done_ (done_of HT_.out (by kernel_rfl)) ?_
      go_wp2_with fail
      have hU : Blk (((wr.alloc (.cells (boolsV (fun _ => false) (nB b bits)).toArray 4)).alloc (.cells #[.bool v, .int .u64 (hi n), .int .u64 (lo n), .int .i64 b, .int .i64 bits, .slice none 0 0, .slice (some ⟨wr.heap.size, 0, none⟩) (nB b bits) (nB b bits), .int .i64 0] 92)).drew) wr.heap.size 4 (boolsV (fun _ => false) (nB b bits)).toArray := ((Blk.new wr 4 (boolsV (fun _ => false) (nB b bits)).toArray).alloc (.cells #[.bool v, .int .u64 (hi n), .int .u64 (lo n), .int .i64 b, .int .i64 bits, .slice none 0 0, .slice (some ⟨wr.heap.size, 0, none⟩) (nB b bits) (nB b bits), .int .i64 0] 92)).drew
      have hQ : Blk (((wr.alloc (.cells (boolsV (fun _ => false) (nB b bits)).toArray 4)).alloc (.cells #[.bool v, .int .u64 (hi n), .int .u64 (lo n), .int .i64 b, .int .i64 bits, .slice none 0 0, .slice (some ⟨wr.heap.size, 0, none⟩) (nB b bits) (nB b bits), .int .i64 0] 92)).drew) (wr.heap.size + 1) 92 #[.bool v, .int .u64 (hi n), .int .u64 (lo n), .int .i64 b, .int .i64 bits, .slice none 0 0, .slice (some ⟨wr.heap.size, 0, none⟩) (nB b bits) (nB b bits), .int .i64 0] := (Blk.new' _ _ _ _ (by simp) : Blk ((wr.alloc (.cells (boolsV (fun _ => false) (nB b bits)).toArray 4)).alloc (.cells #[.bool v, .int .u64 (hi n), .int .u64 (lo n), .int .i64 b, .int .i64 bits, .slice none 0 0, .slice (some ⟨wr.heap.size, 0, none⟩) (nB b bits) (nB b bits), .int .i64 0] 92)) (wr.heap.size + 1) 92 #[.bool v, .int .u64 (hi n), .int .u64 (lo n), .int .i64 b, .int .i64 bits, .slice none 0 0, .slice (some ⟨wr.heap.size, 0, none⟩) (nB b bits) (nB b bits), .int .i64 0]).drew
      have hA2 : Blk (((wr.alloc (.cells (boolsV (fun _ => false) (nB b bits)).toArray 4)).alloc (.cells #[.bool v, .int .u64 (hi n), .int .u64 (lo n), .int .i64 b, .int .i64 bits, .slice none 0 0, .slice (some ⟨wr.heap.size, 0, none⟩) (nB b bits) (nB b bits), .int .i64 0] 92)).drew) w.heap.size 28 #[.bool v, .int .u64 (hi n), .int .u64 (lo n), .int .i64 b] := ((hA1.alloc (.cells (boolsV (fun _ => false) (nB b bits)).toArray 4)).alloc (.cells #[.bool v, .int .u64 (hi n), .int .u64 (lo n), .int .i64 b, .int .i64 bits, .slice none 0 0, .slice (some ⟨wr.heap.size, 0, none⟩) (nB b bits) (nB b bits), .int .i64 0] 92)).drew
      have hb2 : Below w.heap.size w (((wr.alloc (.cells (boolsV (fun _ => false) (nB b bits)).toArray 4)).alloc (.cells #[.bool v, .int .u64 (hi n), .int .u64 (lo n), .int .i64 b, .int .i64 bits, .slice none 0 0, .slice (some ⟨wr.heap.size, 0, none⟩) (nB b bits) (nB b bits), .int .i64 0] 92)).drew) := bl_drew (bl_alloc (bl_alloc hbel (.cells (boolsV (fun _ => false) (nB b bits)).toArray 4)) (.cells #[.bool v, .int .u64 (hi n), .int .u64 (lo n), .int .i64 b, .int .i64 bits, .slice none 0 0, .slice (some ⟨wr.heap.size, 0, none⟩) (nB b bits) (nB b bits), .int .i64 0] 92))
      have hwl := hbel.size
      clear hA hbel a0 a1 a2 a3
      generalize ((wr.alloc (.cells (boolsV (fun _ => false) (nB b bits)).toArray 4)).alloc (.cells #[.bool v, .int .u64 (hi n), .int .u64 (lo n), .int .i64 b, .int .i64 bits, .slice none 0 0, .slice (some ⟨wr.heap.size, 0, none⟩) (nB b bits) (nB b bits), .int .i64 0] 92)).drew = w5 at *
      obtain ⟨qq, hqq⟩ : ∃ qq, qq = wr.heap.size + 1 := ⟨_, rfl⟩
      rw [← hqq] at hQ ⊢
      have hu1 : w.heap.size ≤ wr.heap.size := hwl
      have hq1 : w.heap.size ≤ qq := by omega
      have hwq : w.heap.size ≠ qq := by omega
      have huq : wr.heap.size ≠ qq := by omega
      clear hqq hwl
      have hU' : Blk w5 wr.heap.size 4 (boolsV (fun _ => false) (nB b bits)).toArray := hU
      clear hU
      generalize wr.heap.size = uu at *
      obtain ⟨i0, hi0, hz0, hz1, hz2⟩ := info_parts pfx_info
      go_loopw [9] (fun i wr' => ∃ (z : Nat) (lp : Option Addr) (lcap : Nat), z ≤ nB b bits ∧ i = .int .i64 z ∧ Blk wr' qq 92 #[.bool v, .int .u64 (hi n), .int .u64 (lo n), .int .i64 b, .int .i64 bits, .slice lp z lcap, .slice (some ⟨uu, 0, none⟩) (nB b bits) (nB b bits), .int .i64 0] ∧ wr'.ownsRow (w.heap.size + 1) 28 4 (.slice lp z lcap) z (blkV v n bits (List.range z)) ∧ Blk wr' uu 4 (boolsV (fun _ => false) (nB b bits)).toArray ∧ Blk wr' w.heap.size 28 #[.bool v, .int .u64 (hi n), .int .u64 (lo n), .int .i64 b] ∧ Below w.heap.size w wr') (fun i _ => nB b bits - (intOf i).toNat)
      case atStart => exact ⟨0, none, 0, Nat.zero_le _, rfl, hQ, World.ownsRow_nil _ _ _ _, hU', hA2, hb2⟩
      case round =>
        clear hQ hU' hA2 hb2
        obtain ⟨z, lp, lcap, hz, rfl, hQ, hown, hU, hA, hbel⟩ := hrel
        by_cases hlt : z < nB b bits
        · have d1 : decide (z < nB b bits) = true := decide_eq_true hlt
          have d2 : decide ((z : Int) < (nB b bits : Nat)) = true := decide_eq_true (by omega)
          have hwz : IntKind.u64.wrap (z : Int) = (z : Int) := by show _ % 18446744073709551616 = _; omega
          have HR : Hid (blkV v n bits (List.range (z + 1)) = blkV v n bits (List.range z) ++ [.bool v, .int .u64 (hi (n + z * 2 ^ fr v bits)), .int .u64 (lo (n + z * 2 ^ fr v bits)), .int .i64 bits]) := Lib.hid (by rw [List.range_succ, blkV_snoc])
          have HBz := Lib.hid (fun w => HB.out z w hlt)
          generalize hi (n + z * 2 ^ fr v bits) = X1 at *
          generalize lo (n + z * 2 ^ fr v bits) = X2 at *
          obtain ⟨a0, a1, a2, a3⟩ := pcells_of hA
          go_wp2_with fail
          refine (HBz.out _).mono ?_
          rintro e w8 ⟨rfl, hb8⟩
          have hQ8 : Blk w8 qq 92 #[.bool v, .int .u64 (hi n), .int .u64 (lo n), .int .i64 b, .int .i64 bits, .slice lp z lcap, .slice (some ⟨uu, 0, none⟩) (nB b bits) (nB b bits), .int .i64 0] := hQ.after (show Below wr.heap.size wr w8 from bl_)
          have hown8 := own_afterS hown (show Below wr.heap.size wr w8 from bl_)
          have hU8 := hU.after (show Below wr.heap.size wr w8 from bl_)
          have hA8 := hA.after (show Below wr.heap.size wr w8 from bl_)
          have hb8' : Below w.heap.size w w8 := bl_
          clear hQ hown hU hA hbel hb8 a0 a1 a2 a3 HBz hwz d1 d2
          go_wp2_with fail
          have hX9 := Blk.new w8 28 #[.bool v, .int .u64 X1, .int .u64 X2, .int .i64 bits]
          have HXN : Hid (some w8.heap.size ≠ (Value.slice lp z lcap).ownBlock) := Lib.hid (fun e => by have := (hown8.lt _ e.symm).2; omega)
          have hQ9 := hQ8.alloc (.cells #[.bool v, .int .u64 X1, .int .u64 X2, .int .i64 bits] 28)
          have hU9 := hU8.alloc (.cells #[.bool v, .int .u64 X1, .int .u64 X2, .int .i64 bits] 28)
          have hA9 := hA8.alloc (.cells #[.bool v, .int .u64 X1, .int .u64 X2, .int .i64 bits] 28)
          have hown9 := hown8.alloc (.cells #[.bool v, .int .u64 X1, .int .u64 X2, .int .i64 bits] 28)
          have hb9 := bl_alloc hb8' (.cells #[.bool v, .int .u64 X1, .int .u64 X2, .int .i64 bits] 28)
          clear hQ8 hown8 hU8 hA8 hb8'
          generalize w8.alloc (.cells #[.bool v, .int .u64 X1, .int .u64 X2, .int .i64 bits] 28) = w9 at *
          generalize w8.heap.size = gx at *
          have hownd := own_afterS hown9 (bl_drew (Below.refl _ _))
          have hA9l := hA9.lt
          refine start_ (n := 11) (S := fun w' => w'.cell? ⟨qq, 5, none⟩ = some (.slice lp z lcap) ∧ w'.cell? ⟨gx, 0, none⟩ = some (.bool v) ∧ w'.cell? ⟨gx, 1, none⟩ = some (.int .u64 X1) ∧ w'.cell? ⟨gx, 2, none⟩ = some (.int .u64 X2) ∧ w'.cell? ⟨gx, 3, none⟩ = some (.int .i64 bits)) (ds := [10]) (bm_ 11 0) (by kernel_rfl) rfl rfl ⟨(hQ9.cell 5).trans rfl, pcells_of hX9⟩ (fun hHeld => ?_); refine with_tabW tabH_45_15 tabK_45_15 (fun HT_ HW_ => ?_)
          refine pu_ 0 (some 50) (bm_ 11 1) rfl HT_ ⟨by rfl, by intro w'; go_simp; with_reducible rfl⟩ ?_
          refine pu_ 1 (some 51) (bm_ 11 3) rfl HT_ ⟨by rfl, by intro w'; go_simp; with_reducible rfl⟩ ?_
          refine pu_ 2 (some 52) (bm_ 11 7) rfl HT_ ⟨by rfl, by intro w'; go_simp; with_reducible rfl⟩ ?_
          refine pu_ 3 (some 53) (bm_ 11 15) rfl HT_ ⟨by rfl, by intro w'; go_simp; with_reducible rfl⟩ ?_
          refine ta_ 4 (some 54) (bm_ 11 31) rfl HT_ HW_ ⟨by rfl, by rintro w' ⟨s0, s1, s2, s3, s4⟩; go_simp; with_reducible rfl⟩ hHeld ?_
          refine ta_ 5 (some 55) (bm_ 11 63) rfl HT_ HW_ ⟨by rfl, by rintro w' ⟨s0, s1, s2, s3, s4⟩; go_simp; with_reducible rfl⟩ hHeld ?_
          refine one_ (i := 6) (N := (some 56)) (bm_ 11 127) rfl rfl (one_of HT_.out (by kernel_rfl)) (by decide) (fun K hK => ?_)
          go_simp
          refine hK.out _ _ ⟨((hQ9.drew.alloc _).cell 5).trans rfl, pcells_of (hX9.drew.alloc _)⟩ (fun hHeld => ?_)
          clear hK K
          refine norm_ (a' := ?_) ?_ ?_
          rotate_left
          · (try simp only [Act.put, List.setIfInBounds_toArray, List.set_cons_zero, List.set_cons_succ, i64_w, i32_w])
            rfl
          refine one_ (i := 7) (N := (some 57)) (bm_ 11 255) rfl rfl (one_of HT_.out (by kernel_rfl)) (by decide) (fun K hK => ?_)
          refine step_append_lies _ (by rfl) _ _ _ (by rfl) (w.heap.size + 1) 28 i0 (.agg #[.bool false, .int .u64 0, .int .u64 0, .int .i64 0]) 4 32 Tryz.underlying63 hi0 hz0 hz1 hz2 (by rfl) (by decide) _ z _ (by rfl) (hownd.alloc _) ⟨w9.drew.heap.size, 0, none⟩ 1 1 [.bool v, .int .u64 X1, .int .u64 X2, .int .i64 bits] (by rfl) (by rfl) (cell_listS _ _ _) (one4 _ _ _ _) (by omega) (by simp only [maxLen]; omega) (by omega) (by simp; omega) _ rfl ?_
          intro g7 cap7 w10 hown' hgrow _ _
          have hQ7 := (hQ9.drew.alloc (.cells #[.bool v, .int .u64 X1, .int .u64 X2, .int .i64 bits] 28)).grown hgrow (hQ9.drew.ne_own hownd (by decide))
          have hU7 := (hU9.drew.alloc (.cells #[.bool v, .int .u64 X1, .int .u64 X2, .int .i64 bits] 28)).grown hgrow (hU9.drew.ne_own hownd (by decide))
          have hX7 := (hX9.drew.alloc (.cells #[.bool v, .int .u64 X1, .int .u64 X2, .int .i64 bits] 28)).grown hgrow HXN.out
          have hA7 := (hA9.drew.alloc (.cells #[.bool v, .int .u64 X1, .int .u64 X2, .int .i64 bits] 28)).grown hgrow (fun e => by have := (hownd.lt _ e.symm).1; omega)
          have hb7 : Below w.heap.size w w10 := below_ownS (bl_drew hb9) hownd (Nat.le_succ _) hgrow
          have c7 : w10.cell? ⟨qq, 5, none⟩ = some (.slice lp z lcap) := (hQ7.cell 5).trans rfl
          have z7 := hQ7.frozen 5
          refine hK.out _ _ ⟨c7, pcells_of hX7⟩ (fun hHeld => ?_)
          clear hK K
          refine norm_ (a' := ?_) ?_ ?_
          rotate_left
          · (try simp only [Act.put, List.setIfInBounds_toArray, List.set_cons_zero, List.set_cons_succ, i64_w, i32_w])
            rfl
          refine pu_ 8 (some 58) (bm_ 11 511) rfl HT_ ⟨by rfl, by intro w'; go_simp; with_reducible rfl⟩ ?_
          refine pu_ 9 (some 59) (bm_ 11 1023) rfl HT_ ⟨by rfl, by intro w'; go_simp; with_reducible rfl⟩ ?_
          refine last_ (i := 10) (N := none) (bm_ 11 2047) rfl rfl (one_of HT_.out (by kernel_rfl)) (by decide) (fun K hK => ?_)
          go_simp
          refine hK.out _ _ ?_
          clear hK K
          refine norm_ (a' := ?_) ?_ ?_
          rotate_left
          · (try simp only [Act.put, List.setIfInBounds_toArray, List.set_cons_zero, List.set_cons_succ, i64_w, i32_w])
            rfl
          refine done_ (done_of HT_.out (by kernel_rfl)) ?_
          clear c7 z7 hX7 hgrow hownd hown9 hQ9 hU9 hA9 hb9 hX9
          go_wp2_with fail
          go_roundw
          case rel => exact ⟨z + 1, some ⟨g7, 0, none⟩, cap7, by omega, by go_num, hQ7.put 5 _, by rw [HR.out]; exact kown_far hown' (hQ7.ne_own hown' (by decide)) _, hU7.far huq _, hA7.far hwq _, bl_set hb7 (by simp; omega) _⟩
          case measure => simp [intOf]; omega
        · have d1 : decide (z < nB b bits) = false := decide_eq_false hlt
          have d2 : decide ((z : Int) < (nB b bits : Nat)) = false := decide_eq_false (by omega)
          obtain rfl : z = nB b bits := by omega
          go_wp2_with fail
          go_ret2
          exact ⟨qq, lp, lcap, uu, rfl, ⟨hQ, hown, hU, hc, h16, hN0⟩, hbel, hq1, hu1⟩
end Go.Proofs.YtpfilldnfpcpkaaGreatDoor

namespace Go.Proofs.YtpfilldnfpcpkaaGreatDoor
open Go.RowKit Go.Proofs.YtpfilldnfpcpkaaGreatDoorW.PrintWords Go.Proofs.YtpfilldnfpcpkaaGreatDoorW.PrintLast Go.Proofs.YtpfilldnfpcpkaaGreatDoorW.PrintMore Go.Proofs.YtpfilldnfpcpkaaGreatDoor.PPo

theorem RSetAt.put {w : World} {base q lcap uc i : Nat} {lp : Option Addr} {v : Bool} {n : Nat} {b bits : Int} {f : Nat → Bool} {cur : Nat} (h : RSetAt w base q lp lcap uc v n b bits f cur) (hi' : i < nB b bits) (x : Bool) : RSetAt (w.setCell ⟨uc, i, none⟩ (.bool x)) base q lp lcap uc v n b bits (upd f i x) cur := by
  refine ⟨h.head.far (h.head.ne h.used (by decide)) _, kown_far h.list (h.used.ne_own h.list (by decide)) _, ?_, h.cuts, h.few, h.at_⟩
  rw [← boolsV_put f x hi']
  exact h.used.put _ _
theorem RSetAt.move {w : World} {base q lcap uc k : Nat} {lp : Option Addr} {v : Bool} {n : Nat} {b bits : Int} {f : Nat → Bool} {cur : Nat} (h : RSetAt w base q lp lcap uc v n b bits f cur) (hk : k < nB b bits) : RSetAt (w.setCell ⟨q, 7, none⟩ (.int .i64 (k : Int))) base q lp lcap uc v n b bits f k :=
  ⟨h.head.put 7 _, kown_far h.list (h.head.ne_own h.list (by decide)) _, h.used.far (h.used.ne h.head (by decide)) _, h.cuts, h.few, hk⟩
theorem RSetAt.far {w : World} {base q lcap uc : Nat} {lp : Option Addr} {v : Bool} {n : Nat} {b bits : Int} {f : Nat → Bool} {cur : Nat} (h : RSetAt w base q lp lcap uc v n b bits f cur) {p : Addr} (h1 : q ≠ p.block) (h2 : uc ≠ p.block) (h3 : some p.block ≠ (Value.slice lp (nB b bits) lcap).ownBlock) (u : Value) : RSetAt (w.setCell p u) base q lp lcap uc v n b bits f cur :=
  ⟨h.head.far h1 u, kown_far h.list h3 u, h.used.far h2 u, h.cuts, h.few, h.at_⟩
theorem range_getD {N z : Nat} (h : z < N) : (List.range N).getD z 0 = z := by simp [List.getD, h]
/-- a block's cells in the reference's row -/
theorem RSetAt.blk {w : World} {base q lcap uc : Nat} {lp : Option Addr} {v : Bool} {n : Nat} {b bits : Int} {f : Nat → Bool} {cur : Nat} (h : RSetAt w base q lp lcap uc v n b bits f cur) {z : Nat} (hz : z < nB b bits) : ∃ (a : Addr), lp = some a ∧ a.block < w.heap.size ∧ base ≤ a.block ∧ ∀ w' : World, w'.heap[a.block]? = w.heap[a.block]? →
    (w'.cell? (a.add (z * 4)) = some (.bool v) ∧ w'.cell? ⟨(a.add (z * 4)).block, (a.add (z * 4)).off + 1, none⟩ = some (.int .u64 (hi (n + z * 2 ^ fr v bits))) ∧ w'.cell? ⟨(a.add (z * 4)).block, (a.add (z * 4)).off + 2, none⟩ = some (.int .u64 (lo (n + z * 2 ^ fr v bits))) ∧ w'.cell? ⟨(a.add (z * 4)).block, (a.add (z * 4)).off + 3, none⟩ = some (.int .i64 bits)) := by
  have hl : (List.range (nB b bits)).length = nB b bits := List.length_range
  have ho : w.ownsRow base 28 4 (.slice lp (List.range (nB b bits)).length lcap) (List.range (nB b bits)).length (blkV v n bits (List.range (nB b bits))) := by rw [hl]; exact h.list
  obtain ⟨a, e, ha, hc⟩ := (own_pfxRow ho (fun j hj => kblock_lt h.cuts (List.mem_range.1 hj))).at_ (i := z) (by rw [hl]; exact hz)
  simp only [range_getD hz] at hc
  have hbs : base ≤ a.block := (h.list.lt a.block (by rw [e]; rfl)).1
  obtain ⟨h0, h1, h2, h3⟩ := hc w (Below.refl _ _)
  exact ⟨a, e, ha, hbs, fun w' hw => ⟨(World.cell?_of_block (by rw [add_block]; exact hw)).trans h0, (World.cell?_of_block (a := ⟨_, _, none⟩) (by show _ = _; rw [add_block]; exact hw)).trans h1, (World.cell?_of_block (a := ⟨_, _, none⟩) (by show _ = _; rw [add_block]; exact hw)).trans h2, (World.cell?_of_block (a := ⟨_, _, none⟩) (by show _ = _; rw [add_block]; exact hw)).trans h3⟩⟩
theorem RSetAt.bit {w : World} {base q lcap uc : Nat} {lp : Option Addr} {v : Bool} {n : Nat} {b bits : Int} {f : Nat → Bool} {cur : Nat} (h : RSetAt w base q lp lcap uc v n b bits f cur) {z : Nat} (hz : z < nB b bits) : w.cell? ⟨uc, z, none⟩ = some (.bool (f z)) := (h.used.cell z).trans (boolsV_get f hz)
/-- what Next answers -/
def RKNexted (base q : Nat) (lp : Option Addr) (lcap uc : Nat) (v : Bool) (n : Nat) (b bits : Int) (f : Nat → Bool) (cur : Nat) (w0 : World) (x : Ending) (w : World) : Prop :=
  (∃ j, IsNext f (nB b bits) cur j ∧ x = .returned (.tuple #[.agg #[.bool v, .int .u64 (hi (n + j * 2 ^ fr v bits)), .int .u64 (lo (n + j * 2 ^ fr v bits)), .int .i64 bits], .int .i64 0]) ∧ RSetAt w base q lp lcap uc v n b bits (upd f j true) ((j + 1) % nB b bits) ∧ Fr2 q uc w0 w) ∨
  ((∀ y, y < nB b bits → f y = true) ∧ x = .returned (.tuple #[.agg #[.bool false, .int .u64 0, .int .u64 0, .int .i64 0], .int .i64 9]) ∧ Below w0.heap.size w0 w)
theorem step_mod {cur N m : Nat} (h1 : cur < N) (h2 : m < N) : (cur + m) % N = stepAt cur N m := by
  unfold stepAt
  split
  · exact Nat.mod_eq_of_lt (by omega)
  · rw [Nat.mod_eq_sub_mod (by omega), Nat.mod_eq_of_lt (by omega)]
set_option maxRecDepth 100000 in
set_option maxHeartbeats 4000000 in
theorem rknext_c (base q lcap uc : Nat) (lp : Option Addr) (v : Bool) (n : Nat) (b bits : Int) (f : Nat → Bool) (cur : Nat) (w : World) (h : RSetAt w base q lp lcap uc v n b bits f cur) :
    Calls Tryz.prog 101 #[.pointer (some ⟨q, 0, none⟩)] w (RKNexted base q lp lcap uc v n b bits f cur w) := by
  have hN := nB_le h.few
  have hN0 := nB_pos b bits
  have hcur := h.at_
  have hql := h.head.lt
  have hul := h.used.lt
  have hne0 : (((nB b bits : Nat) : Int) == 0) = false := by simp; omega
  have hqu : q ≠ uc := h.head.ne h.used (by decide)
  have huq : uc ≠ q := hqu.symm
  obtain ⟨c0, c1, c2, c3, c4, c5, c6, c7⟩ := rset_cells h
  go_enter Tryz.func101, Tryz.ntmps101
  go_wp2_with fail
  have hR : Blk (w.alloc (Obj.cells #[Value.bool false, Value.int IntKind.u64 0, Value.int IntKind.u64 0, Value.int IntKind.i64 0] 28)) w.heap.size 28 (PfxC false 0 0) := Blk.new _ _ _
  have hbel : Below w.heap.size w (w.alloc (Obj.cells #[Value.bool false, Value.int IntKind.u64 0, Value.int IntKind.u64 0, Value.int IntKind.i64 0] 28)) := bl_
  generalize w.alloc (Obj.cells #[Value.bool false, Value.int IntKind.u64 0, Value.int IntKind.u64 0, Value.int IntKind.i64 0] 28) = wz at *
  clear c0 c1 c2 c3 c4 c5 c6 c7
  go_loopw [5] (fun k wr => ∃ m : Nat, m ≤ nB b bits ∧ k = .int .i64 m ∧ (∀ y, passed cur (nB b bits) m y → f y = true) ∧ Blk wr w.heap.size 28 (PfxC false 0 0) ∧ Below w.heap.size w wr) (fun k _ => nB b bits - (intOf k).toNat)
  case atStart => exact ⟨0, by omega, rfl, fun y hy => by unfold passed at hy; omega, hR, hbel⟩
  case round =>
    clear hR hbel
    obtain ⟨m, hm, rfl, hpass, hR, hb⟩ := hrel
    have HP := Lib.hid hpass
    clear hpass
    have hw := h.after hb
    obtain ⟨c0, c1, c2, c3, c4, c5, c6, c7⟩ := rset_cells hw
    by_cases hlt : m < nB b bits
    · have hst := stepAt_lt hcur hlt
      have HIN := Lib.hid (fun hf => isNext_of hcur hlt HP.out hf)
      have HS := Lib.hid (fun hf => passed_step HP.out hf)
      have d1 : decide (m < nB b bits) = true := decide_eq_true hlt
      have d2 : decide ((m : Int) < ((nB b bits : Nat) : Int)) = true := decide_eq_true (by omega)
      have hsm := step_mod hcur hlt
      have hem : ((cur : Int) + (m : Int)) % ((nB b bits : Nat) : Int) = ((stepAt cur (nB b bits) m : Nat) : Int) := by rw [← hsm]; simp
      have htm : Int.tmod ((cur : Int) + (m : Int)) ((nB b bits : Nat) : Int) = ((stepAt cur (nB b bits) m : Nat) : Int) := by rw [Int.tmod_eq_emod_of_nonneg (by omega)]; exact hem
      have hwm : wrap64 ((cur : Int) + (m : Int)) = (cur : Int) + (m : Int) := by unfold wrap64; omega
      have hws : wrap64 ((stepAt cur (nB b bits) m : Nat) : Int) = ((stepAt cur (nB b bits) m : Nat) : Int) := by unfold wrap64; omega
      have HEM := Lib.hid hem
      have HTM := Lib.hid htm
      clear hsm hem htm
      generalize stepAt cur (nB b bits) m = z at *
      have k0 := hw.bit hst
      have hz0 : (0 : Int) ≤ (z : Int) := by omega
      have hz1 : (z : Int) < ((nB b bits : Nat) : Int) := by omega
      cases hf : f z
      · rw [hf] at k0
        have hin := Lib.hid (HIN.out hf)
        have HN := Lib.hid (Nat.mod_lt (z + 1) hN0)
        have hw1 : wrap64 ((z : Int) + 1) = ((z + 1 : Nat) : Int) := by unfold wrap64; omega
        have hem2 : ((z : Int) + 1) % ((nB b bits : Nat) : Int) = (((z + 1) % nB b bits : Nat) : Int) := by simp
        have htm2 : Int.tmod ((z + 1 : Nat) : Int) ((nB b bits : Nat) : Int) = (((z + 1) % nB b bits : Nat) : Int) := by rw [Int.tmod_eq_emod_of_nonneg (by omega)]; simp
        have kz := hw.used.frozen z
        have qz := hw.head.frozen 7
        have hem := HEM.out
        have htm := HTM.out
        have hqw : q ≠ w.heap.size := by omega
        have huw : uc ≠ w.heap.size := by omega
        have hP0 := hw.put hst true
        have hP1 := hP0.move HN.out
        have hR1 := (hR.far (p := ⟨uc, z, none⟩) huw.symm (.bool true)).far (p := ⟨q, 7, none⟩) hqw.symm (.int .i64 (((z + 1) % nB b bits : Nat) : Int))
        have hF1 := ((fr2_below hb).set (a := q) (c := uc) (p := ⟨uc, z, none⟩) (.inr rfl) (.bool true)).set (p := ⟨q, 7, none⟩) (.inl rfl) (.int .i64 (((z + 1) % nB b bits : Nat) : Int))
        rw [← hem2] at hP1 hR1 hF1
        have e7 := (rset_cells hP0).2.2.2.2.2.2.2
        have y7 := hP0.head.frozen 7
        have e5 := (rset_cells hP1).2.2.2.2.2.1
        have HPX := Lib.hid hP1
        have HRX := Lib.hid hR1
        have HFX := Lib.hid hF1
        obtain ⟨a, rfl, hal, hba, hcl⟩ := hP1.blk hst
        obtain ⟨k1, k2, k3, k4⟩ := hcl _ rfl
        obtain ⟨r0, r1, r2, r3, _⟩ := blk_pfx hR1
        have z0 := hR1.frozen 0
        have z1 := hR1.frozen 1
        have z2 := hR1.frozen 2
        have z3 := hR1.frozen 3
        clear hcl hP0 hP1 hR1 hF1 hR hb hw hem2
        go_wp2_with fail
        have hnw : some w.heap.size ≠ (Value.slice (some a) (nB b bits) lcap).ownBlock := fun e => by
          have := (h.list.lt _ e.symm).2
          omega
        have hRf := blk_fill4 (x := .bool v) (y := .int .u64 (hi (n + z * 2 ^ fr v bits))) (k := .int .u64 (lo (n + z * 2 ^ fr v bits))) (m := .int .i64 bits) HRX.out
        have hPf := ((((HPX.out).far (p := ⟨w.heap.size, 0, none⟩) hqw huw hnw (.bool v)).far (p := ⟨w.heap.size, 1, none⟩) hqw huw hnw (.int .u64 (hi (n + z * 2 ^ fr v bits)))).far (p := ⟨w.heap.size, 2, none⟩) hqw huw hnw (.int .u64 (lo (n + z * 2 ^ fr v bits)))).far (p := ⟨w.heap.size, 3, none⟩) hqw huw hnw (.int .i64 bits)
        have hGf := fr2_new (fr2_new (fr2_new (fr2_new (HFX.out) (p := ⟨w.heap.size, 0, none⟩) (Nat.le_refl _) (.bool v)) (p := ⟨w.heap.size, 1, none⟩) (Nat.le_refl _) (.int .u64 (hi (n + z * 2 ^ fr v bits)))) (p := ⟨w.heap.size, 2, none⟩) (Nat.le_refl _) (.int .u64 (lo (n + z * 2 ^ fr v bits)))) (p := ⟨w.heap.size, 3, none⟩) (Nat.le_refl _) (.int .i64 bits)
        generalize (((((wr.setCell ⟨uc, z, none⟩ (.bool true)).setCell ⟨q, 7, none⟩ (.int .i64 (((z : Int) + 1) % ((nB b bits : Nat) : Int)))).setCell ⟨w.heap.size, 0, none⟩ (.bool v)).setCell ⟨w.heap.size, 1, none⟩ (.int .u64 (hi (n + z * 2 ^ fr v bits)))).setCell ⟨w.heap.size, 2, none⟩ (.int .u64 (lo (n + z * 2 ^ fr v bits)))).setCell ⟨w.heap.size, 3, none⟩ (.int .i64 bits) = wf at *
        obtain ⟨s0, s1, s2, s3, _⟩ := blk_pfx (show Blk wf w.heap.size 28 (PfxC v (n + z * 2 ^ fr v bits) bits) from hRf)
        refine bodyPost_ret (v := .tuple #[.agg #[.bool v, .int .u64 (hi (n + z * 2 ^ fr v bits)), .int .u64 (lo (n + z * 2 ^ fr v bits)), .int .i64 bits], .int .i64 0]) (by simp [results, Tryz.results101, go_sem, s0, s1, s2, s3]) rfl (Or.inl ⟨z, hin.out, rfl, hPf, hGf⟩)
      · have HS2 := Lib.hid (HS.out hf)
        rw [hf] at k0
        clear hf
        have hem := HEM.out
        have htm := HTM.out
        go_wp2_with fail
        go_roundw
        case rel => exact ⟨m + 1, by omega, by go_num, HS2.out, bk_, bl_⟩
        case measure => simp [intOf]; omega
    · have d1 : decide (m < nB b bits) = false := decide_eq_false hlt
      have d2 : decide ((m : Int) < ((nB b bits : Nat) : Int)) = false := decide_eq_false (by omega)
      obtain rfl : m = nB b bits := by omega
      have hall := Lib.hid (fun y hy => HP.out y (passed_all hy))
      obtain ⟨r0, r1, r2, r3, _⟩ := blk_pfx hR
      have z0 := hR.frozen 0
      have z1 := hR.frozen 1
      have z2 := hR.frozen 2
      have z3 := hR.frozen 3
      go_wp2_with fail
      refine bodyPost_ret (v := .tuple #[.agg #[.bool false, .int .u64 0, .int .u64 0, .int .i64 0], .int .i64 9]) (by simp [results, Tryz.results101, go_sem, r0, r1, r2, r3, hi_zero, lo_zero]) rfl (Or.inr ⟨hall.out, rfl, bl_⟩)
end Go.Proofs.YtpfilldnfpcpkaaGreatDoor

namespace Go.Proofs.YtpfilldnfpcpkaaGreatDoor
open Go.RowKit Go.Proofs.YtpfilldnfpcpkaaGreatDoorW.PrintWords Go.Proofs.YtpfilldnfpcpkaaGreatDoorW.PrintLast Go.Proofs.YtpfilldnfpcpkaaGreatDoorW.PrintMore Go.Proofs.YtpfilldnfpcpkaaGreatDoor.PPo

/-- f, but x where ov is, below z -/
def setTo (ov : Nat → Bool) (x : Bool) (f : Nat → Bool) (z : Nat) : Nat → Bool := fun y => if (decide (y < z) && ov y) = true then x else f y
theorem setTo_zero (ov : Nat → Bool) (x : Bool) (f : Nat → Bool) : setTo ov x f 0 = f := by
  funext y; unfold setTo; rw [if_neg (by simp)]
theorem setTo_at (ov : Nat → Bool) (x : Bool) (f : Nat → Bool) (z : Nat) : setTo ov x f z z = f z := by
  unfold setTo; rw [if_neg (by simp)]
theorem setTo_yes {ov : Nat → Bool} {x : Bool} {f : Nat → Bool} {z : Nat} (h : ov z = true) : upd (setTo ov x f z) z x = setTo ov x f (z + 1) := by
  funext y
  unfold upd setTo
  by_cases e : y = z
  · subst e; rw [if_pos rfl, if_pos (by simp [h])]
  · rw [if_neg e]
    by_cases e2 : y < z
    · rw [decide_eq_true e2, decide_eq_true (by omega)]
    · rw [decide_eq_false e2, decide_eq_false (show ¬ y < z + 1 by omega)]
theorem setTo_no {ov : Nat → Bool} {x : Bool} {f : Nat → Bool} {z : Nat} (h : ov z = false) : setTo ov x f z = setTo ov x f (z + 1) := by
  funext y
  unfold setTo
  by_cases e : y = z
  · subst e; rw [if_neg (by simp), if_neg (by simp [h])]
  · by_cases e2 : y < z
    · rw [decide_eq_true e2, decide_eq_true (by omega)]
    · rw [decide_eq_false e2, decide_eq_false (show ¬ y < z + 1 by omega)]
theorem cnt_next (f : Nat → Bool) (z : Nat) : cnt f 0 (z + 1) = cnt f 0 z + (f z).toNat := by rw [cnt, Nat.zero_add]
def ovF (v : Bool) (n : Nat) (bits : Int) (u : Bool) (m : Nat) (k : Int) : Nat → Bool := fun y => overlapS v (n + y * 2 ^ fr v bits) bits u m k
theorem rkset_wrong (base q lcap uc : Nat) (lp : Option Addr) (v : Bool) (n : Nat) (b bits : Int) (f : Nat → Bool) (cur : Nat) (u : Bool) (m : Nat) (k : Int) (x : Bool) (w : World) (_ : RSetAt w base q lp lcap uc v n b bits f cur) (hm : m < 340282366920938463463374607431768211456) (hr : rightP u m k = false) :
    Calls Tryz.prog 102 #[.pointer (some ⟨q, 0, none⟩), .agg #[.bool u, .int .u64 (hi m), .int .u64 (lo m), .int .i64 k], .bool x] w fun e w' => e = .returned (.tuple #[.int .i64 0, .int .i64 1]) ∧ Below w.heap.size w w' := by
  have HRig := Lib.hid (fun w => platbookref03_Right.calls 600 u (hi m) (lo m) k _ w (rrightP_f 600 (Nat.le_refl _) u m k hm))
  rw [hr] at HRig
  clear hr
  go_enter Tryz.func102, Tryz.ntmps102
  go_wp2_with fail
  refine (HRig.out _).mono ?_
  rintro e w1 ⟨rfl, hb1⟩
  have hbel : Below w.heap.size w w1 := bl_trans bl_ hb1
  clear hb1
  go_wp2_with fail
  go_ret2
  exact ⟨rfl, hbel⟩
set_option maxRecDepth 100000 in
set_option maxHeartbeats 4000000 in
theorem rkset_c (base q lcap uc : Nat) (lp : Option Addr) (v : Bool) (n : Nat) (b bits : Int) (f : Nat → Bool) (cur : Nat) (u : Bool) (m : Nat) (k : Int) (x : Bool) (w : World) (h : RSetAt w base q lp lcap uc v n b bits f cur) (hm : m < 340282366920938463463374607431768211456) (hr : rightP u m k = true) :
    Calls Tryz.prog 102 #[.pointer (some ⟨q, 0, none⟩), .agg #[.bool u, .int .u64 (hi m), .int .u64 (lo m), .int .i64 k], .bool x] w fun e w' => ∃ (S : Bool) (K : Nat), S = decide (0 < cnt (ovF v n bits u m k) 0 (nB b bits)) ∧ K = cnt (fun y => ovF v n bits u m k y && (f y != x)) 0 (nB b bits) ∧
      e = .returned (.tuple #[.int .i64 (if S = true then (K : Int) else 0), .int .i64 (if S = true then 0 else 12)]) ∧ RSetAt w' base q lp lcap uc v n b bits (setTo (ovF v n bits u m k) x f (nB b bits)) cur ∧ w.grownBy w' (some uc) := by
  have hN := nB_le h.few
  have hul := h.used.lt
  have HRig := Lib.hid (fun w => platbookref03_Right.calls 600 u (hi m) (lo m) k _ w (rrightP_f 600 (Nat.le_refl _) u m k hm))
  rw [hr] at HRig
  have HO := Lib.hid (fun z (hz : z < nB b bits) w => platbookref03_Overlap.calls 700 v (hi (n + z * 2 ^ fr v bits)) (lo (n + z * 2 ^ fr v bits)) bits u (hi m) (lo m) k (ovF v n bits u m k z) w (roverlap_f 700 (Nat.le_refl _) v _ bits u m k (kblock_lt h.cuts hz) hm))
  generalize ovF v n bits u m k = ov at *
  go_enter Tryz.func102, Tryz.ntmps102
  go_wp2_with fail
  have hA : Blk (w.alloc (Obj.cells #[.bool u, .int .u64 (hi m), .int .u64 (lo m), .int .i64 k] 28)) (w.heap.size) 28 #[.bool u, .int .u64 (hi m), .int .u64 (lo m), .int .i64 k] := (Blk.new' _ _ _ _ (by simp) : Blk (w.alloc (Obj.cells #[.bool u, .int .u64 (hi m), .int .u64 (lo m), .int .i64 k] 28)) (w.heap.size) 28 #[.bool u, .int .u64 (hi m), .int .u64 (lo m), .int .i64 k])
  have hbel : Below w.heap.size w (w.alloc (Obj.cells #[.bool u, .int .u64 (hi m), .int .u64 (lo m), .int .i64 k] 28)) := bl_
  have hsz : (w.alloc (Obj.cells #[.bool u, .int .u64 (hi m), .int .u64 (lo m), .int .i64 k] 28)).heap.size = w.heap.size + 1 := by simp
  generalize w.alloc (Obj.cells #[.bool u, .int .u64 (hi m), .int .u64 (lo m), .int .i64 k] 28) = wz at *
  refine (HRig.out _).mono ?_
  rintro e w1 ⟨rfl, hb1⟩
  replace hA := hA.after hb1
  replace hbel := bl_trans hbel hb1
  have h1 := h.after hbel
  have hg1 := gb_below (row := some uc) hbel
  clear hb1
  go_wp2_with fail
  have hau : w.heap.size ≠ uc := by omega
  go_loopw [8, 9, 10] (fun sn ss si wr => ∃ z : Nat, z ≤ nB b bits ∧ si = .int .i64 z ∧ sn = .int .i64 (cnt (fun y => ov y && (f y != x)) 0 z : Nat) ∧ ss = .bool (decide (0 < cnt ov 0 z)) ∧ RSetAt wr base q lp lcap uc v n b bits (setTo ov x f z) cur ∧ Blk wr w.heap.size 28 #[.bool u, .int .u64 (hi m), .int .u64 (lo m), .int .i64 k] ∧ w.grownBy wr (some uc)) (fun _ _ si _ => nB b bits - (intOf si).toNat)
  case atStart => exact ⟨0, Nat.zero_le _, rfl, rfl, rfl, by rw [setTo_zero]; exact h1, hA, hg1⟩
  case round =>
    clear h1 hA hg1 hbel
    obtain ⟨z, hz, rfl, rfl, rfl, hw, hA, hg⟩ := hrel
    by_cases hlt : z < nB b bits
    · have d1 : decide (z < nB b bits) = true := decide_eq_true hlt
      have d2 : decide ((z : Int) < ((nB b bits : Nat) : Int)) = true := decide_eq_true (by omega)
      have hz0 : (0 : Int) ≤ (z : Int) := by omega
      have hz1 : (z : Int) < ((nB b bits : Nat) : Int) := by omega
      have HOz := Lib.hid (fun w => HO.out z hlt w)
      have HK : Hid (cnt (fun y => ov y && (f y != x)) 0 (z + 1) = cnt (fun y => ov y && (f y != x)) 0 z + (ov z && (f z != x)).toNat) := Lib.hid (cnt_next _ z)
      have HV := Lib.hid (cnt_next ov z)
      have hle1 := cnt_le (fun y => ov y && (f y != x)) 0 z
      have hle2 := cnt_le ov 0 z
      have HAT := Lib.hid (setTo_at ov x f z)
      generalize cnt (fun y => ov y && (f y != x)) 0 z = K1 at *
      obtain ⟨c0, c1, c2, c3, c4, c5, c6, c7⟩ := rset_cells hw
      obtain ⟨a, rfl, hal, hba, hcl⟩ := hw.blk hlt
      have HSC : Hid (∀ w', Below wr.heap.size wr w' → (w'.cell? ⟨q, 5, none⟩ = some (.slice (some a) (nB b bits) lcap)) ∧ (w'.cell? (a.add (z * 4)) = some (.bool v) ∧ w'.cell? ⟨(a.add (z * 4)).block, (a.add (z * 4)).off + 1, none⟩ = some (.int .u64 (hi (n + z * 2 ^ fr v bits))) ∧ w'.cell? ⟨(a.add (z * 4)).block, (a.add (z * 4)).off + 2, none⟩ = some (.int .u64 (lo (n + z * 2 ^ fr v bits))) ∧ w'.cell? ⟨(a.add (z * 4)).block, (a.add (z * 4)).off + 3, none⟩ = some (.int .i64 bits)) ∧ (w'.cell? ⟨w.heap.size, 0, none⟩ = some (.bool u) ∧ w'.cell? ⟨w.heap.size, 1, none⟩ = some (.int .u64 (hi m)) ∧ w'.cell? ⟨w.heap.size, 2, none⟩ = some (.int .u64 (lo m)) ∧ w'.cell? ⟨w.heap.size, 3, none⟩ = some (.int .i64 k))) := Lib.hid (fun w' hb =>
        ⟨(rset_cells (hw.after hb)).2.2.2.2.2.1, hcl w' (hb.block _ hal), pcells_of (hA.after hb)⟩)
      clear hcl
      generalize hi (n + z * 2 ^ fr v bits) = X1 at HSC HOz
      generalize lo (n + z * 2 ^ fr v bits) = X2 at HSC HOz
      go_wp2_with fail
      go_region_held3 (fun w' => (w'.cell? ⟨q, 5, none⟩ = some (.slice (some a) (nB b bits) lcap)) ∧ (w'.cell? (a.add (z * 4)) = some (.bool v) ∧ w'.cell? ⟨(a.add (z * 4)).block, (a.add (z * 4)).off + 1, none⟩ = some (.int .u64 X1) ∧ w'.cell? ⟨(a.add (z * 4)).block, (a.add (z * 4)).off + 2, none⟩ = some (.int .u64 X2) ∧ w'.cell? ⟨(a.add (z * 4)).block, (a.add (z * 4)).off + 3, none⟩ = some (.int .i64 bits)) ∧ (w'.cell? ⟨w.heap.size, 0, none⟩ = some (.bool u) ∧ w'.cell? ⟨w.heap.size, 1, none⟩ = some (.int .u64 (hi m)) ∧ w'.cell? ⟨w.heap.size, 2, none⟩ = some (.int .u64 (lo m)) ∧ w'.cell? ⟨w.heap.size, 3, none⟩ = some (.int .i64 k)) ∧ Below wr.heap.size wr w')
        (first | exact ⟨(HSC.out _ bl_).1, (HSC.out _ bl_).2.1, (HSC.out _ bl_).2.2, bl_⟩)
        (first
        | (go_at_call 48; with_reducible refine (HOz.out _).mono ?_; rintro e w3 ⟨rfl, hb3⟩))
      all_goals
        have hb3' : Below wr.heap.size wr w3 := bl_
        have hw3 := hw.after hb3'
        have hA3 := hA.after hb3'
        have hg3 := gb_trans hg (gb_below hb3')
        clear hw hA hg hb3 hb3' c0 c1 c2 c3 c4 c5 c6 c7
        cases ho : ov z
        · have HN := Lib.hid (setTo_no (x := x) (f := f) ho)
          have E1 : Hid (cnt (fun y => ov y && (f y != x)) 0 (z + 1) = K1) := Lib.hid (by rw [HK.out, ho]; rfl)
          have E2 : Hid (cnt ov 0 (z + 1) = cnt ov 0 z) := Lib.hid (by rw [HV.out, ho]; rfl)
          clear ho
          go_wp2_with fail
          go_roundw
          case rel => exact ⟨z + 1, by omega, by go_num, by rw [E1.out], by rw [E2.out], by rw [← HN.out]; exact hw3, hA3, hg3⟩
          case measure => simp [intOf]; omega
        · have HN := Lib.hid (setTo_yes (x := x) (f := f) ho)
          have E2 : Hid (decide (0 < cnt ov 0 (z + 1)) = true) := Lib.hid (by rw [HV.out, ho]; exact decide_eq_true (by simp))
          have k0 := hw3.bit hlt
          rw [HAT.out] at k0
          have kz := hw3.used.frozen z
          obtain ⟨c0, c1, c2, c3, c4, c5, c6, c7⟩ := rset_cells hw3
          have HW := Lib.hid (hw3.put hlt x)
          rw [HN.out] at HW
          cases hf : f z
          all_goals
            rw [hf] at k0
            cases x
            all_goals
              have E3 := Lib.hid (HK.out.trans (congrArg (fun t => K1 + (t && _).toNat) ho))
              have HF := Lib.hid hf
              clear hf
              go_wp2_with fail
              go_roundw
              case rel => exact ⟨z + 1, by omega, by go_num, by rw [E3.out, HF.out]; (first | rfl | go_num), by rw [E2.out], HW.out, hA3.far hau _, gb_set hg3 _⟩
              case measure => simp [intOf]; omega
    · have d1 : decide (z < nB b bits) = false := decide_eq_false hlt
      have d2 : decide ((z : Int) < ((nB b bits : Nat) : Int)) = false := decide_eq_false (by omega)
      obtain rfl : z = nB b bits := by omega
      obtain ⟨c0, c1, c2, c3, c4, c5, c6, c7⟩ := rset_cells hw
      cases hS : decide (0 < cnt ov 0 (nB b bits))
      all_goals
        have HS := Lib.hid hS
        clear hS
        go_wp2_with fail
        go_ret2
        exact ⟨_, _, HS.out.symm, rfl, rfl, hw, hg⟩
end Go.Proofs.YtpfilldnfpcpkaaGreatDoor

namespace Go.Proofs.YtpfilldnfpcpkaaGreatDoor
open Go.RowKit Go.Proofs.YtpfilldnfpcpkaaGreatDoorW.PrintWords Go.Proofs.YtpfilldnfpcpkaaGreatDoorW.PrintLast Go.Proofs.YtpfilldnfpcpkaaGreatDoorW.PrintMore Go.Proofs.YtpfilldnfpcpkaaGreatDoor.PPo

/-- what Set answers: error, number -/
def putE (v : Bool) (n : Nat) (b bits : Int) (u : Bool) (m : Nat) (k : Int) : Int := if rightP u m k = true then (if 0 < cnt (ovF v n bits u m k) 0 (nB b bits) then 0 else 12) else 1
def putA (v : Bool) (n : Nat) (b bits : Int) (u : Bool) (m : Nat) (k : Int) (x : Bool) (f : Nat → Bool) : Nat := if putE v n b bits u m k = 0 then cnt (fun y => ovF v n bits u m k y && (f y != x)) 0 (nB b bits) else 0
theorem setTo_none {ov : Nat → Bool} {x : Bool} {f : Nat → Bool} {N : Nat} (h : ∀ y, y < N → ov y = false) : setTo ov x f N = f := by
  funext y
  unfold setTo
  by_cases e : y < N
  · rw [h y e, if_neg (by simp)]
  · rw [decide_eq_false e, if_neg (by simp)]
theorem cnt_notK (f : Nat → Bool) (s : Nat) : ∀ n, cnt (fun i => !f i) s n + cnt f s n = n
  | 0 => rfl
  | n + 1 => by
    have := cnt_notK f s n
    rw [cnt, cnt]
    cases f (s + n) <;> simp <;> omega
theorem cnt_within {g h : Nat → Bool} {A B N : Nat} (h1 : A ≤ B) (h2 : B < N) (he : ∀ y, y < N → g y = ((decide (A ≤ y) && decide (y ≤ B)) && h y)) : cnt g 0 N = cnt h A (B + 1 - A) := by
  rw [show N = A + ((B + 1 - A) + (N - (B + 1))) from by omega, cnt_join, cnt_join]
  rw [cnt_none (a := 0) (n := A) (fun y _ hy => by rw [he y (by omega), decide_eq_false (show ¬ A ≤ y by omega)]; rfl), cnt_none (a := 0 + A + (B + 1 - A)) (n := N - (B + 1)) (fun y hy hy2 => by rw [he y (by omega), decide_eq_false (show ¬ y ≤ B by omega)]; simp)]
  rw [cnt_congr (f := g) (g := h) (a := 0 + A) (n := B + 1 - A) (fun y hy hy2 => by rw [he y (by omega), decide_eq_true (show A ≤ y by omega), decide_eq_true (show y ≤ B by omega)]; simp)]
  simp
theorem ov_none {v : Bool} {n : Nat} {b bits : Int} {u : Bool} {m : Nat} {k : Int} (hc : cutsS v n b bits = true) (ho : overlapS v n b u m k = false) : ∀ y, y < nB b bits → ovF v n bits u m k y = false := by
  intro y hy
  unfold ovF
  rw [Bool.eq_false_iff]
  intro h
  rw [kblock_over hc hy h] at ho; cases ho
theorem putE_no {v : Bool} {n : Nat} {b bits : Int} {u : Bool} {m : Nat} {k : Int} (hc : cutsS v n b bits = true) (ho : overlapS v n b u m k = false) : putE v n b bits u m k = (spanS v n b bits u m k).2.2 := by
  unfold putE
  rw [cnt_none (f := ovF v n bits u m k) (a := 0) (n := nB b bits) (fun y _ hy => ov_none hc ho y (by omega))]
  cases hr : rightP u m k
  · rw [kspan_wrong hr]; rfl
  · rw [kspan_off hc hr ho]; rfl
theorem putE_ne {v : Bool} {n : Nat} {b bits : Int} {u : Bool} {m : Nat} {k : Int} (hc : cutsS v n b bits = true) (ho : overlapS v n b u m k = false) : (spanS v n b bits u m k).2.2 ≠ 0 := by
  cases hr : rightP u m k
  · rw [kspan_wrong hr]; decide
  · rw [kspan_off hc hr ho]; decide
theorem putE_yes {v : Bool} {n : Nat} {b bits : Int} {m : Nat} {k : Int} {A B : Nat} (h : InSet v n b bits m k A B) (hr : rightP v m k = true) : putE v n b bits v m k = 0 := by
  unfold putE
  rw [if_pos hr, if_pos]
  have h0 : ovF v n bits v m k A = true := by
    unfold ovF; rw [h.over A (Nat.lt_of_le_of_lt h.le h.lt), decide_eq_true (Nat.le_refl A), decide_eq_true h.le]; rfl
  have hlt := Nat.lt_of_le_of_lt h.le h.lt
  rcases Nat.eq_zero_or_pos (cnt (ovF v n bits v m k) 0 (nB b bits)) with e | e
  · have := cnt_notK (ovF v n bits v m k) 0 (nB b bits)
    have h2 := cnt_all_of (f := fun i => !ovF v n bits v m k i) (n := nB b bits) (by omega) A hlt
    rw [h0] at h2; cases h2
  · exact e
theorem in_setTo {v : Bool} {n : Nat} {b bits : Int} {m : Nat} {k : Int} {A B : Nat} (h : InSet v n b bits m k A B) (x : Bool) (f : Nat → Bool) : (fun y => if A ≤ y ∧ y ≤ B then x else f y) = setTo (ovF v n bits v m k) x f (nB b bits) := by
  funext y
  have hB := h.lt
  unfold setTo ovF
  by_cases e : y < nB b bits
  · rw [decide_eq_true e, h.over y e]
    by_cases e2 : A ≤ y ∧ y ≤ B
    · rw [if_pos e2, decide_eq_true e2.1, decide_eq_true e2.2]; simp
    · rw [if_neg e2, if_neg]
      simp only [Bool.true_and, Bool.and_eq_true, decide_eq_true_iff]
      exact e2
  · rw [if_neg (by omega), decide_eq_false e, if_neg (by simp)]
theorem kOccupy_put (q g c : Nat) (v : Bool) (n : Nat) (b bits : Int) (f : Nat → Bool) (cur : Nat) (u : Bool) (m : Nat) (k : Int) (w : World) (h : SetAt w q g c v n b bits f cur) (hm : m < 340282366920938463463374607431768211456) :
    Calls Tryz.prog 38 #[.pointer (some ⟨q, 0, none⟩), .agg #[.bool u, .int .u64 (hi m), .int .u64 (lo m), .int .i64 k]] w fun e w' =>
      e = .returned (.tuple #[.int .i64 (putA v n b bits u m k true f : Nat), .int .i64 (putE v n b bits u m k)]) ∧ SetAt w' q g c v n b bits (setTo (ovF v n bits u m k) true f (nB b bits)) cur ∧ w.grownBy w' (some c) := by
  cases ho : overlapS v n b u m k
  · have hne := putE_ne h.cuts ho
    refine (kfill_no q g c v n b bits f cur u m k w h hm hne).mono fun e w' ⟨he, hb⟩ => ⟨?_, ?_, gb_below hb⟩
    · rw [he]
      have e0 := putE_no h.cuts ho
      unfold putA
      rw [e0, if_neg hne]; rfl
    · rw [setTo_none (ov_none h.cuts ho)]; exact h.after hb
  · obtain ⟨rfl, _, hr⟩ := overlap_kind ho
    obtain ⟨A, B, hI⟩ := inSet_of h.cuts ho
    have := kfill_c q g c u n b bits f cur m k w h hm ho
    rw [hI.eA, hI.eB] at this
    refine this.mono fun e w' ⟨he, hs, hg⟩ => ⟨?_, ?_, hg⟩
    · rw [he]
      have e0 := putE_yes hI hr
      unfold putA
      rw [e0, if_pos rfl, cnt_within (h := notF f) hI.le hI.lt (fun y hy => by unfold ovF; rw [hI.over y hy]; simp [notF])]
    · rw [← in_setTo hI]; exact hs
theorem kRelease_put (q g c : Nat) (v : Bool) (n : Nat) (b bits : Int) (f : Nat → Bool) (cur : Nat) (u : Bool) (m : Nat) (k : Int) (w : World) (h : SetAt w q g c v n b bits f cur) (hm : m < 340282366920938463463374607431768211456) :
    Calls Tryz.prog 47 #[.pointer (some ⟨q, 0, none⟩), .agg #[.bool u, .int .u64 (hi m), .int .u64 (lo m), .int .i64 k]] w fun e w' =>
      e = .returned (.tuple #[.int .i64 (putA v n b bits u m k false f : Nat), .int .i64 (putE v n b bits u m k)]) ∧ SetAt w' q g c v n b bits (setTo (ovF v n bits u m k) false f (nB b bits)) cur ∧ w.grownBy w' (some c) := by
  cases ho : overlapS v n b u m k
  · have hne := putE_ne h.cuts ho
    refine (kclear_no q g c v n b bits f cur u m k w h hm hne).mono fun e w' ⟨he, hb⟩ => ⟨?_, ?_, gb_below hb⟩
    · rw [he]
      have e0 := putE_no h.cuts ho
      unfold putA
      rw [e0, if_neg hne]; rfl
    · rw [setTo_none (ov_none h.cuts ho)]; exact h.after hb
  · obtain ⟨rfl, _, hr⟩ := overlap_kind ho
    obtain ⟨A, B, hI⟩ := inSet_of h.cuts ho
    have := kclear_c q g c u n b bits f cur m k w h hm ho
    rw [hI.eA, hI.eB] at this
    refine this.mono fun e w' ⟨he, hs, hg⟩ => ⟨?_, ?_, hg⟩
    · rw [he]
      have e0 := putE_yes hI hr
      unfold putA
      rw [e0, if_pos rfl, cnt_within (h := yesF f) hI.le hI.lt (fun y hy => by unfold ovF; rw [hI.over y hy]; simp [yesF])]
    · rw [← in_setTo hI]; exact hs
theorem rk_put (base q lcap uc : Nat) (lp : Option Addr) (v : Bool) (n : Nat) (b bits : Int) (f : Nat → Bool) (cur : Nat) (u : Bool) (m : Nat) (k : Int) (x : Bool) (w : World) (h : RSetAt w base q lp lcap uc v n b bits f cur) (hm : m < 340282366920938463463374607431768211456) :
    Calls Tryz.prog 102 #[.pointer (some ⟨q, 0, none⟩), .agg #[.bool u, .int .u64 (hi m), .int .u64 (lo m), .int .i64 k], .bool x] w fun e w' =>
      e = .returned (.tuple #[.int .i64 (putA v n b bits u m k x f : Nat), .int .i64 (putE v n b bits u m k)]) ∧ RSetAt w' base q lp lcap uc v n b bits (setTo (ovF v n bits u m k) x f (nB b bits)) cur ∧ w.grownBy w' (some uc) := by
  cases hr : rightP u m k
  · refine (rkset_wrong base q lcap uc lp v n b bits f cur u m k x w h hm hr).mono fun e w' ⟨he, hb⟩ => ⟨?_, ?_, gb_below hb⟩
    · rw [he]
      unfold putA putE
      rw [hr]; rfl
    · rw [setTo_none (fun y hy => by
        unfold ovF
        rw [Bool.eq_false_iff]
        intro q
        rw [(overlap_kind q).2.2] at hr; cases hr)]
      exact h.after hb
  · refine (rkset_c base q lcap uc lp v n b bits f cur u m k x w h hm hr).mono fun e w' ⟨S, K, hS, hK, he, hs, hg⟩ => ⟨?_, hs, hg⟩
    rw [he]
    have e0 : putE v n b bits u m k = if S = true then 0 else 12 := by
      unfold putE
      rw [if_pos hr, hS]
      by_cases q : 0 < cnt (ovF v n bits u m k) 0 (nB b bits)
      · rw [if_pos q, decide_eq_true q]; rfl
      · rw [if_neg q, decide_eq_false q]; rfl
    unfold putA
    rw [e0, ← hK]
    cases S <;> rfl
set_option maxRecDepth 20000 in
set_option maxHeartbeats 3200000 in
theorem kcopy_c (q g c : Nat) (v : Bool) (n : Nat) (b bits : Int) (f : Nat → Bool) (cur : Nat) (w : World) (h : SetAt w q g c v n b bits f cur) :
    Calls Tryz.prog 63 #[.pointer (some ⟨q, 0, none⟩)] w fun e w' => ∃ q' g' c', e = .returned (.pointer (some ⟨q', 0, none⟩)) ∧
      SetAt w' q' g' c' v n b bits f cur ∧ Below w.heap.size w w' ∧ w.heap.size ≤ q' ∧ w.heap.size ≤ g' ∧ w.heap.size ≤ c' := by
  obtain ⟨c0, c1, c2, c3, c4, c5, c6⟩ := set_cells h
  go_enter Tryz.func63, Tryz.ntmps63
  go_wp2_with fail
  go_region_held3 (fun w' => (w'.cell? ⟨q, 0, none⟩ = some (.bool v) ∧ w'.cell? ⟨q, 1, none⟩ = some (.int .u64 (hi n)) ∧ w'.cell? ⟨q, 2, none⟩ = some (.int .u64 (lo n)) ∧ w'.cell? ⟨q, 3, none⟩ = some (.int .i64 b) ∧ w'.cell? ⟨q, 4, none⟩ = some (.int .i64 bits) ∧ w'.cell? ⟨q, 5, none⟩ = some (.pointer (some ⟨g, 0, none⟩)) ∧ w'.cell? ⟨q, 6, none⟩ = some (.int .i64 cur)) ∧ Below w.heap.size w w')
    (exact ⟨set_cells (h.after bl_), bl_⟩)
    (first
    | (go_at_call 111; refine (copy_c g c _ f _ ((h.after bl_).map)).mono ?_; rintro e w1 ⟨g', rfl, hm, hg', hb1⟩; have hbel : Below w.heap.size w w1 := bl_trans bl_ hb1; have hs1 := hbel.size; have hs2 := hb1.size; simp only [size_drew'] at hm hg' hb1 hs2))
  all_goals
    go_wp2_with fail
    go_ret
    exact ⟨w1.heap.size, g', w.heap.size, rfl, ⟨Blk.new _ _ _, hm.alloc _, h.cuts, h.few, h.at_⟩, bl_alloc hbel _, by omega, hg', Nat.le_refl _⟩
end Go.Proofs.YtpfilldnfpcpkaaGreatDoor

namespace Go.Proofs.YtpfilldnfpcpkaaGreatDoor
open Go.RowKit Go.Proofs.YtpfilldnfpcpkaaGreatDoorW.PrintWords Go.Proofs.YtpfilldnfpcpkaaGreatDoorW.PrintLast Go.Proofs.YtpfilldnfpcpkaaGreatDoorW.PrintMore Go.Proofs.YtpfilldnfpcpkaaGreatDoor.PPo
def tabT_58_1 : Bool × List (List Nat × List Nat) := (true, [([], []), ([0], [0]), ([1], [1]), ([2], [2]), ([3], [3]), ([4, 3], [3, 4]), ([3], [3]), ([6, 3], [3, 6]), ([7, 3], [3, 7]), ([8, 3], [3, 8]), ([9, 3], [3, 9]), ([5, 10, 3], [3, 5, 10]), ([3, 11], [3, 11])])
def tabB_58_1 : List Nat := [0, 1, 3, 7, 15, 31, 15, 79, 207, 463, 975, 2047, 4095]
theorem tabH_58_1 : rtab .any (opsOf Tryz.f58 1) = tabT_58_1 := by kernel_rfl
theorem tabK_58_1 : waitsOk tabT_58_1.2 tabB_58_1 = true := by kernel_rfl
def tabT_58_2 : Bool × List (List Nat × List Nat) := (true, [([], []), ([0], [0]), ([1], [1]), ([2], [2]), ([], []), ([4], [4]), ([5], [5]), ([3, 6], [3, 6]), ([7], [7]), ([8, 0, 1, 2, 3, 4, 5, 6, 7, 8], [8])])
def tabB_58_2 : List Nat := [0, 1, 3, 7, 0, 16, 48, 127, 255, 511]
theorem tabH_58_2 : rtab .any (opsOf Tryz.f58 2) = tabT_58_2 := by kernel_rfl
theorem tabK_58_2 : waitsOk tabT_58_2.2 tabB_58_2 = true := by kernel_rfl

/-- an act's prefix -/
def KAimed (w : World) (e : Ending) (w' : World) : Prop := ∃ (u' : Bool) (m' : Nat) (k' : Int), e = .returned (.agg #[.bool u', .int .u64 (hi m'), .int .u64 (lo m'), .int .i64 k']) ∧ m' < 340282366920938463463374607431768211456 ∧ Below w.heap.size w w'
theorem kaimed {w w' : World} {u : Bool} {m : Nat} {k : Int} (h1 : m < 340282366920938463463374607431768211456) (h2 : Below w.heap.size w w') : KAimed w (.returned (.agg #[.bool u, .int .u64 (hi m), .int .u64 (lo m), .int .i64 k])) w' := ⟨u, m, k, rfl, h1, h2⟩
set_option maxRecDepth 100000 in
set_option maxHeartbeats 4000000 in
theorem kaim_c (base rq lcap uc : Nat) (lp : Option Addr) (v : Bool) (n : Nat) (b bits : Int) (f : Nat → Bool) (cur : Nat) (K t : Int) (u : Bool) (m : Nat) (k : Int) (w : World) (h : RSetAt w base rq lp lcap uc v n b bits f cur) (hm : m < 340282366920938463463374607431768211456) :
    Calls Tryz.prog 58 #[.pointer (some ⟨rq, 0, none⟩), .agg #[.int .i64 K, .bool u, .int .u64 (hi m), .int .u64 (lo m), .int .i64 k, .int .i64 t]] w (KAimed w) := by
  have hN := nB_le h.few
  have hrl := h.head.lt
  go_enter Tryz.func58, Tryz.ntmps58
  go_wp2_with fail
  have hA : Blk ((w.alloc (Obj.cells #[.int .i64 K, .bool u, .int .u64 (hi m), .int .u64 (lo m), .int .i64 k, .int .i64 t] 82)).alloc (Obj.cells #[.bool false, .int .u64 0, .int .u64 0, .int .i64 0] 28)) (w.heap.size) 82 #[.int .i64 K, .bool u, .int .u64 (hi m), .int .u64 (lo m), .int .i64 k, .int .i64 t] := ((Blk.new' _ _ _ _ (by simp) : Blk (w.alloc (Obj.cells #[.int .i64 K, .bool u, .int .u64 (hi m), .int .u64 (lo m), .int .i64 k, .int .i64 t] 82)) (w.heap.size) 82 #[.int .i64 K, .bool u, .int .u64 (hi m), .int .u64 (lo m), .int .i64 k, .int .i64 t])).alloc _
  have hR : Blk ((w.alloc (Obj.cells #[.int .i64 K, .bool u, .int .u64 (hi m), .int .u64 (lo m), .int .i64 k, .int .i64 t] 82)).alloc (Obj.cells #[.bool false, .int .u64 0, .int .u64 0, .int .i64 0] 28)) (w.heap.size + 1) 28 #[.bool false, .int .u64 0, .int .u64 0, .int .i64 0] := (Blk.new' _ _ _ _ (by simp) : Blk ((w.alloc (Obj.cells #[.int .i64 K, .bool u, .int .u64 (hi m), .int .u64 (lo m), .int .i64 k, .int .i64 t] 82)).alloc (Obj.cells #[.bool false, .int .u64 0, .int .u64 0, .int .i64 0] 28)) (w.heap.size + 1) 28 #[.bool false, .int .u64 0, .int .u64 0, .int .i64 0])
  have hbel : Below w.heap.size w ((w.alloc (Obj.cells #[.int .i64 K, .bool u, .int .u64 (hi m), .int .u64 (lo m), .int .i64 k, .int .i64 t] 82)).alloc (Obj.cells #[.bool false, .int .u64 0, .int .u64 0, .int .i64 0] 28)) := bl_
  have hsz : ((w.alloc (Obj.cells #[.int .i64 K, .bool u, .int .u64 (hi m), .int .u64 (lo m), .int .i64 k, .int .i64 t] 82)).alloc (Obj.cells #[.bool false, .int .u64 0, .int .u64 0, .int .i64 0] 28)).heap.size = w.heap.size + 1 + 1 := by simp
  generalize (w.alloc (Obj.cells #[.int .i64 K, .bool u, .int .u64 (hi m), .int .u64 (lo m), .int .i64 k, .int .i64 t] 82)).alloc (Obj.cells #[.bool false, .int .u64 0, .int .u64 0, .int .i64 0] 28) = wz at *
  have a1 : wz.cell? ⟨w.heap.size, 1, none⟩ = some (.bool u) := (hA.cell 1).trans rfl
  have a2 : wz.cell? ⟨w.heap.size, 2, none⟩ = some (.int .u64 (hi m)) := (hA.cell 2).trans rfl
  have a3 : wz.cell? ⟨w.heap.size, 3, none⟩ = some (.int .u64 (lo m)) := (hA.cell 3).trans rfl
  have a4 : wz.cell? ⟨w.heap.size, 4, none⟩ = some (.int .i64 k) := (hA.cell 4).trans rfl
  have a5 : wz.cell? ⟨w.heap.size, 5, none⟩ = some (.int .i64 t) := (hA.cell 5).trans rfl
  have hz := h.after hbel
  have c5 := (rset_cells hz).2.2.2.2.2.1
  obtain ⟨r0, r1, r2, r3⟩ := pcells_of hR
  have z0 := hR.frozen 0
  have z1 := hR.frozen 1
  have z2 := hR.frozen 2
  have z3 := hR.frozen 3
  by_cases ht : 0 < t
  · have d1 : decide ((0 : Int) < t) = true := decide_eq_true ht
    obtain ⟨T, rfl⟩ : ∃ T : Nat, t = (T : Int) + 1 := ⟨(t - 1).toNat, by omega⟩
    by_cases htN : T < nB b bits
    · have d2 : decide ((T : Int) + 1 ≤ ((nB b bits : Nat) : Int)) = true := decide_eq_true (by omega)
      have d3 : decide (T + 1 ≤ nB b bits) = true := decide_eq_true (by omega)
      have hw1 : wrap64 ((T : Int) + 1 - 1) = (T : Int) := by unfold wrap64; omega
      have hw2 : (T : Int) + 1 - 1 = (T : Int) := by omega
      have hw3 : wrap64 (T : Int) = (T : Int) := by unfold wrap64; omega
      have hT0 : (0 : Int) ≤ (T : Int) := by omega
      have hT1 : (T : Int) < ((nB b bits : Nat) : Int) := by omega
      have hlt := kblock_lt h.cuts htN
      obtain ⟨a, rfl, hal, hba, hcl⟩ := hz.blk htN
      obtain ⟨k1, k2, k3, k4⟩ := hcl wz rfl
      clear hcl
      generalize n + T * 2 ^ fr v bits = y at *
      refine start_ (n := 13) (S := fun w' => w'.cell? ⟨w.heap.size, 5, none⟩ = some (.int .i64 ((T : Int) + 1)) ∧ w'.cell? ⟨rq, 5, none⟩ = some (.slice (some a) (nB b bits) lcap)) (ds := []) (bm_ 13 0) (by kernel_rfl) rfl rfl ⟨a5, c5⟩ (fun hHeld => ?_); refine with_tabW tabH_58_1 tabK_58_1 (fun HT_ HW_ => ?_)
      refine pu_ 0 (some 5) (bm_ 13 1) rfl HT_ ⟨by rfl, by intro w'; go_simp; with_reducible rfl⟩ ?_
      refine ta_ 1 (some 6) (bm_ 13 3) rfl HT_ HW_ ⟨by rfl, by rintro w' ⟨s0, s1⟩; go_simp; with_reducible rfl⟩ hHeld ?_
      refine pu_ 2 (some 7) (bm_ 13 7) rfl HT_ ⟨by rfl, by intro w'; go_simp; with_reducible rfl⟩ ?_
      refine pu_ 3 (some 8) (bm_ 13 15) rfl HT_ ⟨by rfl, by intro w'; go_simp; with_reducible rfl⟩ ?_
      refine pu_ 4 (some 9) (bm_ 13 31) rfl HT_ ⟨by rfl, by intro w'; go_simp; with_reducible rfl⟩ ?_
      refine ta_ 5 (some 10) (bm_ 13 63) rfl HT_ HW_ ⟨by rfl, by rintro w' ⟨s0, s1⟩; go_simp; with_reducible rfl⟩ hHeld ?_
      refine pu_ 6 (some 11) (bm_ 13 127) rfl HT_ ⟨by rfl, by intro w'; go_simp; with_reducible rfl⟩ ?_
      refine pu_ 7 (some 12) (bm_ 13 255) rfl HT_ ⟨by rfl, by intro w'; go_simp; with_reducible rfl⟩ ?_
      refine pu_ 8 (some 13) (bm_ 13 511) rfl HT_ ⟨by rfl, by intro w'; go_simp; with_reducible rfl⟩ ?_
      refine ta_ 9 (some 14) (bm_ 13 1023) rfl HT_ HW_ ⟨by rfl, by rintro w' ⟨s0, s1⟩; go_simp; with_reducible rfl⟩ hHeld ?_
      refine pu_ 10 (some 15) (bm_ 13 2047) rfl HT_ ⟨by rfl, by intro w'; go_simp; with_reducible rfl⟩ ?_
      refine pu_ 11 (some 16) (bm_ 13 4095) rfl HT_ ⟨by rfl, by intro w'; go_simp; with_reducible rfl⟩ ?_
      refine pu_ 12 (some 17) (bm_ 13 8191) rfl HT_ ⟨by rfl, by intro w'; go_simp; with_reducible rfl⟩ ?_
      refine done_ (done_of HT_.out (by kernel_rfl)) ?_
      go_wp2_with fail
      refine start_ (n := 10) (S := fun w' => w'.cell? ⟨w.heap.size, 5, none⟩ = some (.int .i64 ((T : Int) + 1)) ∧ w'.cell? ⟨rq, 5, none⟩ = some (.slice (some a) (nB b bits) lcap) ∧ w'.cell? (a.add (T * 4)) = some (.bool v) ∧ w'.cell? ⟨(a.add (T * 4)).block, (a.add (T * 4)).off + 1, none⟩ = some (.int .u64 (hi y)) ∧ w'.cell? ⟨(a.add (T * 4)).block, (a.add (T * 4)).off + 2, none⟩ = some (.int .u64 (lo y)) ∧ w'.cell? ⟨(a.add (T * 4)).block, (a.add (T * 4)).off + 3, none⟩ = some (.int .i64 bits)) (ds := [9]) (bm_ 10 0) (by kernel_rfl) rfl rfl ⟨a5, c5, k1, k2, k3, k4⟩ (fun hHeld => ?_); refine with_tabW tabH_58_2 tabK_58_2 (fun HT_ HW_ => ?_)
      refine pu_ 0 (some 18) (bm_ 10 1) rfl HT_ ⟨by rfl, by intro w'; go_simp; with_reducible rfl⟩ ?_
      refine pu_ 1 (some 19) (bm_ 10 3) rfl HT_ ⟨by rfl, by intro w'; go_simp; with_reducible rfl⟩ ?_
      refine pu_ 2 (some 20) (bm_ 10 7) rfl HT_ ⟨by rfl, by intro w'; go_simp; with_reducible rfl⟩ ?_
      refine ta_ 3 (some 21) (bm_ 10 15) rfl HT_ HW_ ⟨by rfl, by rintro w' ⟨s0, s1, s2, s3, s4, s5⟩; go_simp; with_reducible rfl⟩ hHeld ?_
      refine pu_ 4 (some 22) (bm_ 10 31) rfl HT_ ⟨by rfl, by intro w'; go_simp; with_reducible rfl⟩ ?_
      refine ta_ 5 (some 23) (bm_ 10 63) rfl HT_ HW_ ⟨by rfl, by rintro w' ⟨s0, s1, s2, s3, s4, s5⟩; go_simp; with_reducible rfl⟩ hHeld ?_
      refine pu_ 6 (some 24) (bm_ 10 127) rfl HT_ ⟨by rfl, by intro w'; go_simp; with_reducible rfl⟩ ?_
      refine pu_ 7 (some 25) (bm_ 10 255) rfl HT_ ⟨by rfl, by intro w'; go_simp; with_reducible rfl⟩ ?_
      refine ta_ 8 (some 26) (bm_ 10 511) rfl HT_ HW_ ⟨by rfl, by rintro w' ⟨s0, s1, s2, s3, s4, s5⟩; go_simp; with_reducible rfl⟩ hHeld ?_
      refine last_ (i := 9) (N := none) (bm_ 10 1023) rfl rfl (one_of HT_.out (by kernel_rfl)) (by decide) (fun K hK => ?_)
      go_simp
      refine hK.out _ _ ?_
      clear hK K
      refine norm_ (a' := ?_) ?_ ?_
      rotate_left
      · (try simp only [Act.put, List.setIfInBounds_toArray, List.set_cons_zero, List.set_cons_succ, i64_w, i32_w])
        rfl
      refine done_ (done_of HT_.out (by kernel_rfl)) ?_
      go_wp2_with fail
      refine bodyPost_ret (v := .agg #[.bool v, .int .u64 (hi y), .int .u64 (lo y), .int .i64 bits]) (results_cell_row (t := 28) Tryz.results58 _ _ (w.heap.size + 1) _ (0, 0) _ rfl ((((hR.put 0 _).put 1 _).put 2 _).put 3 _) Tryz.underlying28 rfl (by kernel_rfl)) rfl (kaimed hlt bl_)
    · have d2 : decide ((T : Int) + 1 ≤ ((nB b bits : Nat) : Int)) = false := decide_eq_false (by omega)
      have d3 : decide (T + 1 ≤ nB b bits) = false := decide_eq_false (by omega)
      refine start_ (n := 13) (S := fun w' => w'.cell? ⟨w.heap.size, 5, none⟩ = some (.int .i64 ((T : Int) + 1)) ∧ w'.cell? ⟨rq, 5, none⟩ = some (.slice lp (nB b bits) lcap)) (ds := []) (bm_ 13 0) (by kernel_rfl) rfl rfl ⟨a5, c5⟩ (fun hHeld => ?_); refine with_tabW tabH_58_1 tabK_58_1 (fun HT_ HW_ => ?_)
      refine pu_ 0 (some 5) (bm_ 13 1) rfl HT_ ⟨by rfl, by intro w'; go_simp; with_reducible rfl⟩ ?_
      refine ta_ 1 (some 6) (bm_ 13 3) rfl HT_ HW_ ⟨by rfl, by rintro w' ⟨s0, s1⟩; go_simp; with_reducible rfl⟩ hHeld ?_
      refine pu_ 2 (some 7) (bm_ 13 7) rfl HT_ ⟨by rfl, by intro w'; go_simp; with_reducible rfl⟩ ?_
      refine pu_ 3 (some 8) (bm_ 13 15) rfl HT_ ⟨by rfl, by intro w'; go_simp; with_reducible rfl⟩ ?_
      refine pu_ 4 (some 9) (bm_ 13 31) rfl HT_ ⟨by rfl, by intro w'; go_simp; with_reducible rfl⟩ ?_
      refine ta_ 5 (some 10) (bm_ 13 63) rfl HT_ HW_ ⟨by rfl, by rintro w' ⟨s0, s1⟩; go_simp; with_reducible rfl⟩ hHeld ?_
      refine pu_ 6 (some 11) (bm_ 13 127) rfl HT_ ⟨by rfl, by intro w'; go_simp; with_reducible rfl⟩ ?_
      refine pu_ 7 (some 12) (bm_ 13 255) rfl HT_ ⟨by rfl, by intro w'; go_simp; with_reducible rfl⟩ ?_
      refine pu_ 8 (some 13) (bm_ 13 511) rfl HT_ ⟨by rfl, by intro w'; go_simp; with_reducible rfl⟩ ?_
      refine ta_ 9 (some 14) (bm_ 13 1023) rfl HT_ HW_ ⟨by rfl, by rintro w' ⟨s0, s1⟩; go_simp; with_reducible rfl⟩ hHeld ?_
      refine pu_ 10 (some 15) (bm_ 13 2047) rfl HT_ ⟨by rfl, by intro w'; go_simp; with_reducible rfl⟩ ?_
      refine pu_ 11 (some 16) (bm_ 13 4095) rfl HT_ ⟨by rfl, by intro w'; go_simp; with_reducible rfl⟩ ?_
      refine pu_ 12 (some 17) (bm_ 13 8191) rfl HT_ ⟨by rfl, by intro w'; go_simp; with_reducible rfl⟩ ?_
      refine done_ (done_of HT_.out (by kernel_rfl)) ?_
      go_wp2_with fail
      refine bodyPost_ret (v := .agg #[.bool u, .int .u64 (hi m), .int .u64 (lo m), .int .i64 k]) (results_cell_row (t := 28) Tryz.results58 _ _ (w.heap.size + 1) _ (0, 0) _ rfl ((((hR.put 0 _).put 1 _).put 2 _).put 3 _) Tryz.underlying28 rfl (by kernel_rfl)) rfl (kaimed hm bl_)
  · have d1 : decide ((0 : Int) < t) = false := decide_eq_false ht
    refine start_ (n := 13) (S := fun w' => w'.cell? ⟨w.heap.size, 5, none⟩ = some (.int .i64 t) ∧ w'.cell? ⟨rq, 5, none⟩ = some (.slice lp (nB b bits) lcap)) (ds := []) (bm_ 13 0) (by kernel_rfl) rfl rfl ⟨a5, c5⟩ (fun hHeld => ?_); refine with_tabW tabH_58_1 tabK_58_1 (fun HT_ HW_ => ?_)
    refine pu_ 0 (some 5) (bm_ 13 1) rfl HT_ ⟨by rfl, by intro w'; go_simp; with_reducible rfl⟩ ?_
    refine ta_ 1 (some 6) (bm_ 13 3) rfl HT_ HW_ ⟨by rfl, by rintro w' ⟨s0, s1⟩; go_simp; with_reducible rfl⟩ hHeld ?_
    refine pu_ 2 (some 7) (bm_ 13 7) rfl HT_ ⟨by rfl, by intro w'; go_simp; with_reducible rfl⟩ ?_
    refine pu_ 3 (some 8) (bm_ 13 15) rfl HT_ ⟨by rfl, by intro w'; go_simp; with_reducible rfl⟩ ?_
    refine pure_ (i := 4) (N := (some 9)) (v := undef) (a' := ?_) (bm_ 13 31) rfl rfl (any_of HT_.out (by kernel_rfl)) (fun _ _ _ h => h) (Or.inr ⟨by rfl, rfl⟩) ?_ ?_
    rotate_left
    · simp only [Act.put, List.setIfInBounds_toArray, List.set_cons_zero, List.set_cons_succ, i64_w, i32_w]
      rfl
    refine pure_ (i := 5) (N := (some 10)) (v := undef) (a' := ?_) (bm_ 13 63) rfl rfl (any_of HT_.out (by kernel_rfl)) (fun _ _ _ h => h) (Or.inr ⟨by rfl, rfl⟩) ?_ ?_
    rotate_left
    · simp only [Act.put, List.setIfInBounds_toArray, List.set_cons_zero, List.set_cons_succ, i64_w, i32_w]
      rfl
    refine pure_ (i := 6) (N := (some 11)) (v := undef) (a' := ?_) (bm_ 13 127) rfl rfl (any_of HT_.out (by kernel_rfl)) (fun _ _ _ h => h) (Or.inr ⟨by rfl, rfl⟩) ?_ ?_
    rotate_left
    · simp only [Act.put, List.setIfInBounds_toArray, List.set_cons_zero, List.set_cons_succ, i64_w, i32_w]
      rfl
    refine pure_ (i := 7) (N := (some 12)) (v := undef) (a' := ?_) (bm_ 13 255) rfl rfl (any_of HT_.out (by kernel_rfl)) (fun _ _ _ h => h) (Or.inr ⟨by rfl, rfl⟩) ?_ ?_
    rotate_left
    · simp only [Act.put, List.setIfInBounds_toArray, List.set_cons_zero, List.set_cons_succ, i64_w, i32_w]
      rfl
    refine pure_ (i := 8) (N := (some 13)) (v := undef) (a' := ?_) (bm_ 13 511) rfl rfl (any_of HT_.out (by kernel_rfl)) (fun _ _ _ h => h) (Or.inr ⟨by rfl, rfl⟩) ?_ ?_
    rotate_left
    · simp only [Act.put, List.setIfInBounds_toArray, List.set_cons_zero, List.set_cons_succ, i64_w, i32_w]
      rfl
    refine pure_ (i := 9) (N := (some 14)) (v := undef) (a' := ?_) (bm_ 13 1023) rfl rfl (any_of HT_.out (by kernel_rfl)) (fun _ _ _ h => h) (Or.inr ⟨by rfl, rfl⟩) ?_ ?_
    rotate_left
    · simp only [Act.put, List.setIfInBounds_toArray, List.set_cons_zero, List.set_cons_succ, i64_w, i32_w]
      rfl
    refine pure_ (i := 10) (N := (some 15)) (v := undef) (a' := ?_) (bm_ 13 2047) rfl rfl (any_of HT_.out (by kernel_rfl)) (fun _ _ _ h => h) (Or.inr ⟨by rfl, rfl⟩) ?_ ?_
    rotate_left
    · simp only [Act.put, List.setIfInBounds_toArray, List.set_cons_zero, List.set_cons_succ, i64_w, i32_w]
      rfl
    refine pure_ (i := 11) (N := (some 16)) (v := undef) (a' := ?_) (bm_ 13 4095) rfl rfl (any_of HT_.out (by kernel_rfl)) (fun _ _ _ h => h) (Or.inr ⟨by rfl, rfl⟩) ?_ ?_
    rotate_left
    · simp only [Act.put, List.setIfInBounds_toArray, List.set_cons_zero, List.set_cons_succ, i64_w, i32_w]
      rfl
    refine pu_ 12 (some 17) (bm_ 13 8191) rfl HT_ ⟨by rfl, by intro w'; go_simp; with_reducible rfl⟩ ?_
    refine done_ (done_of HT_.out (by kernel_rfl)) ?_
    go_wp2_with fail
    refine bodyPost_ret (v := .agg #[.bool u, .int .u64 (hi m), .int .u64 (lo m), .int .i64 k]) (results_cell_row (t := 28) Tryz.results58 _ _ (w.heap.size + 1) _ (0, 0) _ rfl ((((hR.put 0 _).put 1 _).put 2 _).put 3 _) Tryz.underlying28 rfl (by kernel_rfl)) rfl (kaimed hm bl_)
end Go.Proofs.YtpfilldnfpcpkaaGreatDoor

namespace Go.Proofs.YtpfilldnfpcpkaaGreatDoor
open Go.RowKit Go.Proofs.YtpfilldnfpcpkaaGreatDoorW.PrintWords Go.Proofs.YtpfilldnfpcpkaaGreatDoorW.PrintLast Go.Proofs.YtpfilldnfpcpkaaGreatDoorW.PrintMore Go.Proofs.YtpfilldnfpcpkaaGreatDoor.PPo

theorem knext_one {f : Nat → Bool} {n a j k : Nat} (h : IsNext f n a j) (h' : IsNext f n a k) : j = k := by
  obtain ⟨q1, q2, q3⟩ := h
  obtain ⟨p1, p2, p3⟩ := h'
  rcases q3 with ⟨q3, q4⟩ | ⟨q3, q4, q5⟩ <;> rcases p3 with ⟨p3, p4⟩ | ⟨p3, p4, p5⟩
  · rcases Nat.lt_trichotomy j k with e | e | e
    · rw [p4 j q3 e] at q2; cases q2
    · exact e
    · rw [q4 k p3 e] at p2; cases p2
  · rw [p4 j q3 q1] at q2; cases q2
  · rw [q4 k p3 p1] at p2; cases p2
  · rcases Nat.lt_trichotomy j k with e | e | e
    · rw [p5 j e] at q2; cases q2
    · exact e
    · rw [q5 k e] at p2; cases p2
/-- what an act leaves: all blocks but four -/
structure KFr (q c rq uc : Nat) (w w' : World) : Prop where
  os : w'.os = w.os
  tape : w'.tape = w.tape
  output : w'.output = w.output
  size : w.heap.size ≤ w'.heap.size
  block : ∀ i, i < w.heap.size → i ≠ q → i ≠ c → i ≠ rq → i ≠ uc → w'.heap[i]? = w.heap[i]?
theorem KFr.trans {q c rq uc : Nat} {a b d : World} (h : KFr q c rq uc a b) (k : KFr q c rq uc b d) : KFr q c rq uc a d :=
  ⟨k.os.trans h.os, k.tape.trans h.tape, k.output.trans h.output, Nat.le_trans h.size k.size, fun i hi h1 h2 h3 h4 => (k.block i (Nat.lt_of_lt_of_le hi h.size) h1 h2 h3 h4).trans (h.block i hi h1 h2 h3 h4)⟩
theorem KFr.below {q c rq uc : Nat} {a b : World} (h : Below a.heap.size a b) : KFr q c rq uc a b := ⟨h.os, h.tape, h.output, h.size, fun i hi _ _ _ _ => h.block i hi⟩
theorem KFr.ofs {q c rq uc : Nat} {a b : World} (h : Fr2 q c a b) : KFr q c rq uc a b := ⟨h.os, h.tape, h.output, h.size, fun i hi h1 h2 _ _ => h.block i hi h1 h2⟩
theorem KFr.ofr {q c rq uc : Nat} {a b : World} (h : Fr2 rq uc a b) : KFr q c rq uc a b := ⟨h.os, h.tape, h.output, h.size, fun i hi _ _ h3 h4 => h.block i hi h3 h4⟩
theorem KFr.blk {q c rq uc : Nat} {a b : World} (h : KFr q c rq uc a b) {g : Nat} {t : TypeId} {cs : Array Value} (hB : Blk a g t cs) (h1 : g ≠ q) (h2 : g ≠ c) (h3 : g ≠ rq) (h4 : g ≠ uc) : Blk b g t cs := hB.same (h.block g hB.lt h1 h2 h3 h4)
theorem KFr.bl {q c rq uc : Nat} {a w w' : World} (h : Below a.heap.size a w) (k : KFr q c rq uc w w') (h1 : a.heap.size ≤ q) (h2 : a.heap.size ≤ c) (h3 : a.heap.size ≤ rq) (h4 : a.heap.size ≤ uc) : Below a.heap.size a w' :=
  ⟨k.os.trans h.os, k.tape.trans h.tape, k.output.trans h.output, Nat.le_trans h.size k.size, fun i hi => (k.block i (Nat.lt_of_lt_of_le hi h.size) (by omega) (by omega) (by omega) (by omega)).trans (h.block i hi)⟩
theorem RSetAt.fr2 {w w' : World} {base q lcap uc : Nat} {lp : Option Addr} {v : Bool} {n : Nat} {b bits : Int} {f : Nat → Bool} {cur : Nat} (h : RSetAt w base q lp lcap uc v n b bits f cur) {sq sc : Nat} {c1 c2 : Array Value} (hF : Fr2 sq sc w w') (h1 : Blk w sq 129 c1) (h2 : Blk w sc 22 c2) : RSetAt w' base q lp lcap uc v n b bits f cur :=
  ⟨blk_fr2 h.head hF (h.head.ne h1 (by decide)) (h.head.ne h2 (by decide)), own_fr2 h.list hF h1 h2 (by decide) (by decide), blk_fr2 h.used hF (h.used.ne h1 (by decide)) (h.used.ne h2 (by decide)), h.cuts, h.few, h.at_⟩
theorem SetAt.fr2 {w w' : World} {q g c : Nat} {v : Bool} {n : Nat} {b bits : Int} {f : Nat → Bool} {cur : Nat} (h : SetAt w q g c v n b bits f cur) {rq uc : Nat} {c1 c2 : Array Value} (hF : Fr2 rq uc w w') (h1 : Blk w rq 92 c1) (h2 : Blk w uc 4 c2) : SetAt w' q g c v n b bits f cur :=
  ⟨blk_fr2 h.head hF (h.head.ne h1 (by decide)) (h.head.ne h2 (by decide)), ⟨blk_fr2 h.map.head hF (h.map.head.ne h1 (by decide)) (h.map.head.ne h2 (by decide)), blk_fr2 h.map.row hF (h.map.row.ne h1 (by decide)) (h.map.row.ne h2 (by decide)), h.map.ne, h.map.small, h.map.top⟩, h.cuts, h.few, h.at_⟩
/-- another set, apart from the one that is changed -/
theorem SetAt.apart {w w' : World} {q g c : Nat} {v : Bool} {n : Nat} {b bits : Int} {f : Nat → Bool} {cur : Nat} (h : SetAt w q g c v n b bits f cur) {q2 c2 B : Nat} (hF : Fr2 q2 c2 w w') (h1 : q2 < B) (h2 : c2 < B) (k1 : B ≤ q) (k2 : B ≤ g) (k3 : B ≤ c) : SetAt w' q g c v n b bits f cur :=
  ⟨blk_fr2 h.head hF (by omega) (by omega), ⟨blk_fr2 h.map.head hF (by omega) (by omega), blk_fr2 h.map.row hF (by omega) (by omega), h.map.ne, h.map.small, h.map.top⟩, h.cuts, h.few, h.at_⟩
/-- what an act gives -/
def KDone (base q c rq : Nat) (lp : Option Addr) (lcap uc : Nat) (v : Bool) (n : Nat) (b bits : Int) (w : World) (e : Ending) (w' : World) : Prop :=
  ∃ (q' g' c' : Nat) (f' : Nat → Bool) (cur' : Nat), e = .returned (.tuple #[.pointer (some ⟨q', 0, none⟩), .bool true]) ∧ SetAt w' q' g' c' v n b bits f' cur' ∧ RSetAt w' base rq lp lcap uc v n b bits f' cur' ∧ KFr q c rq uc w w' ∧ ((q' = q ∧ c' = c) ∨ (w.heap.size ≤ q' ∧ w.heap.size ≤ c'))
theorem kdone {base q c rq lcap uc : Nat} {lp : Option Addr} {v : Bool} {n : Nat} {b bits : Int} {w w' : World} {q' g' c' : Nat} {f' : Nat → Bool} {cur' : Nat} (h1 : SetAt w' q' g' c' v n b bits f' cur') (h2 : RSetAt w' base rq lp lcap uc v n b bits f' cur') (h3 : KFr q c rq uc w w') (h4 : (q' = q ∧ c' = c) ∨ (w.heap.size ≤ q' ∧ w.heap.size ≤ c')) : KDone base q c rq lp lcap uc v n b bits w (.returned (.tuple #[.pointer (some ⟨q', 0, none⟩), .bool true])) w' := ⟨q', g', c', f', cur', rfl, h1, h2, h3, h4⟩
set_option maxRecDepth 100000 in
set_option maxHeartbeats 8000000 in
theorem kdoes_c (base q g c rq lcap uc : Nat) (lp : Option Addr) (v : Bool) (n : Nat) (b bits : Int) (f : Nat → Bool) (cur : Nat) (K t : Int) (u : Bool) (m : Nat) (k : Int) (w : World) (hs : SetAt w q g c v n b bits f cur) (hr : RSetAt w base rq lp lcap uc v n b bits f cur) (hm : m < 340282366920938463463374607431768211456) (hT : Tab w) :
    Calls Tryz.prog 46 #[.pointer (some ⟨q, 0, none⟩), .pointer (some ⟨rq, 0, none⟩), .agg #[.int .i64 K, .bool u, .int .u64 (hi m), .int .u64 (lo m), .int .i64 k, .int .i64 t]] w (KDone base q c rq lp lcap uc v n b bits w) := by
  have hsl := hs.head.lt
  have hcl := hs.map.row.lt
  have hTl := hT.lt
  go_enter Tryz.func46, Tryz.ntmps46
  go_wp2_with fail
  have hA : Blk (w.alloc (Obj.cells #[.int .i64 K, .bool u, .int .u64 (hi m), .int .u64 (lo m), .int .i64 k, .int .i64 t] 82)) (w.heap.size) 82 #[.int .i64 K, .bool u, .int .u64 (hi m), .int .u64 (lo m), .int .i64 k, .int .i64 t] := (Blk.new' _ _ _ _ (by simp) : Blk (w.alloc (Obj.cells #[.int .i64 K, .bool u, .int .u64 (hi m), .int .u64 (lo m), .int .i64 k, .int .i64 t] 82)) (w.heap.size) 82 #[.int .i64 K, .bool u, .int .u64 (hi m), .int .u64 (lo m), .int .i64 k, .int .i64 t])
  have hbel : Below w.heap.size w (w.alloc (Obj.cells #[.int .i64 K, .bool u, .int .u64 (hi m), .int .u64 (lo m), .int .i64 k, .int .i64 t] 82)) := bl_
  have hsz : (w.alloc (Obj.cells #[.int .i64 K, .bool u, .int .u64 (hi m), .int .u64 (lo m), .int .i64 k, .int .i64 t] 82)).heap.size = w.heap.size + 1 := by simp
  generalize w.alloc (Obj.cells #[.int .i64 K, .bool u, .int .u64 (hi m), .int .u64 (lo m), .int .i64 k, .int .i64 t] 82) = wz at *
  have a0 : wz.cell? ⟨w.heap.size, 0, none⟩ = some (.int .i64 K) := (hA.cell 0).trans rfl
  have a1 : wz.cell? ⟨w.heap.size, 1, none⟩ = some (.bool u) := (hA.cell 1).trans rfl
  have a2 : wz.cell? ⟨w.heap.size, 2, none⟩ = some (.int .u64 (hi m)) := (hA.cell 2).trans rfl
  have a3 : wz.cell? ⟨w.heap.size, 3, none⟩ = some (.int .u64 (lo m)) := (hA.cell 3).trans rfl
  have a4 : wz.cell? ⟨w.heap.size, 4, none⟩ = some (.int .i64 k) := (hA.cell 4).trans rfl
  have a5 : wz.cell? ⟨w.heap.size, 5, none⟩ = some (.int .i64 t) := (hA.cell 5).trans rfl
  refine (kaim_c base rq lcap uc lp v n b bits f cur K t u m k _ (hr.after bl_) hm).mono ?_
  rintro e w2 ⟨u2, m2, k2, rfl, hm2, hb2⟩
  have hb : Below w.heap.size w w2 := bl_trans bl_ hb2
  have hA2 : Blk w2 w.heap.size 82 #[.int .i64 K, .bool u, .int .u64 (hi m), .int .u64 (lo m), .int .i64 k, .int .i64 t] := hA.after (show Below wz.heap.size wz w2 from bl_)
  have hs2 := hs.after hb
  have hr2 := hr.after hb
  clear a0 a1 a2 a3 a4 a5 hA hbel hb2
  have a0 : w2.cell? ⟨w.heap.size, 0, none⟩ = some (.int .i64 K) := (hA2.cell 0).trans rfl
  have hA2l := hA2.lt
  have hw2 := hb.size
  by_cases hK1 : K = 1
  · subst hK1
    go_wp2_with fail
    have hX := Blk.new w2 28 #[.bool u2, .int .u64 (hi m2), .int .u64 (lo m2), .int .i64 k2]
    replace hs2 := hs2.after (bl_alloc (Below.refl _ _) (.cells #[.bool u2, .int .u64 (hi m2), .int .u64 (lo m2), .int .i64 k2] 28))
    replace hr2 := hr2.after (bl_alloc (Below.refl _ _) (.cells #[.bool u2, .int .u64 (hi m2), .int .u64 (lo m2), .int .i64 k2] 28))
    replace hb := bl_alloc hb (.cells #[.bool u2, .int .u64 (hi m2), .int .u64 (lo m2), .int .i64 k2] 28)
    clear a0 hA2 hA2l
    generalize w2.alloc (.cells #[.bool u2, .int .u64 (hi m2), .int .u64 (lo m2), .int .i64 k2] 28) = w3 at *
    generalize w2.heap.size = gx at *
    refine (knext_c q g c v n b bits f cur _ hs2 (hT.after hTl hb)).mono ?_
    rintro e w4 (⟨j, hj, rfl, hs4, hF4⟩ | ⟨hall, rfl, hb4⟩)
    · have hr4 := hr2.fr2 hF4 hs2.head hs2.map.row
      have hFr := (KFr.below hb).trans (KFr.ofs hF4 (rq := rq) (uc := uc))
      clear hX hs2 hr2 hb hF4
      have HJ := Lib.hid hj
      clear hj
      generalize hX1 : hi (n + j * 2 ^ fr v bits) = X1 at *
      generalize hX2 : lo (n + j * 2 ^ fr v bits) = X2 at *
      have HX1 := Lib.hid hX1
      have HX2 := Lib.hid hX2
      clear hX1 hX2
      go_wp2_with fail
      have hY := Blk.new w4 28 #[.bool v, .int .u64 X1, .int .u64 X2, .int .i64 bits]
      replace hs4 := hs4.after (bl_alloc (Below.refl _ _) (.cells #[.bool v, .int .u64 X1, .int .u64 X2, .int .i64 bits] 28))
      replace hr4 := hr4.after (bl_alloc (Below.refl _ _) (.cells #[.bool v, .int .u64 X1, .int .u64 X2, .int .i64 bits] 28))
      replace hFr := hFr.trans (KFr.below (bl_alloc (Below.refl _ _) (.cells #[.bool v, .int .u64 X1, .int .u64 X2, .int .i64 bits] 28)))
      have nyr := hY.ne hr4.head (by decide)
      have nyu := hY.ne hr4.used (by decide)
      generalize w4.alloc (.cells #[.bool v, .int .u64 X1, .int .u64 X2, .int .i64 bits] 28) = w5 at *
      generalize w4.heap.size = gy at *
      refine (rknext_c base rq lcap uc lp v n b bits f cur _ hr4).mono ?_
      rintro e w6 (⟨j', hj', rfl, hr6, hF6⟩ | ⟨hall, -, -⟩)
      rotate_left
      · exfalso
        have := hall j HJ.out.1
        rw [HJ.out.2.1] at this; cases this
      obtain rfl : j = j' := knext_one HJ.out hj'
      rw [HX1.out, HX2.out]
      have hs6 := hs4.fr2 hF6 hr4.head hr4.used
      have hFr6 := hFr.trans (KFr.ofr hF6)
      have hY6 := blk_fr2 hY hF6 nyr nyu
      clear hs4 hr4 hFr hY hF6 hj'
      obtain ⟨y0, y1, y2, y3⟩ := pcells_of hY6
      have hyl := hY6.lt
      go_wp2_with fail
      go_ret2
      exact kdone (hs6.after bl_) (hr6.after bl_) (hFr6.trans (KFr.below bl_)) (.inl ⟨rfl, rfl⟩)
    · have HA := Lib.hid hall
      have hs4 := hs2.after hb4
      have hr4 := hr2.after hb4
      have hb' := bl_trans hb hb4
      clear hX hs2 hr2 hb hb4 hall
      go_wp2_with fail
      have hY := Blk.new w4 28 #[.bool false, .int .u64 0, .int .u64 0, .int .i64 0]
      replace hs4 := hs4.after (bl_alloc (Below.refl _ _) (.cells #[.bool false, .int .u64 0, .int .u64 0, .int .i64 0] 28))
      replace hr4 := hr4.after (bl_alloc (Below.refl _ _) (.cells #[.bool false, .int .u64 0, .int .u64 0, .int .i64 0] 28))
      replace hb' := bl_alloc hb' (.cells #[.bool false, .int .u64 0, .int .u64 0, .int .i64 0] 28)
      generalize w4.alloc (.cells #[.bool false, .int .u64 0, .int .u64 0, .int .i64 0] 28) = w5 at *
      generalize w4.heap.size = gy at *
      refine (rknext_c base rq lcap uc lp v n b bits f cur _ hr4).mono ?_
      rintro e w6 (⟨j', hj', -, -, -⟩ | ⟨-, rfl, hb6⟩)
      · exfalso
        have := HA.out j' hj'.1
        rw [hj'.2.1] at this; cases this
      have hs6 := hs4.after hb6
      have hr6 := hr4.after hb6
      have hY6 := hY.after hb6
      have hb6' := bl_trans hb' hb6
      clear hs4 hr4 hY hb' hb6
      obtain ⟨y0, y1, y2, y3⟩ := pcells_of hY6
      have hyl := hY6.lt
      go_wp2_with fail
      go_ret2
      exact kdone (hs6.after bl_) (hr6.after bl_) (KFr.below bl_) (.inl ⟨rfl, rfl⟩)
  have d1 : (K == 1) = false := by simpa using hK1
  by_cases hK2 : K = 2
  · subst hK2
    go_wp2_with fail
    have hX := Blk.new w2 28 #[.bool u2, .int .u64 (hi m2), .int .u64 (lo m2), .int .i64 k2]
    replace hs2 := hs2.after (bl_alloc (Below.refl _ _) (.cells #[.bool u2, .int .u64 (hi m2), .int .u64 (lo m2), .int .i64 k2] 28))
    replace hr2 := hr2.after (bl_alloc (Below.refl _ _) (.cells #[.bool u2, .int .u64 (hi m2), .int .u64 (lo m2), .int .i64 k2] 28))
    replace hb := bl_alloc hb (.cells #[.bool u2, .int .u64 (hi m2), .int .u64 (lo m2), .int .i64 k2] 28)
    clear a0 hA2 hA2l
    generalize w2.alloc (.cells #[.bool u2, .int .u64 (hi m2), .int .u64 (lo m2), .int .i64 k2] 28) = w3 at *
    generalize w2.heap.size = gx at *
    have nxc := hX.ne hs2.map.row (by decide)
    obtain ⟨x0, x1, x2, x3⟩ := pcells_of hX
    refine (kOccupy_put q g c v n b bits f cur u2 m2 k2 _ hs2 hm2).mono ?_
    rintro e w4 ⟨rfl, hs4, hg4⟩
    have hr4 := hr2.fr2 (fr2_gb hg4) hs2.head hs2.map.row
    have hFr := (KFr.below hb).trans (KFr.ofs (fr2_gb hg4 (a := q)) (rq := rq) (uc := uc))
    have hX4 := hX.grown hg4 (some_ne nxc)
    clear x0 x1 x2 x3 hX hs2 hr2 hb hg4
    obtain ⟨x0, x1, x2, x3⟩ := pcells_of hX4
    go_wp2_with fail
    refine (rk_put base rq lcap uc lp v n b bits f cur u2 m2 k2 true _ hr4 hm2).mono ?_
    rintro e w5 ⟨rfl, hr5, hg5⟩
    have hs5 := hs4.fr2 (fr2_gb hg5 (a := rq)) hr4.head hr4.used
    have hFr5 := hFr.trans (KFr.ofr (fr2_gb hg5 (a := rq)))
    clear x0 x1 x2 x3 hX4 hs4 hr4 hFr hg5
    generalize putA v n b bits u2 m2 k2 true f = RA at *
    generalize putE v n b bits u2 m2 k2 = RE at *
    go_wp2_with fail
    go_ret2
    exact kdone (hs5.after bl_) (hr5.after bl_) (hFr5.trans (KFr.below bl_)) (.inl ⟨rfl, rfl⟩)
  have d2 : (K == 2) = false := by simpa using hK2
  by_cases hK3 : K = 3
  · subst hK3
    go_wp2_with fail
    have hX := Blk.new w2 28 #[.bool u2, .int .u64 (hi m2), .int .u64 (lo m2), .int .i64 k2]
    replace hs2 := hs2.after (bl_alloc (Below.refl _ _) (.cells #[.bool u2, .int .u64 (hi m2), .int .u64 (lo m2), .int .i64 k2] 28))
    replace hr2 := hr2.after (bl_alloc (Below.refl _ _) (.cells #[.bool u2, .int .u64 (hi m2), .int .u64 (lo m2), .int .i64 k2] 28))
    replace hb := bl_alloc hb (.cells #[.bool u2, .int .u64 (hi m2), .int .u64 (lo m2), .int .i64 k2] 28)
    clear a0 hA2 hA2l
    generalize w2.alloc (.cells #[.bool u2, .int .u64 (hi m2), .int .u64 (lo m2), .int .i64 k2] 28) = w3 at *
    generalize w2.heap.size = gx at *
    have nxc := hX.ne hs2.map.row (by decide)
    obtain ⟨x0, x1, x2, x3⟩ := pcells_of hX
    refine (kRelease_put q g c v n b bits f cur u2 m2 k2 _ hs2 hm2).mono ?_
    rintro e w4 ⟨rfl, hs4, hg4⟩
    have hr4 := hr2.fr2 (fr2_gb hg4) hs2.head hs2.map.row
    have hFr := (KFr.below hb).trans (KFr.ofs (fr2_gb hg4 (a := q)) (rq := rq) (uc := uc))
    have hX4 := hX.grown hg4 (some_ne nxc)
    clear x0 x1 x2 x3 hX hs2 hr2 hb hg4
    obtain ⟨x0, x1, x2, x3⟩ := pcells_of hX4
    go_wp2_with fail
    refine (rk_put base rq lcap uc lp v n b bits f cur u2 m2 k2 false _ hr4 hm2).mono ?_
    rintro e w5 ⟨rfl, hr5, hg5⟩
    have hs5 := hs4.fr2 (fr2_gb hg5 (a := rq)) hr4.head hr4.used
    have hFr5 := hFr.trans (KFr.ofr (fr2_gb hg5 (a := rq)))
    clear x0 x1 x2 x3 hX4 hs4 hr4 hFr hg5
    generalize putA v n b bits u2 m2 k2 false f = RA at *
    generalize putE v n b bits u2 m2 k2 = RE at *
    go_wp2_with fail
    go_ret2
    exact kdone (hs5.after bl_) (hr5.after bl_) (hFr5.trans (KFr.below bl_)) (.inl ⟨rfl, rfl⟩)
  have d3 : (K == 3) = false := by simpa using hK3
  by_cases hK4 : K = 4
  · subst hK4
    go_wp2_with fail
    have hX := Blk.new w2 28 #[.bool u2, .int .u64 (hi m2), .int .u64 (lo m2), .int .i64 k2]
    replace hs2 := hs2.after (bl_alloc (Below.refl _ _) (.cells #[.bool u2, .int .u64 (hi m2), .int .u64 (lo m2), .int .i64 k2] 28))
    replace hr2 := hr2.after (bl_alloc (Below.refl _ _) (.cells #[.bool u2, .int .u64 (hi m2), .int .u64 (lo m2), .int .i64 k2] 28))
    replace hb := bl_alloc hb (.cells #[.bool u2, .int .u64 (hi m2), .int .u64 (lo m2), .int .i64 k2] 28)
    clear a0 hA2 hA2l
    generalize w2.alloc (.cells #[.bool u2, .int .u64 (hi m2), .int .u64 (lo m2), .int .i64 k2] 28) = w3 at *
    generalize w2.heap.size = gx at *
    refine (kcopy_c q g c v n b bits f cur _ hs2).mono ?_
    rintro e w4 ⟨q', g', c', rfl, hs4', hb4, b1, b2, b3⟩
    have hs4 := hs2.after hb4
    have hr4 := hr2.after hb4
    have hb' := bl_trans hb hb4
    have hws : w.heap.size ≤ w3.heap.size := hb.size
    have hq3 : q < w3.heap.size := by omega
    have hc3 : c < w3.heap.size := by omega
    clear hX hs2 hr2 hb hb4
    go_wp2_with fail
    have HF : Hid (∀ (e : Ending) (w5 : World), KNexted q g c v n b bits f cur w4 e w5 → ∃ E f5 cur5, e = .returned (.tuple E) ∧ SetAt w5 q g c v n b bits f5 cur5 ∧ Fr2 q c w4 w5) := Lib.hid (fun e w5 hk => by
      rcases hk with ⟨j, hj, he, h1, h2⟩ | ⟨_, he, hb⟩
      · exact ⟨_, _, _, he, h1, h2⟩
      · exact ⟨_, _, _, he, hs4.after hb, fr2_below hb⟩)
    refine (knext_c q g c v n b bits f cur _ hs4 (hT.after hTl hb')).mono ?_
    intro e w5 hk
    obtain ⟨E5, f5, cur5, rfl, hs5, hF5⟩ := HF.out e w5 hk
    have hr5 := hr4.fr2 hF5 hs4.head hs4.map.row
    have hs5' := hs4'.apart hF5 hq3 hc3 b1 b2 b3
    have hFr5 := (KFr.below hb').trans (KFr.ofs hF5 (rq := rq) (uc := uc))
    clear hs4 hr4 hs4' hF5 hk HF
    obtain ⟨c0, c1, c2, c3, c4, c5, c6, c7⟩ := rset_cells hr5
    go_wp2_with fail
    refine (kRelease_put q g c v n b bits f5 cur5 v n b _ hs5 hs5.lt).mono ?_
    rintro e w6 ⟨rfl, hs6, hg6⟩
    have hr6 := hr5.fr2 (fr2_gb hg6 (a := q)) hs5.head hs5.map.row
    have hs6' := hs5'.apart (fr2_gb hg6 (a := q)) hq3 hc3 b1 b2 b3
    have hFr6 := hFr5.trans (KFr.ofs (fr2_gb hg6 (a := q)))
    clear hs5 hr5 hs5' hFr5 hg6 c0 c1 c2 c3 c4 c5 c6 c7
    go_wp2_with fail
    go_ret2
    exact kdone (hs6'.after bl_) (hr6.after bl_) (hFr6.trans (KFr.below bl_)) (.inr ⟨by omega, by omega⟩)
  have d4 : (K == 4) = false := by simpa using hK4
  go_wp2_with fail
  go_ret2
  exact kdone (hs2.after bl_) (hr2.after bl_) (KFr.below bl_) (.inl ⟨rfl, rfl⟩)
end Go.Proofs.YtpfilldnfpcpkaaGreatDoor

namespace Go.Proofs.YtpfilldnfpcpkaaGreatDoor
open Go.RowKit Go.Proofs.YtpfilldnfpcpkaaGreatDoorW.PrintWords Go.Proofs.YtpfilldnfpcpkaaGreatDoorW.PrintLast Go.Proofs.YtpfilldnfpcpkaaGreatDoorW.PrintMore Go.Proofs.YtpfilldnfpcpkaaGreatDoor.PPo

/-- the acts that came in -/
def KActs (w : World) (p : Option Addr) (len : Nat) : Prop := ∀ i, i < len → ∃ (a : Addr) (K t : Int) (u : Bool) (m : Nat) (k : Int), p = some a ∧ a.block < w.heap.size ∧ m < 340282366920938463463374607431768211456 ∧
  w.cell? (a.add (i * 6)) = some (.int .i64 K) ∧ w.cell? ⟨(a.add (i * 6)).block, (a.add (i * 6)).off + 1, none⟩ = some (.bool u) ∧ w.cell? ⟨(a.add (i * 6)).block, (a.add (i * 6)).off + 2, none⟩ = some (.int .u64 (hi m)) ∧
  w.cell? ⟨(a.add (i * 6)).block, (a.add (i * 6)).off + 3, none⟩ = some (.int .u64 (lo m)) ∧ w.cell? ⟨(a.add (i * 6)).block, (a.add (i * 6)).off + 4, none⟩ = some (.int .i64 k) ∧ w.cell? ⟨(a.add (i * 6)).block, (a.add (i * 6)).off + 5, none⟩ = some (.int .i64 t)
theorem KActs.after {w w' : World} {p : Option Addr} {len : Nat} (h : KActs w p len) (hb : Below w.heap.size w w') : KActs w' p len := by
  intro i hi'
  obtain ⟨a, K, t, u, m, k, e, hl, hm, h0, h1, h2, h3, h4, h5⟩ := h i hi'
  have hs := hb.size
  have hbl : (a.add (i * 6)).block < w.heap.size := by rw [add_block]; exact hl
  exact ⟨a, K, t, u, m, k, e, by omega, hm, (hb.cell hbl).trans h0, (hb.cell (p := ⟨_, _, none⟩) hbl).trans h1, (hb.cell (p := ⟨_, _, none⟩) hbl).trans h2, (hb.cell (p := ⟨_, _, none⟩) hbl).trans h3, (hb.cell (p := ⟨_, _, none⟩) hbl).trans h4, (hb.cell (p := ⟨_, _, none⟩) hbl).trans h5⟩
theorem setTo_both {ov : Nat → Bool} {f : Nat → Bool} {N y : Nat} (hy : y < N) : setTo ov false (setTo ov true f N) N y = (f y && !ov y) := by
  unfold setTo
  rw [decide_eq_true hy]
  cases h : ov y <;> simp
theorem used_both (ov f : Nat → Bool) (N : Nat) : usedTo (setTo ov false (setTo ov true f N) N) N = (usedTo f N).filter (fun y => !ov y) := by
  unfold usedTo
  rw [List.filter_filter]
  refine List.filter_congr fun y hy => ?_
  rw [setTo_both (List.mem_range.1 hy), Bool.and_comm]
theorem usedTo_mem {f : Nat → Bool} {N j : Nat} (h : j ∈ usedTo f N) : j < N := by
  unfold usedTo at h
  exact List.mem_range.1 (List.mem_filter.1 h).1
theorem ktake_next {l : List Nat} {t : Nat} (h : t < l.length) : l.take (t + 1) = l.take t ++ [l.getD t 0] := by
  rw [List.take_succ_eq_append_getElem h]
  simp [List.getD, h]
/-- those of the first ones that are wanted -/
def wantTo (ov : Nat → Bool) (J : List Nat) (t : Nat) : List Nat := (J.take t).filter fun y => !ov y
theorem wantTo_yes {ov : Nat → Bool} {J : List Nat} {t : Nat} (h : t < J.length) (ho : ov (J.getD t 0) = false) : wantTo ov J (t + 1) = wantTo ov J t ++ [J.getD t 0] := by
  unfold wantTo
  rw [ktake_next h, List.filter_append]
  congr 1
  simp only [List.filter_cons, List.filter_nil, ho]
  rfl
theorem wantTo_no {ov : Nat → Bool} {J : List Nat} {t : Nat} (h : t < J.length) (ho : ov (J.getD t 0) = true) : wantTo ov J (t + 1) = wantTo ov J t := by
  unfold wantTo
  rw [ktake_next h, List.filter_append]
  simp only [List.filter_cons, List.filter_nil, ho]
  simp
theorem wantTo_len (ov : Nat → Bool) (J : List Nat) (t : Nat) : (wantTo ov J t).length ≤ t := by
  unfold wantTo
  have := List.length_filter_le (fun y => !ov y) (J.take t)
  have := List.length_take_le t J
  omega
theorem wantTo_all (ov : Nat → Bool) (J : List Nat) : wantTo ov J J.length = J.filter fun y => !ov y := by
  unfold wantTo; rw [List.take_length]
theorem wantTo_mem {ov : Nat → Bool} {J : List Nat} {t x : Nat} (h : x ∈ wantTo ov J t) : x ∈ J := List.mem_of_mem_take (List.mem_filter.1 h).1
set_option maxRecDepth 100000 in
set_option maxHeartbeats 4000000 in
theorem ksame_c (p p2 : Option Addr) (len cap cap2 : Nat) (U : Nat → Bool) (M : Nat → Nat) (C : Nat → Int) (w : World) (h1 : PfxRow w p len U M C) (h2 : PfxRow w p2 len U M C) (hlen : len ≤ 65536) :
    Calls Tryz.prog 49 #[.slice p len cap, .slice p2 len cap2] w fun e w' => e = .returned (.bool true) ∧ Below w.heap.size w w' := by
  go_enter Tryz.func49, Tryz.ntmps49
  go_wp2_with fail
  go_loopw [5] (fun i wr => ∃ t : Nat, t ≤ len ∧ i = .int .i64 t ∧ Below w.heap.size w wr) (fun i _ => len - (intOf i).toNat)
  case atStart => exact ⟨0, Nat.zero_le _, rfl, bl_⟩
  case round =>
    obtain ⟨t, ht, rfl, hb⟩ := hrel
    by_cases hlt : t < len
    · have d1 : decide (t < len) = true := decide_eq_true hlt
      have d2 : decide ((t : Int) < (len : Int)) = true := decide_eq_true (by omega)
      have hz0 : (0 : Int) ≤ (t : Int) := by omega
      have hz1 : (t : Int) < (len : Int) := by omega
      obtain ⟨a, rfl, hal, hcl⟩ := (h1.after hb).at_ hlt
      obtain ⟨a', rfl, hal', hcl'⟩ := (h2.after hb).at_ hlt
      have HCL := Lib.hid hcl
      have HCL' := Lib.hid hcl'
      clear hcl hcl'
      go_wp2_with fail
      go_region_held3 (fun w' => (w'.cell? (a.add (t * 4)) = some (.bool (U t)) ∧ w'.cell? ⟨(a.add (t * 4)).block, (a.add (t * 4)).off + 1, none⟩ = some (.int .u64 (hi (M t))) ∧ w'.cell? ⟨(a.add (t * 4)).block, (a.add (t * 4)).off + 2, none⟩ = some (.int .u64 (lo (M t))) ∧ w'.cell? ⟨(a.add (t * 4)).block, (a.add (t * 4)).off + 3, none⟩ = some (.int .i64 (C t))) ∧ (w'.cell? (a'.add (t * 4)) = some (.bool (U t)) ∧ w'.cell? ⟨(a'.add (t * 4)).block, (a'.add (t * 4)).off + 1, none⟩ = some (.int .u64 (hi (M t))) ∧ w'.cell? ⟨(a'.add (t * 4)).block, (a'.add (t * 4)).off + 2, none⟩ = some (.int .u64 (lo (M t))) ∧ w'.cell? ⟨(a'.add (t * 4)).block, (a'.add (t * 4)).off + 3, none⟩ = some (.int .i64 (C t))) ∧ Below wr.heap.size wr w')
        (exact ⟨HCL.out _ bl_, HCL'.out _ bl_, bl_⟩)
        (fail)
      all_goals
        go_wp2_with fail
        go_roundw
        case rel => exact ⟨t + 1, by omega, by go_num, bl_⟩
        case measure => simp [intOf]; omega
    · have d1 : decide (t < len) = false := decide_eq_false hlt
      have d2 : decide ((t : Int) < (len : Int)) = false := decide_eq_false (by omega)
      go_wp2_with fail
      go_ret
      exact ⟨rfl, hb⟩
end Go.Proofs.YtpfilldnfpcpkaaGreatDoor

namespace Go.Proofs.YtpfilldnfpcpkaaGreatDoor
open Go.RowKit Go.Proofs.YtpfilldnfpcpkaaGreatDoorW.PrintWords Go.Proofs.YtpfilldnfpcpkaaGreatDoorW.PrintLast Go.Proofs.YtpfilldnfpcpkaaGreatDoorW.PrintMore Go.Proofs.YtpfilldnfpcpkaaGreatDoor.PPo

set_option maxRecDepth 100000 in
set_option maxHeartbeats 8000000 in
theorem blocksBack_walk (v : Bool) (n : Nat) (b bits : Int) (p : Option Addr) (len cap : Nat) (uq : Bool) (mq : Nat) (kq : Int) (w : World) (hn : n < 340282366920938463463374607431768211456) (_ : (Lit.int .i64 b).wf = true) (hlen : len ≤ 9223372036854775807) (hP : KActs w p len) (hmq : mq < 340282366920938463463374607431768211456) (_ : (Lit.int .i64 kq).wf = true) (hG : Glob w) :
    Calls Tryz.prog 6 #[PfxV v n b, .int .i64 bits, .slice p len cap, PfxV uq mq kq] w fun e w' => e = .returned (.bool true) ∧ Below w.heap.size w w' := by
  have hGw := Lib.hid hG
  have HSm := Lib.hid (fun w => ksmall_k v n b bits w hn)
  unfold PfxV PfxC
  go_enter Tryz.func6, Tryz.ntmps6
  go_wp2_with fail
  have hA : Blk ((w.alloc (Obj.cells #[.bool v, .int .u64 (hi n), .int .u64 (lo n), .int .i64 b] 28)).alloc (Obj.cells #[.bool uq, .int .u64 (hi mq), .int .u64 (lo mq), .int .i64 kq] 28)) (w.heap.size) 28 #[.bool v, .int .u64 (hi n), .int .u64 (lo n), .int .i64 b] := ((Blk.new' _ _ _ _ (by simp) : Blk (w.alloc (Obj.cells #[.bool v, .int .u64 (hi n), .int .u64 (lo n), .int .i64 b] 28)) (w.heap.size) 28 #[.bool v, .int .u64 (hi n), .int .u64 (lo n), .int .i64 b])).alloc _
  have hB : Blk ((w.alloc (Obj.cells #[.bool v, .int .u64 (hi n), .int .u64 (lo n), .int .i64 b] 28)).alloc (Obj.cells #[.bool uq, .int .u64 (hi mq), .int .u64 (lo mq), .int .i64 kq] 28)) (w.heap.size + 1) 28 #[.bool uq, .int .u64 (hi mq), .int .u64 (lo mq), .int .i64 kq] := (Blk.new' _ _ _ _ (by simp) : Blk ((w.alloc (Obj.cells #[.bool v, .int .u64 (hi n), .int .u64 (lo n), .int .i64 b] 28)).alloc (Obj.cells #[.bool uq, .int .u64 (hi mq), .int .u64 (lo mq), .int .i64 kq] 28)) (w.heap.size + 1) 28 #[.bool uq, .int .u64 (hi mq), .int .u64 (lo mq), .int .i64 kq])
  have hbel : Below w.heap.size w ((w.alloc (Obj.cells #[.bool v, .int .u64 (hi n), .int .u64 (lo n), .int .i64 b] 28)).alloc (Obj.cells #[.bool uq, .int .u64 (hi mq), .int .u64 (lo mq), .int .i64 kq] 28)) := bl_
  have hsz : ((w.alloc (Obj.cells #[.bool v, .int .u64 (hi n), .int .u64 (lo n), .int .i64 b] 28)).alloc (Obj.cells #[.bool uq, .int .u64 (hi mq), .int .u64 (lo mq), .int .i64 kq] 28)).heap.size = w.heap.size + 1 + 1 := by simp
  generalize (w.alloc (Obj.cells #[.bool v, .int .u64 (hi n), .int .u64 (lo n), .int .i64 b] 28)).alloc (Obj.cells #[.bool uq, .int .u64 (hi mq), .int .u64 (lo mq), .int .i64 kq] 28) = w1 at *
  refine (awake07_c w1 (hGw.out.after hbel)).mono ?_
  rintro e w2 ⟨rfl, hb⟩
  (try clear a0 a1 a2 a3 b0 b1 b2 b3)
  replace hA := hA.after hb
  replace hB := hB.after hb
  replace hbel := bl_trans hbel hb
  clear hb
  obtain ⟨a0, a1, a2, a3⟩ := pcells_of hA
  obtain ⟨b0, b1, b2, b3⟩ := pcells_of hB
  go_wp2_with fail
  refine (HSm.out _).mono ?_
  rintro e w3 ⟨rfl, hb⟩
  (try clear a0 a1 a2 a3 b0 b1 b2 b3)
  replace hA := hA.after hb
  replace hB := hB.after hb
  replace hbel := bl_trans hbel hb
  clear hb
  obtain ⟨a0, a1, a2, a3⟩ := pcells_of hA
  obtain ⟨b0, b1, b2, b3⟩ := pcells_of hB
  by_cases hs : (cutsS v n b bits && decide (bits - b ≤ 8)) = true
  rotate_left
  · rw [Bool.not_eq_true] at hs
    rw [hs]
    go_wp2_with fail
    go_ret
    exact ⟨rfl, hbel⟩
  rw [hs]
  rw [Bool.and_eq_true, decide_eq_true_iff] at hs
  obtain ⟨hc, h8⟩ := hs
  have h16 : bits - b ≤ 16 := by omega
  have hN := nB_le h16
  have hN8 : nB b bits ≤ 256 := Nat.pow_le_pow_right (n := 2) (i := (bits - b).toNat) (j := 8) (by decide) (by omega)
  go_wp2_with fail
  have la := hA.lt
  have lb := hB.lt
  refine (knew_c v n b bits _ hc h16).mono ?_
  rintro e w4 ⟨q, g, c, rfl, hs, hb, hq, -, hcc⟩
  have hqw : w.heap.size ≤ q := by omega
  have hcw : w.heap.size ≤ c := by omega
  clear la lb hq hcc
  (try clear a0 a1 a2 a3 b0 b1 b2 b3)
  replace hA := hA.after hb
  replace hB := hB.after hb
  replace hbel := bl_trans hbel hb
  clear hb
  obtain ⟨a0, a1, a2, a3⟩ := pcells_of hA
  obtain ⟨b0, b1, b2, b3⟩ := pcells_of hB
  go_wp2_with fail
  have hbs := hbel.size
  refine (rknew_c v n b bits _ hc h16).mono ?_
  rintro e w5 ⟨rq, lp, lcap, uc, rfl, hr, hb, hrq, hru⟩
  generalize hbase : w4.heap.size + 1 = base at hr
  clear hbase
  have hrw : w.heap.size ≤ rq := by omega
  have huw : w.heap.size ≤ uc := by omega
  clear hrq hru hbs
  (try clear a0 a1 a2 a3 b0 b1 b2 b3)
  replace hA := hA.after hb
  replace hB := hB.after hb
  replace hs := hs.after hb
  replace hbel := bl_trans hbel hb
  clear hb
  obtain ⟨a0, a1, a2, a3⟩ := pcells_of hA
  obtain ⟨b0, b1, b2, b3⟩ := pcells_of hB
  go_wp2_with fail
  clear a0 a1 a2 a3 b0 b1 b2 b3
  go_loopw [9, 13] (fun ss si wr => ∃ (z q c g : Nat) (f : Nat → Bool) (cur : Nat), z ≤ 60 ∧ si = .int .i64 z ∧ ss = .pointer (some ⟨q, 0, none⟩) ∧ SetAt wr q g c v n b bits f cur ∧ RSetAt wr base rq lp lcap uc v n b bits f cur ∧ Blk wr w.heap.size 28 #[.bool v, .int .u64 (hi n), .int .u64 (lo n), .int .i64 b] ∧ Blk wr (w.heap.size + 1) 28 #[.bool uq, .int .u64 (hi mq), .int .u64 (lo mq), .int .i64 kq] ∧ Below w.heap.size w wr ∧ w.heap.size ≤ q ∧ w.heap.size ≤ c) (fun _ si _ => 60 - (intOf si).toNat)
  case atStart => exact ⟨0, q, c, g, _, 0, by omega, rfl, rfl, hs, hr, hA, hB, hbel, hqw, hcw⟩
  case round =>
    clear hs hr hA hB hbel hqw hcw
    obtain ⟨z, q, c, g, f, cur, hz, rfl, rfl, hs, hr, hA, hB, hbel, hqw, hcw⟩ := hrel
    by_cases hgo : z < len ∧ z < 60
    · have dk : decide (z < len) = true := decide_eq_true hgo.1
      have dk1 : decide ((z : Int) < (len : Int)) = true := decide_eq_true (by omega)
      have dk2 : decide ((z : Int) < 60) = true := decide_eq_true (by omega)
      have dk3 : decide (z < 60) = true := decide_eq_true hgo.2
      have hz0 : (0 : Int) ≤ (z : Int) := by omega
      have hz1 : (z : Int) < (len : Int) := by omega
      obtain ⟨a, K, t, u, m, k, rfl, hal, hm, k0, k1, k2, k3, k4, k5⟩ := hP.after hbel z hgo.1
      go_wp2_with fail
      refine (kdoes_c base q g c rq lcap uc lp v n b bits f cur K t u m k _ (hs.after bl_) (hr.after bl_) hm (glob_tabK (hGw.out.after (show Below w.heap.size w _ from bl_)))).mono ?_
      rintro e w6 ⟨q', g', c', f', cur', rfl, hs', hr', hF, hqc⟩
      have hA6 := hF.blk (hA.after (show Below wr.heap.size wr _ from bl_)) (hA.ne hs.head (by decide)) (hA.ne hs.map.row (by decide)) (hA.ne hr.head (by decide)) (hA.ne hr.used (by decide))
      have hB6 := hF.blk (hB.after (show Below wr.heap.size wr _ from bl_)) (hB.ne hs.head (by decide)) (hB.ne hs.map.row (by decide)) (hB.ne hr.head (by decide)) (hB.ne hr.used (by decide))
      have hb6 : Below w.heap.size w w6 := hF.bl (show Below w.heap.size w _ from bl_) hqw hcw hrw huw
      have hqw' : w.heap.size ≤ q' := by
        have := hbel.size
        rcases hqc with ⟨e, _⟩ | ⟨e, _⟩
        · omega
        · omega
      have hcw' : w.heap.size ≤ c' := by
        have := hbel.size
        rcases hqc with ⟨_, e⟩ | ⟨_, e⟩
        · omega
        · omega
      clear hs hr hA hB hbel hF hqc k0 k1 k2 k3 k4 k5 hqw hcw
      go_wp2_with fail
      go_roundw
      case rel => exact ⟨z + 1, q', c', g', f', cur', by omega, by go_num, rfl, hs', hr', hA6, hB6, hb6, hqw', hcw'⟩
      case measure => simp [intOf]; omega
    · have hstop : (decide (z < len) = false ∧ decide ((z : Int) < (len : Int)) = false) ∨ (decide (z < len) = true ∧ decide ((z : Int) < (len : Int)) = true ∧ decide ((z : Int) < 60) = false ∧ decide (z < 60) = false) := by
        by_cases h1 : z < len
        · exact .inr ⟨decide_eq_true h1, decide_eq_true (by omega), decide_eq_false (by omega), decide_eq_false (by omega)⟩
        · exact .inl ⟨decide_eq_false h1, decide_eq_false (by omega)⟩
      clear hgo hr
      rcases hstop with ⟨dk, dk1⟩ | ⟨dk, dk1, dk2, dk3⟩
      all_goals
        go_wp2_with fail
        refine (kused_c q g c v n b bits f cur _ (hs.after bl_)).mono ?_
        rintro e w6 ⟨pu, cu, rfl, hwas, hb⟩
        have hbx : Below wr.heap.size wr w6 := bl_
        have hs6 := hs.after hbx
        have hB6 := hB.after hbx
        have hb6 := bl_trans hbel hbx
        clear hs hA hB hbel hb hbx
        obtain ⟨b0, b1, b2, b3⟩ := pcells_of hB6
        have hlJ : (usedTo f (nB b bits)).length ≤ 256 := Nat.le_trans (usedTo_len _ _) hN8
        go_wp2_with fail
        refine (kOccupy_put q g c v n b bits f cur uq mq kq _ hs6 hmq).mono ?_
        rintro e w7 ⟨rfl, hs7, hg⟩
        have hB7 := hB6.grown hg (some_ne (hB6.ne hs6.map.row (by decide)))
        have hw7 := own_fr2 hwas (fr2_gb hg (a := q)) hs6.head hs6.map.row (by decide) (by decide)
        have hb7 := bl_grown hb6 hg hcw
        clear hs6 hB6 hwas hb6 hg b0 b1 b2 b3
        obtain ⟨b0, b1, b2, b3⟩ := pcells_of hB7
        go_wp2_with fail
        refine (kRelease_put q g c v n b bits _ cur uq mq kq _ hs7 hmq).mono ?_
        rintro e w8 ⟨rfl, hs8, hg⟩
        have hB8 := hB7.grown hg (some_ne (hB7.ne hs7.map.row (by decide)))
        have hw8 := own_fr2 hw7 (fr2_gb hg (a := q)) hs7.head hs7.map.row (by decide) (by decide)
        have hb8 := bl_grown hb7 hg hcw
        clear hs7 hB7 hw7 hb7 hg b0 b1 b2 b3
        have HEQ := Lib.hid (used_both (ovF v n bits uq mq kq) f (nB b bits))
        have HOV := Lib.hid (fun (x : Nat) (hx : x < nB b bits) w => platbookref03_Overlap.calls 700 v (hi (n + x * 2 ^ fr v bits)) (lo (n + x * 2 ^ fr v bits)) bits uq (hi mq) (lo mq) kq (ovF v n bits uq mq kq x) w (roverlap_f 700 (Nat.le_refl _) v _ bits uq mq kq (kblock_lt hc hx) hmq))
        generalize setTo (ovF v n bits uq mq kq) false (setTo (ovF v n bits uq mq kq) true f (nB b bits)) (nB b bits) = f2 at *
        generalize ovF v n bits uq mq kq = ov at *
        have HJM : Hid (∀ x, x ∈ usedTo f (nB b bits) → x < nB b bits) := Lib.hid (fun x hx => usedTo_mem hx)
        generalize usedTo f (nB b bits) = J at *
        have HWR := Lib.hid (own_pfxRow hw8 (fun x hx => kblock_lt hc (HJM.out x hx)))
        clear hw8
        go_wp2_with fail
        have hOwn : (w8.alloc (.cells #[] 28)).ownsRow w8.heap.size 28 4 (.slice (some ⟨w8.heap.size, 0, none⟩) 0 0) 0 [] := World.ownsRow_made w8 #[] 0 (Nat.le_refl _) (by simp only [maxLen]; omega) rfl
        have hb9 : Below w8.heap.size w8 (w8.alloc (.cells #[] 28)) := bl_alloc (Below.refl _ _) _
        obtain ⟨gz, hgz⟩ : ∃ gz, gz = w8.heap.size := ⟨_, rfl⟩
        have HGZ := Lib.hid hgz
        rw [← hgz] at hOwn ⊢
        clear hgz
        generalize w8.alloc (.cells #[] 28) = w9 at *
        go_loopw [17, 18] (fun sw si wr => ∃ (t : Nat) (p' : Option Addr) (cap' : Nat), t ≤ J.length ∧ si = .int .i64 t ∧ sw = .slice p' (wantTo ov J t).length cap' ∧ wr.ownsRow gz 28 4 (.slice p' (wantTo ov J t).length cap') (wantTo ov J t).length (blkV v n bits (wantTo ov J t)) ∧ Below w8.heap.size w8 wr) (fun _ si _ => J.length - (intOf si).toNat)
        case atStart => exact ⟨0, _, 0, Nat.zero_le _, rfl, rfl, hOwn, hb9⟩
        case round =>
          clear hOwn hb9
          obtain ⟨t, p', cap', ht, rfl, rfl, hown, hbt⟩ := hrel
          have hwl := wantTo_len ov J t
          by_cases hlt : t < J.length
          · have e1 : decide (t < J.length) = true := decide_eq_true hlt
            have e2 : decide ((t : Int) < (J.length : Int)) = true := decide_eq_true (by omega)
            have hz0 : (0 : Int) ≤ (t : Int) := by omega
            have hz1 : (t : Int) < (J.length : Int) := by omega
            have hxN := HJM.out (J.getD t 0) (by simp [List.getD, hlt])
            have HOt := Lib.hid (HOV.out (J.getD t 0) hxN)
            have HWY := Lib.hid (fun h => wantTo_yes (ov := ov) hlt h)
            have HWN := Lib.hid (fun h => wantTo_no (ov := ov) hlt h)
            obtain ⟨a, rfl, hal, hcl⟩ := (HWR.out.after hbt).at_ hlt
            have HCL : Hid (∀ w' : World, Below wr.heap.size wr w' → w'.cell? (a.add (t * 4)) = some (.bool v) ∧ w'.cell? ⟨(a.add (t * 4)).block, (a.add (t * 4)).off + 1, none⟩ = some (.int .u64 (hi (n + J.getD t 0 * 2 ^ fr v bits))) ∧ w'.cell? ⟨(a.add (t * 4)).block, (a.add (t * 4)).off + 2, none⟩ = some (.int .u64 (lo (n + J.getD t 0 * 2 ^ fr v bits))) ∧ w'.cell? ⟨(a.add (t * 4)).block, (a.add (t * 4)).off + 3, none⟩ = some (.int .i64 bits)) := Lib.hid hcl
            have HBV := Lib.hid (blkV_snoc v n bits (wantTo ov J t) (J.getD t 0))
            clear hcl
            generalize hi (n + J.getD t 0 * 2 ^ fr v bits) = Y1 at HCL HOt HBV
            generalize lo (n + J.getD t 0 * 2 ^ fr v bits) = Y2 at HCL HOt HBV
            have HBq := Lib.hid (hB8.after hbt)
            generalize J.getD t 0 = x at *
            go_wp2_with fail
            go_region_held3 (fun w' => (w'.cell? (a.add (t * 4)) = some (.bool v) ∧ w'.cell? ⟨(a.add (t * 4)).block, (a.add (t * 4)).off + 1, none⟩ = some (.int .u64 Y1) ∧ w'.cell? ⟨(a.add (t * 4)).block, (a.add (t * 4)).off + 2, none⟩ = some (.int .u64 Y2) ∧ w'.cell? ⟨(a.add (t * 4)).block, (a.add (t * 4)).off + 3, none⟩ = some (.int .i64 bits)) ∧ (w'.cell? ⟨w.heap.size + 1, 0, none⟩ = some (.bool uq) ∧ w'.cell? ⟨w.heap.size + 1, 1, none⟩ = some (.int .u64 (hi mq)) ∧ w'.cell? ⟨w.heap.size + 1, 2, none⟩ = some (.int .u64 (lo mq)) ∧ w'.cell? ⟨w.heap.size + 1, 3, none⟩ = some (.int .i64 kq)) ∧ Below wr.heap.size wr w')
              (exact ⟨HCL.out _ bl_, pcells_of (HBq.out.after (show Below wr.heap.size wr _ from bl_)), bl_⟩)
              (first
              | (go_at_call 48; with_reducible refine (HOt.out _).mono ?_; rintro e w10 ⟨rfl, hb10⟩))
            all_goals
              have hb10' : Below wr.heap.size wr w10 := bl_
              have hown10 := own_afterS hown hb10'
              have hbt10 := bl_trans hbt hb10'
              clear hown hbt hb10
              cases ho : ov x
              · have HU := Lib.hid (HWY.out ho)
                obtain ⟨k0, k1, k2, k3⟩ := HCL.out _ hb10'
                obtain ⟨i0, hi0, hz0', hz1', hz2'⟩ := info_parts pfx_info
                have hsz := hbt10.size
                clear ho
                go_wp2_with (at_builtin; refine wpList_append_own _ rfl _ _ 63 rfl gz 28 i0 (.agg #[.bool false, .int .u64 0, .int .u64 0, .int .i64 0]) 4 32 Tryz.underlying63 hi0 hz0' hz1' hz2' rfl (by decide) _ _ _ rfl (hown10.alloc _) ⟨w10.heap.size, 0, none⟩ 1 1 [.bool v, .int .u64 Y1, .int .u64 Y2, .int .i64 bits] rfl rfl (cell_listS _ _ _) (one4 _ _ _ _) (by simp only [maxLen]; omega) (by omega) (by have := HGZ.out; simp; omega) ?_)
                intro v' w11 hown' hgrow _
                have hb11 : Below w8.heap.size w8 w11 := below_ownS hbt10 hown10 (by rw [HGZ.out]; exact Nat.le_refl _) hgrow
                obtain ⟨ga, gc, rfl⟩ := own_sliceS hown'
                clear hgrow hown10 hbt10 k0 k1 k2 k3 hi0 hz0' hz1' hz2' hb10'
                go_wp2_with fail
                go_roundw
                case rel => exact ⟨t + 1, ga, gc, by omega, by go_num, by rw [HU.out]; simp, by rw [HU.out, HBV.out, List.length_append]; exact hown', hb11⟩
                case measure => simp [intOf]; omega
              · have HU := Lib.hid (HWN.out ho)
                clear ho
                go_wp2_with fail
                go_roundw
                case rel => exact ⟨t + 1, p', cap', by omega, by go_num, by rw [HU.out], by rw [HU.out]; exact own_afterS hown10 bl_, bl_trans hbt10 bl_⟩
                case measure => simp [intOf]; omega
          · have e1 : decide (t < J.length) = false := decide_eq_false hlt
            have e2 : decide ((t : Int) < (J.length : Int)) = false := decide_eq_false (by omega)
            obtain rfl : t = J.length := by omega
            have HAL := Lib.hid (wantTo_all ov J)
            have hs9 := hs8.after hbt
            have hb9 := bl_trans hb8 hbt
            clear hs8 hB8 hb8
            go_wp2_with fail
            refine (kused_c q g c v n b bits f2 cur _ (hs9.after bl_)).mono ?_
            rintro e w12 ⟨pu2, cu2, rfl, hu2, hb⟩
            have hbx : Below wr.heap.size wr w12 := bl_
            have hown12 := own_afterS hown hbx
            have hb12 := bl_trans hb9 hbx
            clear hown hb9 hb hbx hs9
            rw [HEQ.out, ← HAL.out] at hu2
            rw [HEQ.out, ← HAL.out]
            have HM : Hid (∀ x, x ∈ wantTo ov J J.length → n + x * 2 ^ fr v bits < 340282366920938463463374607431768211456) := Lib.hid (fun x hx => kblock_lt hc (HJM.out x (wantTo_mem hx)))
            have HR1 := Lib.hid (own_pfxRow hu2 HM.out)
            have HR2 := Lib.hid (own_pfxRow hown12 HM.out)
            generalize wantTo ov J J.length = W at *
            clear hu2 hown12
            go_wp2_with fail
            refine (ksame_c pu2 p' W.length cu2 cap' _ _ _ _ (HR1.out.after bl_) (HR2.out.after bl_) (by omega)).mono ?_
            rintro e w13 ⟨rfl, hb13⟩
            have hbf : Below w.heap.size w w13 := bl_trans bl_ hb13
            go_wp2_with fail
            go_ret
            exact ⟨rfl, hbf⟩
end Go.Proofs.YtpfilldnfpcpkaaGreatDoor

namespace Go.Proofs.YtpfilldnfpcpkaaGreatDoor
open Go.ChangeShapes Go.WideShapes Go.ChangeAt Go.RowKit

section
variable {H : Type} {enc : TypeId × Value → H} {P : Program}
theorem post_below {f : Func} {s : ChangeSpec} {apart fresh handsOn again : Bool} {W W' : World} {args : Array Value} {v : Value} {ds gs : List (DataW H)} {before pa pv : List MemPlace}
    (hW : DataW.Whole enc P f.params.toList s.vars apart W args.toList ds gs before)
    (hres : ∀ (b : Nat) (sp : Nat → Bool) (hd : Bool), DataW.TrodAll enc P W' b sp hd f.resultTypes.toList (v.resultList f.resultTypes.size) (s.fn H (ds ++ gs)).results [])
    (hargs : ∀ sp : Nat → Bool, (∀ p ∈ before, sp p.block = true) → DataW.TrodAll enc P W' 0 sp true f.params.toList args.toList (s.fn H (ds ++ gs)).args pa)
    (hvars : ∀ sp : Nat → Bool, (∀ p ∈ before, sp p.block = true) → DataW.TrodVars enc P W' sp s.vars (s.fn H (ds ++ gs)).vars pv)
    (hps : before = pa ++ pv) (hb : Below W.heap.size W W')
    (hok : ∀ (j : Nat) (t : TypeId) (r : Value), f.resultTypes[j]? = some t → (v.resultList f.resultTypes.size)[j]? = some r → Value.okWide P W' .any 0 t r) :
    s.post enc P f apart fresh handsOn again W args v W' := by
  have hlt : ∀ p ∈ before, p.block < W.heap.size := fun p hp => hW.lt p hp
  have hold : ∀ p ∈ before, (fun b => decide (b < W.heap.size)) p.block = true := fun p hp => by simpa using hlt p hp
  refine ⟨ds, gs, before, [], pa, pv, hW, hres _ _ _, hargs _ hold, hvars _ hold, World.keptBut_mono (fun p hp => ⟨hp, ?_⟩) (hb.frame (· ∈ before)), fun _ => ?_⟩
  · rw [hps, List.mem_append] at hp
    exact Or.inr hp
  · obtain ⟨_, _, _, _, _, hz, hn⟩ := hW
    refine ⟨hok, _, _, ([] ++ pa) ++ pv, ⟨[] ++ pa, pv, trodAll_append (hargs _ (fun _ _ => rfl)) (hres _ _ _), hvars _ (fun _ _ => rfl), rfl, ?_, ?_⟩, ?_⟩
    · intro b off hp
      have hin : MemPlace.cell b off ∈ before := by rw [hps]; simpa using hp
      rw [hb.frozen (hlt _ hin)]
      exact hz b off hin
    · intro ha
      have := hn ha
      rw [hps] at this
      simpa using this
    · intro p hp _
      rw [hps]
      simpa using hp
end

theorem Tryz.own : ownKnob Tryz.prog.godebug = none := by kernel_rfl
theorem u64_bd {n : Int} (h : (Lit.int .u64 n).wf = true) : 0 ≤ n ∧ n < 18446744073709551616 := by
  simp [Lit.wf, IntKind.min, IntKind.max, IntKind.bits, IntKind.signed] at h
  omega
end Go.Proofs.YtpfilldnfpcpkaaGreatDoor

namespace Go.Proofs.YtpfilldnfpcpkaaGreatDoor
open Go.ChangeShapes Go.WideShapes Go.ChangeAt Go.RowKit Go.Joins

def numD {H : Type} (n : Nat) : DataW H := .agg [.lit (.int .u64 (hi n)), .lit (.int .u64 (lo n))]
def addrD {H : Type} (v : Bool) (n : Nat) : DataW H := .agg [.lit (.bool v), numD n]
/-- the number's words are in their bounds -/
def numOk (n : Nat) : Prop := (Lit.int .u64 (hi n)).wf = true ∧ (Lit.int .u64 (lo n)).wf = true

set_option maxRecDepth 100000 in
theorem trod_bool_form {H : Type} {enc : TypeId × Value → H} {P : Program} {w : World} {base : Nat} {sp : Nat → Bool} {held : Bool} {fuel : Nat} {t : TypeId} {c : Value} {x : DataW H × List MemPlace} (ht : P.underlying t = some .bool)
    (h : DataW.trod enc P w base sp held fuel t [c] = some x) : ∃ b, c = .bool b ∧ x = (.lit (.bool b), []) := by
  cases fuel with
  | zero => simp [DataW.trod] at h
  | succ fuel =>
    simp only [DataW.trod, ht] at h
    split at h
    · rename_i e1 e2
      simp at e2
      subst e2
      exact ⟨_, rfl, (Option.some.inj h).symm⟩
    all_goals first | (rename_i e1 _; cases e1; done) | (cases h; done) | skip
    all_goals simp_all
set_option maxRecDepth 100000 in
theorem trod_num_form {H : Type} {enc : TypeId × Value → H} {W : World} {base : Nat} {sp : Nat → Bool} {held : Bool} {fuel : Nat} {c0 c1 : Value} {x : DataW H × List MemPlace}
    (h : DataW.trod enc Tryz.prog W base sp held fuel 24 [c0, c1] = some x) : ∃ n : Nat, n < 340282366920938463463374607431768211456 ∧ c0 = .int .u64 (hi n) ∧ c1 = .int .u64 (lo n) ∧ x = (numD n, []) ∧ numOk n := by
  obtain ⟨y0, y1, m, rfl, _, h0, h1⟩ := trod_struct2 Tryz.underlying24 h
  have h0' : DataW.trod enc Tryz.prog W base sp held m 22 [c0] = some y0 := h0
  have h1' : DataW.trod enc Tryz.prog W base sp held m 22 [c1] = some y1 := h1
  obtain ⟨a, e0, rfl, wa⟩ := DataW.trod_int Tryz.underlying22 h0'
  obtain ⟨b, e1, rfl, wb⟩ := DataW.trod_int Tryz.underlying22 h1'
  simp at e0 e1
  subst e0 e1
  obtain ⟨a0, a1⟩ := u64_bd wa
  obtain ⟨b0', b1⟩ := u64_bd wb
  refine ⟨num a b, num_lt a1 b1, ?_, ?_, ?_, ?_, ?_⟩
  · rw [hi_num a0 a1 b0' b1]
  · rw [lo_num b0' b1]
  · unfold numD; rw [hi_num a0 a1 b0' b1, lo_num b0' b1]; rfl
  · rw [hi_num a0 a1 b0' b1]; exact wa
  · rw [lo_num b0' b1]; exact wb
set_option maxRecDepth 100000 in
theorem trod_addr_form {H : Type} {enc : TypeId × Value → H} {W : World} {base : Nat} {sp : Nat → Bool} {held : Bool} {fuel : Nat} {c0 c1 c2 : Value} {x : DataW H × List MemPlace}
    (h : DataW.trod enc Tryz.prog W base sp held fuel 26 [c0, c1, c2] = some x) : ∃ (v : Bool) (n : Nat), n < 340282366920938463463374607431768211456 ∧ c0 = .bool v ∧ c1 = .int .u64 (hi n) ∧ c2 = .int .u64 (lo n) ∧ x = (addrD v n, []) ∧ numOk n := by
  obtain ⟨y0, y1, m, rfl, _, h0, h1⟩ := trod_struct2 Tryz.underlying26 h
  have h0' : DataW.trod enc Tryz.prog W base sp held m 4 [c0] = some y0 := h0
  have h1' : DataW.trod enc Tryz.prog W base sp held m 24 [c1, c2] = some y1 := h1
  obtain ⟨v, rfl, rfl⟩ := trod_bool_form Tryz.underlying4 h0'
  obtain ⟨n, hn, rfl, rfl, rfl, ho⟩ := trod_num_form h1'
  exact ⟨v, n, hn, rfl, rfl, rfl, rfl, ho⟩
end Go.Proofs.YtpfilldnfpcpkaaGreatDoor

namespace Go.Proofs.YtpfilldnfpcpkaaGreatDoor
open Go.ChangeShapes Go.WideShapes Go.ChangeAt Go.RowKit Go.Joins

set_option maxRecDepth 100000 in
theorem Tryz.cellsPfx : Tryz.prog.cellsOf 28 = 4 := by kernel_rfl
def pfxD {H : Type} (v : Bool) (n : Nat) (b : Int) : DataW H := .agg [addrD v n, .lit (.int .i64 b)]
def pfxOk (n : Nat) (b : Int) : Prop := numOk n ∧ (Lit.int .i64 b).wf = true
set_option maxRecDepth 100000 in
theorem trod_pfx_form {H : Type} {enc : TypeId × Value → H} {W : World} {base : Nat} {sp : Nat → Bool} {held : Bool} {fuel : Nat} {c0 c1 c2 c3 : Value} {x : DataW H × List MemPlace}
    (h : DataW.trod enc Tryz.prog W base sp held fuel 28 [c0, c1, c2, c3] = some x) : ∃ (v : Bool) (n : Nat) (b : Int), n < 340282366920938463463374607431768211456 ∧ c0 = .bool v ∧ c1 = .int .u64 (hi n) ∧ c2 = .int .u64 (lo n) ∧ c3 = .int .i64 b ∧ x = (pfxD v n b, []) ∧ pfxOk n b := by
  obtain ⟨y0, y1, m, rfl, _, h0, h1⟩ := trod_struct2 Tryz.underlying28 h
  have h0' : DataW.trod enc Tryz.prog W base sp held m 26 [c0, c1, c2] = some y0 := h0
  have h1' : DataW.trod enc Tryz.prog W base sp held m 3 [c3] = some y1 := h1
  obtain ⟨v, n, hn, rfl, rfl, rfl, rfl, ho⟩ := trod_addr_form h0'
  obtain ⟨b, e1, rfl, wb⟩ := DataW.trod_int Tryz.underlying3 h1'
  simp at e1
  subst e1
  exact ⟨v, n, b, hn, rfl, rfl, rfl, rfl, rfl, ho, wb⟩
theorem arr4 {α : Type} {cs : Array α} (h : cs.size = 4) : ∃ c0 c1 c2 c3, cs = #[c0, c1, c2, c3] := by
  rcases cs with ⟨l⟩
  match l, h with
  | [a, b, c, d], _ => exact ⟨a, b, c, d, rfl⟩
set_option maxRecDepth 100000 in
/-- a prefix as an argument -/
theorem open_pfx {H : Type} {enc : TypeId × Value → H} {W : World} {base b0 : Nat} {sp : Nat → Bool} {v : Value} {d : DataW H} {p : List MemPlace} {r : Reach}
    (hv : Value.okWide Tryz.prog W r b0 28 v) (h : DataW.Trod enc Tryz.prog W base sp true 28 v d p) :
    ∃ (u : Bool) (n : Nat) (b : Int), n < 340282366920938463463374607431768211456 ∧ (Lit.int .i64 b).wf = true ∧ v = PfxV u n b ∧ d = pfxD u n b ∧ p = [] ∧ pfxOk n b := by
  obtain ⟨cs, rfl, hsz⟩ := okWide_struct Tryz.underlying28 hv
  obtain ⟨c0, c1, c2, c3, rfl⟩ := arr4 (hsz.trans Tryz.cellsPfx)
  obtain ⟨fuel, hf⟩ := h
  obtain ⟨u, n, b, hn, rfl, rfl, rfl, rfl, e, ho⟩ := trod_pfx_form hf
  simp only [Prod.mk.injEq] at e
  exact ⟨u, n, b, hn, ho.2, rfl, e.1, e.2, ho⟩
end Go.Proofs.YtpfilldnfpcpkaaGreatDoor

namespace Go.Proofs.YtpfilldnfpcpkaaGreatDoor
open Go.ChangeShapes Go.WideShapes Go.RowKit Go.Deep

section
variable {H : Type} {enc : TypeId × Value → H} {P : Program} {w : World} {base : Nat} {spare : Nat → Bool} {held : Bool}
theorem trodAll_carry {w' : World} : ∀ {ts : List TypeId} {vs : List Value} {ds : List (DataW H)} {ps : List MemPlace}, DataW.TrodAll enc P w base spare held ts vs ds ps → (∀ p ∈ ps, w.sameAt w' p) → DataW.TrodAll enc P w' base spare held ts vs ds ps
  | [], [], [], _, h, _ => h
  | _ :: _, _ :: _, _ :: _, _, ⟨p, q, ⟨n, h1⟩, h2, e⟩, hs => ⟨p, q, ⟨n, DataW.trod_carry n _ _ _ h1 (fun x hx => hs x (by rw [e]; exact List.mem_append_left _ hx))⟩, trodAll_carry h2 (fun x hx => hs x (by rw [e]; exact List.mem_append_right _ hx)), e⟩
/-- what came in reads behind the call as before -/
theorem args_below {T : TypeId → Prop} (K : Kids P T) (hz : ∀ t e, T t → P.underlying t = some (.slice e) → 0 < P.cellsOf e) {W W' : World} {ts : List TypeId} {vs : List Value} {ds : List (DataW H)} {ps : List MemPlace} (hT : ∀ t ∈ ts, T t)
    (h : DataW.TrodAll enc P W 0 (fun _ => true) true ts vs ds ps) (hb : Below W.heap.size W W') (hlt : ∀ x ∈ ps, x.block < W.heap.size) (sp : Nat → Bool) (hs : ∀ p ∈ ps, sp p.block = true) : DataW.TrodAll enc P W' 0 sp true ts vs ds ps :=
  DataW.TrodAll.respare K hz hT (trodAll_carry h fun x hx => hb.same (hlt x hx)) hs
end
theorem Tryz.kids : Kids Tryz.prog (· < Tryz.prog.types.size) := kids_rows (by kernel_rfl) (by kernel_rfl)
theorem Tryz.full : ∀ t e, t < Tryz.prog.types.size → Tryz.prog.underlying t = some (.slice e) → 0 < Tryz.prog.cellsOf e := slices_full_of Tryz.prog (by kernel_rfl)
theorem cell_lt {W : World} {a : Addr} {v : Value} (h : W.cell? a = some v) : a.block < W.heap.size := by
  rcases Nat.lt_or_ge a.block W.heap.size with k | k
  · exact k
  · unfold World.cell? at h
    rw [Array.getElem?_eq_none k] at h
    cases h
theorem add_off (a : Addr) (j : Nat) (hj : j ≠ 0) : a.add j = ⟨a.block, a.off + j, none⟩ := by
  unfold Addr.add
  rw [if_neg hj]
end Go.Proofs.YtpfilldnfpcpkaaGreatDoor

namespace Go.Proofs.YtpfilldnfpcpkaaGreatDoor
open Go.ChangeShapes Go.WideShapes Go.RowKit Go.Deep

theorem list6 {α : Type} {l : List α} (h : l.length = 6) : ∃ a b c d e f, l = [a, b, c, d, e, f] := by
  match l, h with
  | [a, b, c, d, e, f], _ => exact ⟨a, b, c, d, e, f, rfl⟩
set_option maxRecDepth 100000 in
theorem Tryz.cellsAct : Tryz.prog.cellsOf 82 = 6 := by kernel_rfl
set_option maxRecDepth 100000 in
theorem Tryz.cellsInt : Tryz.prog.cellsOf 3 = 1 := by kernel_rfl
set_option maxRecDepth 100000 in
theorem trod_act_form {H : Type} {enc : TypeId × Value → H} {W : World} {base : Nat} {sp : Nat → Bool} {held : Bool} {fuel : Nat} {c0 c1 c2 c3 c4 c5 : Value} {x : DataW H × List MemPlace}
    (h : DataW.trod enc Tryz.prog W base sp held fuel 82 [c0, c1, c2, c3, c4, c5] = some x) : ∃ (K t : Int) (u : Bool) (m : Nat) (k : Int), m < 340282366920938463463374607431768211456 ∧ c0 = .int .i64 K ∧ c1 = .bool u ∧ c2 = .int .u64 (hi m) ∧ c3 = .int .u64 (lo m) ∧ c4 = .int .i64 k ∧ c5 = .int .i64 t := by
  obtain ⟨ys, n', hn', hy, hlen, hyl, hf⟩ := DataW.trod_struct Tryz.underlying82 h
  have h0 : DataW.trod enc Tryz.prog W base sp held n' 3 (List.take (Tryz.prog.cellsOf 3) (List.drop 0 [c0, c1, c2, c3, c4, c5])) = ys[0]? := hf 0 _ rfl
  have h1 : DataW.trod enc Tryz.prog W base sp held n' 28 (List.take (Tryz.prog.cellsOf 28) (List.drop 1 [c0, c1, c2, c3, c4, c5])) = ys[1]? := hf 1 _ rfl
  have h2 : DataW.trod enc Tryz.prog W base sp held n' 3 (List.take (Tryz.prog.cellsOf 3) (List.drop 5 [c0, c1, c2, c3, c4, c5])) = ys[2]? := hf 2 _ rfl
  rw [Tryz.cellsInt] at h0 h2
  rw [Tryz.cellsPfx] at h1
  have hl : ys.length = 3 := hyl
  have e0 : ys[0]? = some (ys[0]'(by omega)) := List.getElem?_eq_getElem (by omega)
  have e1 : ys[1]? = some (ys[1]'(by omega)) := List.getElem?_eq_getElem (by omega)
  have e2 : ys[2]? = some (ys[2]'(by omega)) := List.getElem?_eq_getElem (by omega)
  have h0' : DataW.trod enc Tryz.prog W base sp held n' 3 [c0] = some (ys[0]'(by omega)) := h0.trans e0
  have h1' : DataW.trod enc Tryz.prog W base sp held n' 28 [c1, c2, c3, c4] = some (ys[1]'(by omega)) := h1.trans e1
  have h2' : DataW.trod enc Tryz.prog W base sp held n' 3 [c5] = some (ys[2]'(by omega)) := h2.trans e2
  obtain ⟨K, q0, _, _⟩ := DataW.trod_int Tryz.underlying3 h0'
  obtain ⟨t, q2, _, _⟩ := DataW.trod_int Tryz.underlying3 h2'
  obtain ⟨u, m, k, hm, rfl, rfl, rfl, rfl, _, _⟩ := trod_pfx_form h1'
  simp only [List.cons.injEq, and_true] at q0 q2
  exact ⟨K, t, u, m, k, hm, q0, rfl, rfl, rfl, rfl, q2⟩
set_option maxRecDepth 100000 in
/-- the acts of a slice that is read -/
theorem acts7_open {H : Type} {enc : TypeId × Value → H} {W : World} {v : Value} {d : DataW H} {ps : List MemPlace} {base : Nat} {r : Reach}
    (hv : Value.okWide Tryz.prog W r base 75 v) (h : DataW.Trod enc Tryz.prog W 0 (fun _ => true) true 75 v d ps) :
    ∃ (p : Option Addr) (len cap : Nat), v = .slice p len cap ∧ len ≤ 9223372036854775807 ∧ KActs W p len := by
  obtain ⟨p, len, cap, rfl⟩ := okWide_slice Tryz.underlying75 hv
  obtain ⟨fuel, hf⟩ := h
  rcases open_slice Tryz.underlying75 hf with ⟨hcs, _⟩ | ⟨a, len', cap', m, n, D, Pl, hcs, _, hl, hm, hmm, _, hii⟩
  · simp [Value.cells] at hcs
    obtain ⟨rfl, rfl, rfl⟩ := hcs
    exact ⟨_, _, _, rfl, by omega, fun i h => absurd h (by omega)⟩
  · simp [Value.cells] at hcs
    obtain ⟨rfl, rfl, rfl⟩ := hcs
    refine ⟨_, _, _, rfl, by unfold maxLen at hm; omega, fun i hil => ?_⟩
    obtain ⟨cs', hc, ht⟩ := hii i (by rw [hmm, if_pos rfl]; omega)
    rw [Tryz.cellsAct] at hc
    obtain ⟨_, hcl, hat⟩ := World.cells?_some hc
    obtain ⟨c0, c1, c2, c3, c4, c5, rfl⟩ := list6 hcl
    obtain ⟨K, t, u, m', k, hx, rfl, rfl, rfl, rfl, rfl, rfl⟩ := trod_act_form ht
    have h0 := hat 0 (by decide)
    have h1 := hat 1 (by decide)
    have h2 := hat 2 (by decide)
    have h3 := hat 3 (by decide)
    have h4 := hat 4 (by decide)
    have h5 := hat 5 (by decide)
    rw [add_off _ _ (by decide)] at h1 h2 h3 h4 h5
    rw [show (a.add (i * 6)).add 0 = a.add (i * 6) from by generalize a.add (i * 6) = z; unfold Addr.add; rw [if_pos rfl]] at h0
    have h0' : W.cell? (a.add (i * 6)) = some (.int .i64 K) := h0.trans rfl
    have hb := cell_lt h0'
    rw [add_block] at hb
    exact ⟨a, K, t, u, m', k, rfl, hb, hx, h0', h1.trans rfl, h2.trans rfl, h3.trans rfl, h4.trans rfl, h5.trans rfl⟩
end Go.Proofs.YtpfilldnfpcpkaaGreatDoor

namespace Go.Proofs.YtpfilldnfpcpkaaGreatDoor
open Go.RowKit

def listA : List (String × DataW Unit) := [("math/bits.deBruijn32tab", Rows.laid_math_bits_deBruijn32tab), ("math/bits.deBruijn64tab", Rows.laid_math_bits_deBruijn64tab), ("internal/strconv.uint64pow10", Rows.laid_internal_strconv_uint64pow10), ("unicode/utf8.acceptRanges", Rows.laid_unicode_utf8_acceptRanges), ("strconv.ErrRange", Rows.laid_strconv_ErrRange), ("strconv.ErrSyntax", Rows.laid_strconv_ErrSyntax), ("unicode/utf8.first", Rows.laid_unicode_utf8_first)]
theorem doorA_met (os : Os) (args : Array Value) : laidMetH Tryz.prog listA ((World.laidAll Tryz.prog os listA).forCall (fun _ _ => 0) ⟨#[], args, []⟩).memory := by
  rw [MakeChecks.laidMetH_plain _ _ _ (by kernel_rfl)]; exact laidMet_laidAll _ (by kernel_rfl) (by kernel_rfl)
def tabZ : List Int := Lib.deBruijn64tab.map Int.ofNat
theorem listA_tab : (Rows.laid_math_bits_deBruijn64tab : DataW Unit) = Lib.tabData .u8 tabZ := by kernel_rfl
theorem listA_pow : (Rows.laid_internal_strconv_uint64pow10 : DataW Unit) = Lib.tabData .u64 Lib.pow10Tab := by kernel_rfl
theorem err_star : "*" ++ "errors.errorString" = "*errors.errorString" := by decide
theorem err_name (u : TypeId) (h : Tryz.prog.typeName? 3 u = some "*errors.errorString") : u = 233 :=
  typeName_ptr_named (nm := "errors.errorString") (by rw [err_star]; kernel_rfl) (by kernel_rfl) (by decide) u (by rw [err_star]; exact h)
theorem glob_of {W : World} (h : laidMetH Tryz.prog listA W) (hs : W.ShapedOpen Tryz.prog) : Glob W := by
  rw [MakeChecks.laidMetH_plain _ _ _ (by kernel_rfl)] at h
  unfold listA at h
  have h2 := h.tail
  have h3 := h2.tail
  have h5 := h3.tail.tail
  have h6 := h5.tail
  rw [listA_tab] at h2
  rw [listA_pow] at h3
  refine ⟨?_, ?_, ?_, ?_, ?_⟩
  · exact cell_of_shapedOpen_int (g := 1) (t := 3) (zero := #[.int .i64 0]) hs (of_decide_eq_true (by kernel_rfl)) (by kernel_rfl) rfl (by kernel_rfl) (by kernel_rfl) Tryz.underlying3
  · obtain ⟨a, s, hv, _⟩ := laid_sentinel h6 (g := 2) (by kernel_rfl) (by kernel_rfl) Tryz.underlying144 err_name Tryz.underlying233 Tryz.underlying235 rfl rfl Tryz.underlying9 (by kernel_rfl) (by kernel_rfl)
    exact ⟨_, _, hv⟩
  · obtain ⟨a, s, hv, _⟩ := laid_sentinel h5 (g := 3) (by kernel_rfl) (by kernel_rfl) Tryz.underlying144 err_name Tryz.underlying233 Tryz.underlying235 rfl rfl Tryz.underlying9 (by kernel_rfl) (by kernel_rfl)
    exact ⟨_, _, hv⟩
  · exact Lib.tabIs_of_head (P := Tryz.prog) (g := 4) (t := 237) (e := 22) (n := 20) (by kernel_rfl) (by kernel_rfl) Tryz.underlying237 Tryz.underlying22 (by kernel_rfl) (by kernel_rfl) h3
  · have hT := Lib.tabIs_of_head (P := Tryz.prog) (g := 0) (t := 216) (e := 5) (n := 64) (by kernel_rfl) (by kernel_rfl) Tryz.underlying216 Tryz.underlying5 (by kernel_rfl) (by kernel_rfl) h2
    intro j hj
    have hc := hT.cell (g := 0) (by kernel_rfl) j (by unfold tabZ; rw [List.length_map, show Lib.deBruijn64tab.length = 64 by decide]; exact hj)
    rw [hc]
    have e : tabZ.getD j 0 = ((Lib.deBruijn64tab.getD j 0 : Nat) : Int) := by
      unfold tabZ
      simp only [List.getD_eq_getElem?_getD, List.getElem?_map]
      cases Lib.deBruijn64tab[j]? <;> rfl
    rw [e]
/-- the plain wrap with the row's condition and the start's shape -/
theorem lift_shaped {H : Type} {enc : TypeId × Value → H} {C : Checked} {os : Os} {f : FuncId} {fn : Func} {s : ChangeSpec} {X : World → Array Value → Prop}
    (hX : ∀ (w w' : World) (args : Array Value), w.heap = w'.heap → X w args → X w' args)
    (own : ownKnob C.prog.godebug = none) (started : os.Started) (noInit : C.prog.inits.idxOf? f = none) (hfn : C.prog.funcs[f]? = some fn)
    (witness : ∃ (w : World) (tape : Tape) (i : Input), w.os = os ∧ (w.forCall tape i).Shaped C.prog ∧ i.vars = [] ∧ Input.okWide C.prog (w.forCall tape i) .any w.heap.size f i ∧
      ((s.pre enc C.prog fn [] false (w.forCall tape i).memory i.args ∧ X (w.forCall tape i).memory i.args) ∧ sizedMet enc C.prog fn (OpenSpec.ofChange s) false (w.forCall tape i).memory i.args) ∧ ({} : Assume).holds C.prog (lone (Frame.enter C.prog f i.args .normal) [] (w.forCall tape i)))
    (contract : ∀ (W : World) (base : Nat) (args : Array Value) (ds gs : List (DataW H)) (before : List MemPlace),
      (∀ (j : Nat) t v, fn.params[j]? = some t → args[j]? = some v → Value.okWide C.prog W .any base t v) →
      DataW.Whole enc C.prog fn.params.toList s.vars false W args.toList ds gs before → X W args → W.ShapedOpen C.prog →
      Calls C.prog f args W fun e W' => ∃ v, e = .returned v ∧ s.post enc C.prog fn false true false false W args v W') :
    ReturnsInHanded {} C os f .any (fun w args => (s.pre enc C.prog fn [] false w args ∧ X w args) ∧ sizedMet enc C.prog fn (OpenSpec.ofChange s) false w args) (s.post enc C.prog fn false true false false) := by
  refine returnsInHanded_of_calls own started noInit witness ?_
  intro w tape i _ hshape _ hok hpre _
  obtain ⟨_, _, _, fn2, hfn2, _, _, _, _, hval⟩ := hok
  obtain rfl : fn2 = fn := Option.some.inj (hfn2.symm.trans hfn)
  obtain ⟨⟨⟨ds, gs, before, hw, _⟩, hx⟩, _⟩ := hpre
  refine (contract (w.forCall tape i) w.heap.size i.args ds gs before hval (DataW.Whole.of_heap (w' := w.forCall tape i) (by rfl) hw) (hX _ _ _ (by rfl) hx) hshape).mono fun e W' ⟨v, he, hp⟩ => ?_
  subst he
  exact ChangeSpec.post_blind hp
end Go.Proofs.YtpfilldnfpcpkaaGreatDoor

