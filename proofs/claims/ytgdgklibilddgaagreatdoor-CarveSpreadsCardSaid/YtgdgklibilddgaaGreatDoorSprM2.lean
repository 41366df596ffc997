/-
A part of the proof of carveSpreads_card: its lemmas and walks, part 2. No condition.
-/
import Derived.Test.YtgdgklibilddgaaGreatDoorSprM1
set_option linter.unusedVariables false
set_option linter.unusedSimpArgs false
namespace Go.Proofs.YtgdgklibilddgaaGreatDoor
open Go.RowKit

theorem AddrV_zero : AddrV false 0 = .agg #[.bool false, .int .u64 0, .int .u64 0] := rfl
set_option maxRecDepth 100000 in
set_option maxHeartbeats 3200000 in
theorem plus_c (v : Bool) (a n : Nat) (w : World) (ha : a < 340282366920938463463374607431768211456) (hn : n < 340282366920938463463374607431768211456) :
    Calls Tryz.prog 14 #[AddrV v a, numV n] w fun e w' => e = .returned (plusV v a n) ∧ Below w.heap.size w w' := by
  have HR := Lib.hid (fun w => right_c v a w ha)
  have HA := Lib.hid (fun w => add_k a n w ha hn)
  have HR2 := Lib.hid (fun w => right_c v (addN a n) w (addN_lt' a n))
  unfold plusV
  rw [AddrV_zero]
  cases h1 : rightB v a
  · rw [h1] at HR
    rw [if_neg (by simp)]
    rw [AddrV_eq] at *
    unfold AddrC numV at *
    go_enter Tryz.func14, Tryz.ntmps14
    go_wp2_with fail
    have hA : Blk (((w.alloc (Obj.cells #[.bool v, .int .u64 (hi a), .int .u64 (lo a)] 26)).alloc (Obj.cells #[.int .u64 (hi n), .int .u64 (lo n)] 24)).alloc (Obj.cells #[.bool false, .int .u64 0, .int .u64 0] 26)) (w.heap.size) 26 (AddrC v a) := (((Blk.new' _ _ _ _ (by simp) : Blk (w.alloc (Obj.cells #[.bool v, .int .u64 (hi a), .int .u64 (lo a)] 26)) (w.heap.size) 26 (AddrC v a))).alloc _).alloc _
    have hN : Blk (((w.alloc (Obj.cells #[.bool v, .int .u64 (hi a), .int .u64 (lo a)] 26)).alloc (Obj.cells #[.int .u64 (hi n), .int .u64 (lo n)] 24)).alloc (Obj.cells #[.bool false, .int .u64 0, .int .u64 0] 26)) (w.heap.size + 1) 24 #[.int .u64 (hi n), .int .u64 (lo n)] := ((Blk.new' _ _ _ _ (by simp) : Blk ((w.alloc (Obj.cells #[.bool v, .int .u64 (hi a), .int .u64 (lo a)] 26)).alloc (Obj.cells #[.int .u64 (hi n), .int .u64 (lo n)] 24)) (w.heap.size + 1) 24 #[.int .u64 (hi n), .int .u64 (lo n)])).alloc _
    have hR : Blk (((w.alloc (Obj.cells #[.bool v, .int .u64 (hi a), .int .u64 (lo a)] 26)).alloc (Obj.cells #[.int .u64 (hi n), .int .u64 (lo n)] 24)).alloc (Obj.cells #[.bool false, .int .u64 0, .int .u64 0] 26)) (w.heap.size + 1 + 1) 26 (AddrC false 0) := (Blk.new' _ _ _ _ (by simp) : Blk (((w.alloc (Obj.cells #[.bool v, .int .u64 (hi a), .int .u64 (lo a)] 26)).alloc (Obj.cells #[.int .u64 (hi n), .int .u64 (lo n)] 24)).alloc (Obj.cells #[.bool false, .int .u64 0, .int .u64 0] 26)) (w.heap.size + 1 + 1) 26 (AddrC false 0))
    have hbel : Below w.heap.size w (((w.alloc (Obj.cells #[.bool v, .int .u64 (hi a), .int .u64 (lo a)] 26)).alloc (Obj.cells #[.int .u64 (hi n), .int .u64 (lo n)] 24)).alloc (Obj.cells #[.bool false, .int .u64 0, .int .u64 0] 26)) := bl_
    have hsz : (((w.alloc (Obj.cells #[.bool v, .int .u64 (hi a), .int .u64 (lo a)] 26)).alloc (Obj.cells #[.int .u64 (hi n), .int .u64 (lo n)] 24)).alloc (Obj.cells #[.bool false, .int .u64 0, .int .u64 0] 26)).heap.size = w.heap.size + 1 + 1 + 1 := by simp
    generalize ((w.alloc (Obj.cells #[.bool v, .int .u64 (hi a), .int .u64 (lo a)] 26)).alloc (Obj.cells #[.int .u64 (hi n), .int .u64 (lo n)] 24)).alloc (Obj.cells #[.bool false, .int .u64 0, .int .u64 0] 26) = w0 at *
    obtain ⟨gr, grE⟩ : ∃ g, g = w.heap.size + 1 + 1 := ⟨_, rfl⟩
    rw [← grE] at hR ⊢
    obtain ⟨gn, gnE⟩ : ∃ g, g = w.heap.size + 1 := ⟨_, rfl⟩
    rw [← gnE] at hN ⊢
    have hd1 : w.heap.size < gn := by omega
    have hd2 : gn < gr := by omega
    have hd3 : w.heap.size < gr := by omega
    clear hsz grE gnE
    with_reducible refine (HR.out _).mono ?_
    rintro e w1 ⟨rfl, hb⟩
    (try clear r0 r1 r2 rz0 rz1 rz2 rz3)
    replace hR := hR.after hb
    obtain ⟨r0, r1, r2, _⟩ := blk_adr hR
    have rz0 := hR.frozen 0
    have rz1 := hR.frozen 1
    have rz2 := hR.frozen 2
    (try clear rl rl1 rl2)
    have rl := hR.lt
    have rl1 := Nat.lt_succ_of_lt rl
    have rl2 := Nat.lt_succ_of_lt rl1
    try simp only [Nat.succ_eq_add_one] at rl1 rl2
    replace hbel := bl_trans hbel hb
    clear hb
    go_wp2_with fail
    obtain ⟨q0, q1, q2, _⟩ := blk_adr (v := false) (n := 0) (((hR.put 0 (.bool false)).put 1 (.int .u64 0)).put 2 (.int .u64 0))
    refine bodyPost_ret (v := .tuple #[.agg #[.bool false, .int .u64 0, .int .u64 0], .int .i64 1]) (by simp [results, Tryz.results14, go_sem, q0, q1, q2, hi_zero, lo_zero]) rfl ⟨rfl, bl_⟩
  · rw [h1] at HR
    rw [if_pos rfl]
    rw [AddrV_eq] at *
    unfold AddrC numV at *
    have SV := AddrV_eq v (addN a n)
    unfold AddrC at SV
    rw [SV]
    generalize addN a n = sm at *
    cases h2 : addF a n
    · rw [h2] at HA
      rw [Bool.false_and, if_neg (by simp)]
      go_enter Tryz.func14, Tryz.ntmps14
      go_wp2_with fail
      have hA : Blk (((w.alloc (Obj.cells #[.bool v, .int .u64 (hi a), .int .u64 (lo a)] 26)).alloc (Obj.cells #[.int .u64 (hi n), .int .u64 (lo n)] 24)).alloc (Obj.cells #[.bool false, .int .u64 0, .int .u64 0] 26)) (w.heap.size) 26 (AddrC v a) := (((Blk.new' _ _ _ _ (by simp) : Blk (w.alloc (Obj.cells #[.bool v, .int .u64 (hi a), .int .u64 (lo a)] 26)) (w.heap.size) 26 (AddrC v a))).alloc _).alloc _
      have hN : Blk (((w.alloc (Obj.cells #[.bool v, .int .u64 (hi a), .int .u64 (lo a)] 26)).alloc (Obj.cells #[.int .u64 (hi n), .int .u64 (lo n)] 24)).alloc (Obj.cells #[.bool false, .int .u64 0, .int .u64 0] 26)) (w.heap.size + 1) 24 #[.int .u64 (hi n), .int .u64 (lo n)] := ((Blk.new' _ _ _ _ (by simp) : Blk ((w.alloc (Obj.cells #[.bool v, .int .u64 (hi a), .int .u64 (lo a)] 26)).alloc (Obj.cells #[.int .u64 (hi n), .int .u64 (lo n)] 24)) (w.heap.size + 1) 24 #[.int .u64 (hi n), .int .u64 (lo n)])).alloc _
      have hR : Blk (((w.alloc (Obj.cells #[.bool v, .int .u64 (hi a), .int .u64 (lo a)] 26)).alloc (Obj.cells #[.int .u64 (hi n), .int .u64 (lo n)] 24)).alloc (Obj.cells #[.bool false, .int .u64 0, .int .u64 0] 26)) (w.heap.size + 1 + 1) 26 (AddrC false 0) := (Blk.new' _ _ _ _ (by simp) : Blk (((w.alloc (Obj.cells #[.bool v, .int .u64 (hi a), .int .u64 (lo a)] 26)).alloc (Obj.cells #[.int .u64 (hi n), .int .u64 (lo n)] 24)).alloc (Obj.cells #[.bool false, .int .u64 0, .int .u64 0] 26)) (w.heap.size + 1 + 1) 26 (AddrC false 0))
      have hbel : Below w.heap.size w (((w.alloc (Obj.cells #[.bool v, .int .u64 (hi a), .int .u64 (lo a)] 26)).alloc (Obj.cells #[.int .u64 (hi n), .int .u64 (lo n)] 24)).alloc (Obj.cells #[.bool false, .int .u64 0, .int .u64 0] 26)) := bl_
      have hsz : (((w.alloc (Obj.cells #[.bool v, .int .u64 (hi a), .int .u64 (lo a)] 26)).alloc (Obj.cells #[.int .u64 (hi n), .int .u64 (lo n)] 24)).alloc (Obj.cells #[.bool false, .int .u64 0, .int .u64 0] 26)).heap.size = w.heap.size + 1 + 1 + 1 := by simp
      generalize ((w.alloc (Obj.cells #[.bool v, .int .u64 (hi a), .int .u64 (lo a)] 26)).alloc (Obj.cells #[.int .u64 (hi n), .int .u64 (lo n)] 24)).alloc (Obj.cells #[.bool false, .int .u64 0, .int .u64 0] 26) = w0 at *
      obtain ⟨gr, grE⟩ : ∃ g, g = w.heap.size + 1 + 1 := ⟨_, rfl⟩
      rw [← grE] at hR ⊢
      obtain ⟨gn, gnE⟩ : ∃ g, g = w.heap.size + 1 := ⟨_, rfl⟩
      rw [← gnE] at hN ⊢
      have hd1 : w.heap.size < gn := by omega
      have hd2 : gn < gr := by omega
      have hd3 : w.heap.size < gr := by omega
      clear hsz grE gnE
      with_reducible refine (HR.out _).mono ?_
      rintro e w1 ⟨rfl, hb⟩
      (try clear a0 a1 a2 az0 az1 az2 az3)
      replace hA := hA.after hb
      obtain ⟨a0, a1, a2, _⟩ := blk_adr hA
      have az0 := hA.frozen 0
      have az1 := hA.frozen 1
      have az2 := hA.frozen 2
      (try clear al al1 al2)
      have al := hA.lt
      have al1 := Nat.lt_succ_of_lt al
      have al2 := Nat.lt_succ_of_lt al1
      try simp only [Nat.succ_eq_add_one] at al1 al2
      (try clear n0 n1 nz0 nz1)
      replace hN := hN.after hb
      obtain ⟨n0, n1, _⟩ := blk_two hN
      have nz0 := hN.frozen 0
      have nz1 := hN.frozen 1
      (try clear nl nl1 nl2)
      have nl := hN.lt
      have nl1 := Nat.lt_succ_of_lt nl
      have nl2 := Nat.lt_succ_of_lt nl1
      try simp only [Nat.succ_eq_add_one] at nl1 nl2
      replace hR := hR.after hb
      replace hbel := bl_trans hbel hb
      clear hb
      go_wp2_with fail
      with_reducible refine (HA.out _).mono ?_
      rintro e w2 ⟨rfl, hb⟩
      (try clear a0 a1 a2 az0 az1 az2 az3)
      replace hA := hA.after hb
      obtain ⟨a0, a1, a2, _⟩ := blk_adr hA
      have az0 := hA.frozen 0
      have az1 := hA.frozen 1
      have az2 := hA.frozen 2
      (try clear al al1 al2)
      have al := hA.lt
      have al1 := Nat.lt_succ_of_lt al
      have al2 := Nat.lt_succ_of_lt al1
      try simp only [Nat.succ_eq_add_one] at al1 al2
      (try clear r0 r1 r2 rz0 rz1 rz2 rz3)
      replace hR := hR.after hb
      obtain ⟨r0, r1, r2, _⟩ := blk_adr hR
      have rz0 := hR.frozen 0
      have rz1 := hR.frozen 1
      have rz2 := hR.frozen 2
      (try clear rl rl1 rl2)
      have rl := hR.lt
      have rl1 := Nat.lt_succ_of_lt rl
      have rl2 := Nat.lt_succ_of_lt rl1
      try simp only [Nat.succ_eq_add_one] at rl1 rl2
      replace hbel := bl_trans hbel hb
      clear hb
      go_wp2_with fail
      have hq := fun o1 o2 => blk_adr (v := false) (n := 0) (((((hR.put 0 (.bool false)).put 1 (.int .u64 0)).put 2 (.int .u64 0)).alloc o1).alloc o2)
      have q0 := fun o1 o2 => (hq o1 o2).1
      have q1 := fun o1 o2 => (hq o1 o2).2.1
      have q2 := fun o1 o2 => (hq o1 o2).2.2.1
      refine bodyPost_ret (v := .tuple #[.agg #[.bool false, .int .u64 0, .int .u64 0], .int .i64 11]) (by simp [results, Tryz.results14, go_sem, q0, q1, q2, hi_zero, lo_zero]) rfl ⟨rfl, bl_⟩
    · rw [h2] at HA
      rw [Bool.true_and]
      cases h3 : rightB v sm
      · rw [h3] at HR2
        rw [if_neg (by simp)]
        go_enter Tryz.func14, Tryz.ntmps14
        go_wp2_with fail
        have hA : Blk (((w.alloc (Obj.cells #[.bool v, .int .u64 (hi a), .int .u64 (lo a)] 26)).alloc (Obj.cells #[.int .u64 (hi n), .int .u64 (lo n)] 24)).alloc (Obj.cells #[.bool false, .int .u64 0, .int .u64 0] 26)) (w.heap.size) 26 (AddrC v a) := (((Blk.new' _ _ _ _ (by simp) : Blk (w.alloc (Obj.cells #[.bool v, .int .u64 (hi a), .int .u64 (lo a)] 26)) (w.heap.size) 26 (AddrC v a))).alloc _).alloc _
        have hN : Blk (((w.alloc (Obj.cells #[.bool v, .int .u64 (hi a), .int .u64 (lo a)] 26)).alloc (Obj.cells #[.int .u64 (hi n), .int .u64 (lo n)] 24)).alloc (Obj.cells #[.bool false, .int .u64 0, .int .u64 0] 26)) (w.heap.size + 1) 24 #[.int .u64 (hi n), .int .u64 (lo n)] := ((Blk.new' _ _ _ _ (by simp) : Blk ((w.alloc (Obj.cells #[.bool v, .int .u64 (hi a), .int .u64 (lo a)] 26)).alloc (Obj.cells #[.int .u64 (hi n), .int .u64 (lo n)] 24)) (w.heap.size + 1) 24 #[.int .u64 (hi n), .int .u64 (lo n)])).alloc _
        have hR : Blk (((w.alloc (Obj.cells #[.bool v, .int .u64 (hi a), .int .u64 (lo a)] 26)).alloc (Obj.cells #[.int .u64 (hi n), .int .u64 (lo n)] 24)).alloc (Obj.cells #[.bool false, .int .u64 0, .int .u64 0] 26)) (w.heap.size + 1 + 1) 26 (AddrC false 0) := (Blk.new' _ _ _ _ (by simp) : Blk (((w.alloc (Obj.cells #[.bool v, .int .u64 (hi a), .int .u64 (lo a)] 26)).alloc (Obj.cells #[.int .u64 (hi n), .int .u64 (lo n)] 24)).alloc (Obj.cells #[.bool false, .int .u64 0, .int .u64 0] 26)) (w.heap.size + 1 + 1) 26 (AddrC false 0))
        have hbel : Below w.heap.size w (((w.alloc (Obj.cells #[.bool v, .int .u64 (hi a), .int .u64 (lo a)] 26)).alloc (Obj.cells #[.int .u64 (hi n), .int .u64 (lo n)] 24)).alloc (Obj.cells #[.bool false, .int .u64 0, .int .u64 0] 26)) := bl_
        have hsz : (((w.alloc (Obj.cells #[.bool v, .int .u64 (hi a), .int .u64 (lo a)] 26)).alloc (Obj.cells #[.int .u64 (hi n), .int .u64 (lo n)] 24)).alloc (Obj.cells #[.bool false, .int .u64 0, .int .u64 0] 26)).heap.size = w.heap.size + 1 + 1 + 1 := by simp
        generalize ((w.alloc (Obj.cells #[.bool v, .int .u64 (hi a), .int .u64 (lo a)] 26)).alloc (Obj.cells #[.int .u64 (hi n), .int .u64 (lo n)] 24)).alloc (Obj.cells #[.bool false, .int .u64 0, .int .u64 0] 26) = w0 at *
        obtain ⟨gr, grE⟩ : ∃ g, g = w.heap.size + 1 + 1 := ⟨_, rfl⟩
        rw [← grE] at hR ⊢
        obtain ⟨gn, gnE⟩ : ∃ g, g = w.heap.size + 1 := ⟨_, rfl⟩
        rw [← gnE] at hN ⊢
        have hd1 : w.heap.size < gn := by omega
        have hd2 : gn < gr := by omega
        have hd3 : w.heap.size < gr := by omega
        clear hsz grE gnE
        with_reducible refine (HR.out _).mono ?_
        rintro e w1 ⟨rfl, hb⟩
        (try clear a0 a1 a2 az0 az1 az2 az3)
        replace hA := hA.after hb
        obtain ⟨a0, a1, a2, _⟩ := blk_adr hA
        have az0 := hA.frozen 0
        have az1 := hA.frozen 1
        have az2 := hA.frozen 2
        (try clear al al1 al2)
        have al := hA.lt
        have al1 := Nat.lt_succ_of_lt al
        have al2 := Nat.lt_succ_of_lt al1
        try simp only [Nat.succ_eq_add_one] at al1 al2
        (try clear n0 n1 nz0 nz1)
        replace hN := hN.after hb
        obtain ⟨n0, n1, _⟩ := blk_two hN
        have nz0 := hN.frozen 0
        have nz1 := hN.frozen 1
        (try clear nl nl1 nl2)
        have nl := hN.lt
        have nl1 := Nat.lt_succ_of_lt nl
        have nl2 := Nat.lt_succ_of_lt nl1
        try simp only [Nat.succ_eq_add_one] at nl1 nl2
        replace hR := hR.after hb
        replace hbel := bl_trans hbel hb
        clear hb
        go_wp2_with fail
        with_reducible refine (HA.out _).mono ?_
        rintro e w2 ⟨rfl, hb⟩
        (try clear a0 a1 a2 az0 az1 az2 az3)
        replace hA := hA.after hb
        obtain ⟨a0, a1, a2, _⟩ := blk_adr hA
        have az0 := hA.frozen 0
        have az1 := hA.frozen 1
        have az2 := hA.frozen 2
        (try clear al al1 al2)
        have al := hA.lt
        have al1 := Nat.lt_succ_of_lt al
        have al2 := Nat.lt_succ_of_lt al1
        try simp only [Nat.succ_eq_add_one] at al1 al2
        (try clear r0 r1 r2 rz0 rz1 rz2 rz3)
        replace hR := hR.after hb
        obtain ⟨r0, r1, r2, _⟩ := blk_adr hR
        have rz0 := hR.frozen 0
        have rz1 := hR.frozen 1
        have rz2 := hR.frozen 2
        (try clear rl rl1 rl2)
        have rl := hR.lt
        have rl1 := Nat.lt_succ_of_lt rl
        have rl2 := Nat.lt_succ_of_lt rl1
        try simp only [Nat.succ_eq_add_one] at rl1 rl2
        replace hbel := bl_trans hbel hb
        clear hb
        go_wp2_with fail
        refine (HR2.out _).mono ?_
        rintro e w3 ⟨rfl, hb3⟩
        have hR3 : Blk w3 gr 26 (AddrC false 0) := bk_
        have hbel3 : Below w.heap.size w w3 := bl_
        obtain ⟨r0, r1, r2, _⟩ := blk_adr hR3
        have rz0 := hR3.frozen 0
        have rz1 := hR3.frozen 1
        have rz2 := hR3.frozen 2
        go_wp2_with fail
        obtain ⟨q0, q1, q2, _⟩ := blk_adr (v := false) (n := 0) (((hR3.put 0 (.bool false)).put 1 (.int .u64 0)).put 2 (.int .u64 0))
        refine bodyPost_ret (v := .tuple #[.agg #[.bool false, .int .u64 0, .int .u64 0], .int .i64 11]) (by simp [results, Tryz.results14, go_sem, q0, q1, q2, hi_zero, lo_zero]) rfl ⟨rfl, bl_⟩
      · rw [h3] at HR2
        rw [if_pos rfl]
        go_enter Tryz.func14, Tryz.ntmps14
        go_wp2_with fail
        have hA : Blk (((w.alloc (Obj.cells #[.bool v, .int .u64 (hi a), .int .u64 (lo a)] 26)).alloc (Obj.cells #[.int .u64 (hi n), .int .u64 (lo n)] 24)).alloc (Obj.cells #[.bool false, .int .u64 0, .int .u64 0] 26)) (w.heap.size) 26 (AddrC v a) := (((Blk.new' _ _ _ _ (by simp) : Blk (w.alloc (Obj.cells #[.bool v, .int .u64 (hi a), .int .u64 (lo a)] 26)) (w.heap.size) 26 (AddrC v a))).alloc _).alloc _
        have hN : Blk (((w.alloc (Obj.cells #[.bool v, .int .u64 (hi a), .int .u64 (lo a)] 26)).alloc (Obj.cells #[.int .u64 (hi n), .int .u64 (lo n)] 24)).alloc (Obj.cells #[.bool false, .int .u64 0, .int .u64 0] 26)) (w.heap.size + 1) 24 #[.int .u64 (hi n), .int .u64 (lo n)] := ((Blk.new' _ _ _ _ (by simp) : Blk ((w.alloc (Obj.cells #[.bool v, .int .u64 (hi a), .int .u64 (lo a)] 26)).alloc (Obj.cells #[.int .u64 (hi n), .int .u64 (lo n)] 24)) (w.heap.size + 1) 24 #[.int .u64 (hi n), .int .u64 (lo n)])).alloc _
        have hR : Blk (((w.alloc (Obj.cells #[.bool v, .int .u64 (hi a), .int .u64 (lo a)] 26)).alloc (Obj.cells #[.int .u64 (hi n), .int .u64 (lo n)] 24)).alloc (Obj.cells #[.bool false, .int .u64 0, .int .u64 0] 26)) (w.heap.size + 1 + 1) 26 (AddrC false 0) := (Blk.new' _ _ _ _ (by simp) : Blk (((w.alloc (Obj.cells #[.bool v, .int .u64 (hi a), .int .u64 (lo a)] 26)).alloc (Obj.cells #[.int .u64 (hi n), .int .u64 (lo n)] 24)).alloc (Obj.cells #[.bool false, .int .u64 0, .int .u64 0] 26)) (w.heap.size + 1 + 1) 26 (AddrC false 0))
        have hbel : Below w.heap.size w (((w.alloc (Obj.cells #[.bool v, .int .u64 (hi a), .int .u64 (lo a)] 26)).alloc (Obj.cells #[.int .u64 (hi n), .int .u64 (lo n)] 24)).alloc (Obj.cells #[.bool false, .int .u64 0, .int .u64 0] 26)) := bl_
        have hsz : (((w.alloc (Obj.cells #[.bool v, .int .u64 (hi a), .int .u64 (lo a)] 26)).alloc (Obj.cells #[.int .u64 (hi n), .int .u64 (lo n)] 24)).alloc (Obj.cells #[.bool false, .int .u64 0, .int .u64 0] 26)).heap.size = w.heap.size + 1 + 1 + 1 := by simp
        generalize ((w.alloc (Obj.cells #[.bool v, .int .u64 (hi a), .int .u64 (lo a)] 26)).alloc (Obj.cells #[.int .u64 (hi n), .int .u64 (lo n)] 24)).alloc (Obj.cells #[.bool false, .int .u64 0, .int .u64 0] 26) = w0 at *
        obtain ⟨gr, grE⟩ : ∃ g, g = w.heap.size + 1 + 1 := ⟨_, rfl⟩
        rw [← grE] at hR ⊢
        obtain ⟨gn, gnE⟩ : ∃ g, g = w.heap.size + 1 := ⟨_, rfl⟩
        rw [← gnE] at hN ⊢
        have hd1 : w.heap.size < gn := by omega
        have hd2 : gn < gr := by omega
        have hd3 : w.heap.size < gr := by omega
        clear hsz grE gnE
        with_reducible refine (HR.out _).mono ?_
        rintro e w1 ⟨rfl, hb⟩
        (try clear a0 a1 a2 az0 az1 az2 az3)
        replace hA := hA.after hb
        obtain ⟨a0, a1, a2, _⟩ := blk_adr hA
        have az0 := hA.frozen 0
        have az1 := hA.frozen 1
        have az2 := hA.frozen 2
        (try clear al al1 al2)
        have al := hA.lt
        have al1 := Nat.lt_succ_of_lt al
        have al2 := Nat.lt_succ_of_lt al1
        try simp only [Nat.succ_eq_add_one] at al1 al2
        (try clear n0 n1 nz0 nz1)
        replace hN := hN.after hb
        obtain ⟨n0, n1, _⟩ := blk_two hN
        have nz0 := hN.frozen 0
        have nz1 := hN.frozen 1
        (try clear nl nl1 nl2)
        have nl := hN.lt
        have nl1 := Nat.lt_succ_of_lt nl
        have nl2 := Nat.lt_succ_of_lt nl1
        try simp only [Nat.succ_eq_add_one] at nl1 nl2
        replace hR := hR.after hb
        replace hbel := bl_trans hbel hb
        clear hb
        go_wp2_with fail
        with_reducible refine (HA.out _).mono ?_
        rintro e w2 ⟨rfl, hb⟩
        (try clear a0 a1 a2 az0 az1 az2 az3)
        replace hA := hA.after hb
        obtain ⟨a0, a1, a2, _⟩ := blk_adr hA
        have az0 := hA.frozen 0
        have az1 := hA.frozen 1
        have az2 := hA.frozen 2
        (try clear al al1 al2)
        have al := hA.lt
        have al1 := Nat.lt_succ_of_lt al
        have al2 := Nat.lt_succ_of_lt al1
        try simp only [Nat.succ_eq_add_one] at al1 al2
        (try clear r0 r1 r2 rz0 rz1 rz2 rz3)
        replace hR := hR.after hb
        obtain ⟨r0, r1, r2, _⟩ := blk_adr hR
        have rz0 := hR.frozen 0
        have rz1 := hR.frozen 1
        have rz2 := hR.frozen 2
        (try clear rl rl1 rl2)
        have rl := hR.lt
        have rl1 := Nat.lt_succ_of_lt rl
        have rl2 := Nat.lt_succ_of_lt rl1
        try simp only [Nat.succ_eq_add_one] at rl1 rl2
        replace hbel := bl_trans hbel hb
        clear hb
        go_wp2_with fail
        refine (HR2.out _).mono ?_
        rintro e w3 ⟨rfl, hb3⟩
        have hR3 : Blk w3 gr 26 (AddrC false 0) := bk_
        have hO3' : Blk w3 (w2.heap.size + 1) 26 #[.bool v, .int .u64 (hi sm), .int .u64 (lo sm)] := bk_
        have hO3 : Blk w3 (w2.heap.size + 1) 26 (AddrC v sm) := hO3'
        have hbel3 : Below w.heap.size w w3 := bl_
        obtain ⟨r0, r1, r2, _⟩ := blk_adr hR3
        have rz0 := hR3.frozen 0
        have rz1 := hR3.frozen 1
        have rz2 := hR3.frozen 2
        obtain ⟨o0, o1, o2, _⟩ := blk_adr hO3
        have oz0 := hO3.frozen 0
        have oz1 := hO3.frozen 1
        have oz2 := hO3.frozen 2
        go_wp2_with fail
        obtain ⟨q0, q1, q2, _⟩ := blk_adr (v := v) (n := sm) (((hR3.put 0 (.bool v)).put 1 (.int .u64 (hi sm))).put 2 (.int .u64 (lo sm)))
        refine bodyPost_ret (v := .tuple #[.agg #[.bool v, .int .u64 (hi sm), .int .u64 (lo sm)], .int .i64 0]) (by simp [results, Tryz.results14, go_sem, q0, q1, q2]) rfl ⟨rfl, bl_⟩
end Go.Proofs.YtgdgklibilddgaaGreatDoor

namespace Go.Proofs.YtgdgklibilddgaaGreatDoor
open Go.RowKit

theorem runAt_long : ∀ (d n : Nat) (z : List Bool), (∀ j, n ≤ j → j < n + d → z[j]? = some true) → d ≤ runAt (z.drop n)
  | 0, _, _, _ => Nat.zero_le _
  | d + 1, n, z, h1 => by
    have h0 := h1 n (Nat.le_refl _) (by omega)
    obtain ⟨hi, e⟩ := List.getElem?_eq_some_iff.1 h0
    rw [List.drop_eq_getElem_cons hi, e, runAt]
    have := runAt_long d (n + 1) z (fun j a b => h1 j (by omega) (by omega))
    omega
theorem run_exit {G : List Nat} {i k x : Nat} (hrun : runAt ((zeros G).drop i) = k - i) (hik : i ≤ k) (hall : ∀ j, i ≤ j → j < k → (zeros G)[j]? = some true) (hx : G[k]? = some x) : x ≠ 0 := by
  intro e
  subst e
  have := runAt_long (k + 1 - i) i (zeros G) (fun j a b => by
    by_cases e : j = k
    · subst e; rw [zeros_at hx]; rfl
    · exact hall j a (by omega))
  omega
theorem u16_at {G : List Nat} {k x : Nat} (h : G[k]? = some x) : (u16V G).toArray[k]? = some (.int .u16 (x : Nat)) := by unfold u16V; simp [h]
set_option maxRecDepth 100000 in
set_option maxHeartbeats 3200000 in
theorem row_c (G : List Nat) (w : World) (hl : G.length = 8) (hG : ∀ g ∈ G, g < 65536) :
    Calls Tryz.prog 104 #[.agg (u16V G).toArray] w fun e w' => e = .returned (.tuple #[.int .i64 ((progRow (zeros G)).1 : Nat), .int .i64 ((progRow (zeros G)).2 : Nat)]) ∧ Below w.heap.size w w' := by
  have hzl : (zeros G).length = 8 := by rw [zeros_len, hl]
  have HZL := Lib.hid hzl
  have HL := Lib.hid hl
  have HLT := Lib.hid hG
  clear hzl hl hG
  go_enter Tryz.func104, Tryz.ntmps104
  go_wp2_with fail
  have hA : Blk (w.alloc (Obj.cells ((u16V G).toArray) 113)) (w.heap.size) 113 ((u16V G).toArray) := (Blk.new' _ _ _ _ (by simp) : Blk (w.alloc (Obj.cells ((u16V G).toArray) 113)) (w.heap.size) 113 ((u16V G).toArray))
  have hbel : Below w.heap.size w (w.alloc (Obj.cells ((u16V G).toArray) 113)) := bl_
  have hsz : (w.alloc (Obj.cells ((u16V G).toArray) 113)).heap.size = w.heap.size + 1 := by simp
  generalize w.alloc (Obj.cells ((u16V G).toArray) 113) = w0 at *
  go_loopw [4, 5, 6] (fun vf vt vi wr => ∃ i : Nat, i ≤ 8 ∧ vi = .int .i64 i ∧ vf = .int .i64 ((progAt (zeros G) i).1 : Nat) ∧ vt = .int .i64 ((progAt (zeros G) i).2 : Nat) ∧ Blk wr w.heap.size 113 (u16V G).toArray ∧ Below w.heap.size w wr) (fun _ _ i _ => 8 - (intOf i).toNat)
  case atStart => exact ⟨0, by omega, rfl, rfl, rfl, hA, hbel⟩
  case round =>
    clear hA hbel
    obtain ⟨i, hi, rfl, rfl, rfl, hA, hbel⟩ := hrel
    by_cases hlt : i < 8
    · have d1 : (i : Int) < 8 := by omega
      go_wp2_with fail
      go_loopw [7] (fun vk wr => ∃ k : Nat, i ≤ k ∧ k ≤ 8 ∧ vk = .int .i64 k ∧ (∀ j, i ≤ j → j < k → (zeros G)[j]? = some true) ∧ Blk wr w.heap.size 113 (u16V G).toArray ∧ Below w.heap.size w wr) (fun k _ => 8 - (intOf k).toNat)
      case atStart => exact ⟨i, by omega, by omega, rfl, fun j a b => absurd b (by omega), hA, hbel⟩
      case round =>
        clear hA hbel
        obtain ⟨k, hik, hk, rfl, hall, hA, hbel⟩ := hrel
        have HALL := Lib.hid hall
        clear hall
        have key : (k < 8 ∧ (zeros G)[k]? = some true) ∨ (runAt ((zeros G).drop i) = k - i) := by
          by_cases h8 : k < 8
          · by_cases hz : (zeros G)[k]? = some true
            · exact .inl ⟨h8, hz⟩
            · exact .inr (runAt_is (k - i) i (fun j a b => HALL.out j a (by omega)) (by rw [show i + (k - i) = k by omega]; exact hz))
          · refine .inr (runAt_is (k - i) i (fun j a b => HALL.out j a (by omega)) ?_)
            rw [show i + (k - i) = k by omega, List.getElem?_eq_none (by rw [HZL.out]; omega)]
            simp
        have hrd : ∀ h : k < 8, ∃ x, G[k]? = some x ∧ x < 65536 := fun h => ⟨_, List.getElem?_eq_getElem (by rw [HL.out]; exact h), HLT.out _ (List.getElem_mem _)⟩
        rcases key with ⟨h8, hz⟩ | hrun
        · have d2 : (k : Int) < 8 := by omega
          obtain ⟨x, hx, hx6⟩ := hrd h8
          have hxz : x = 0 := by
            rw [zeros_at hx] at hz
            simpa using hz
          subst hxz
          have c0 := (hA.cell k).trans (u16_at hx)
          have HNEXT : Hid (∀ j, i ≤ j → j < k + 1 → (zeros G)[j]? = some true) := Lib.hid (fun j a b => by
            by_cases e : j = k
            · subst e; exact hz
            · exact HALL.out j a (by omega))
          clear hz hx hrd
          go_wp2_with fail
          go_roundw
          case rel => exact ⟨k + 1, by omega, by omega, by go_num, HNEXT.out, bk_, bl_⟩
          case measure => simp [intOf]; omega
        · have hex : k = 8 ∨ (k < 8 ∧ ∃ x, G[k]? = some x ∧ x < 65536 ∧ x ≠ 0) := by
            by_cases h8 : k < 8
            · obtain ⟨x, hx, hx6⟩ := hrd h8
              exact .inr ⟨h8, x, hx, hx6, run_exit hrun hik HALL.out hx⟩
            · exact .inl (by omega)
          clear hrd
          have HEX := Lib.hid hex
          clear hex
          have hst : progAt (zeros G) (i + 1) = if (progAt (zeros G) i).2 - (progAt (zeros G) i).1 < k - i ∧ 1 < k - i then (i, k) else progAt (zeros G) i := by
            rw [progAt_succ]
            unfold stepRow
            rw [hrun, show i + (k - i) = k by omega]
          have HST := Lib.hid hst
          obtain ⟨hb1, hb2⟩ := progAt_bd (z := zeros G) HZL.out i (by omega)
          generalize progAt (zeros G) i = p at *
          obtain ⟨f, t⟩ := p
          simp only at hb1 hb2
          have hc : (((t : Int) - f < (k : Int) - i ∧ (1 : Int) < (k : Int) - i) ∧ (progAt (zeros G) (i + 1)).1 = i ∧ (progAt (zeros G) (i + 1)).2 = k) ∨ ((t : Int) - f < (k : Int) - i ∧ ¬ (1 : Int) < (k : Int) - i ∧ (progAt (zeros G) (i + 1)).1 = f ∧ (progAt (zeros G) (i + 1)).2 = t) ∨ (¬ (t : Int) - f < (k : Int) - i ∧ (progAt (zeros G) (i + 1)).1 = f ∧ (progAt (zeros G) (i + 1)).2 = t) := by
            rw [HST.out]
            simp only
            by_cases q1 : t - f < k - i
            · by_cases q2 : 1 < k - i
              · rw [if_pos ⟨q1, q2⟩]; exact .inl ⟨⟨by omega, by omega⟩, rfl, rfl⟩
              · rw [if_neg (fun q => q2 q.2)]; exact .inr (.inl ⟨by omega, by omega, rfl, rfl⟩)
            · rw [if_neg (fun q => q1 q.1)]; exact .inr (.inr ⟨by omega, rfl, rfl⟩)
          clear hst hrun HALL
          rcases HEX.out with rfl | ⟨h8, x, hx, hx6, hx0⟩
          · have d2 : ¬ (8 : Int) < 8 := by omega
            rcases hc with ⟨⟨d3, d4⟩, e1, e2⟩ | ⟨d3, d4, e1, e2⟩ | ⟨d3, e1, e2⟩
            all_goals
              have E1 := Lib.hid e1
              have E2 := Lib.hid e2
              clear e1 e2
              go_wp2_with fail
              go_roundw
              case rel => exact ⟨i + 1, by omega, by go_num, by first | (rw [E1.out]; done) | (rw [E1.out]; rfl), by first | (rw [E2.out]; done) | (rw [E2.out]; rfl), bk_, bl_⟩
              case measure => simp [intOf]; omega
          · have d2 : (k : Int) < 8 := by omega
            have c0 := (hA.cell k).trans (u16_at hx)
            have d5 : ((x : Int) == 0) = false := by simp; omega
            clear hx
            rcases hc with ⟨⟨d3, d4⟩, e1, e2⟩ | ⟨d3, d4, e1, e2⟩ | ⟨d3, e1, e2⟩
            all_goals
              have E1 := Lib.hid e1
              have E2 := Lib.hid e2
              clear e1 e2
              go_wp2_with fail
              go_roundw
              case rel => exact ⟨i + 1, by omega, by go_num, by first | (rw [E1.out]; done) | (rw [E1.out]; rfl), by first | (rw [E2.out]; done) | (rw [E2.out]; rfl), bk_, bl_⟩
              case measure => simp [intOf]; omega
    · obtain rfl : i = 8 := by omega
      have d1 : ¬ (8 : Int) < 8 := by omega
      have he : progAt (zeros G) 8 = progRow (zeros G) := progAt_end _
      rw [he]
      go_wp2_with fail
      go_ret2
      exact ⟨rfl, hbel⟩
theorem slice_lo (a f : Nat) (hf : f ≤ 8) (w : World) : (Instr.sliceAt 113 (.pointer (some ⟨a, 0, none⟩)) none (some (.int .i64 (f : Nat))) none).run Tryz.prog w = .ok (.slice (some ⟨a, 0, none⟩) f 8) w := by
  have hlen : Tryz.prog.arrayLen 113 = 8 := by kernel_rfl
  rw [run_sliceAt_array_h w 113 ⟨a, 0, none⟩ (by kernel_rfl) .i64 _ (by omega) (by rw [hlen]; omega), hlen]
  have hs : (sizeOf (Tryz.prog.elem 113)).run Tryz.prog w = .ok 1 w := by kernel_rfl
  rw [hs]
  show Result.ok (slicedAt _ _ _ _ _) w = _
  unfold slicedAt Addr.add
  simp
theorem slice_hi (a t : Nat) (ht : t ≤ 8) (w : World) : (Instr.sliceAt 113 (.pointer (some ⟨a, 0, none⟩)) (some (.int .i64 (t : Nat))) none none).run Tryz.prog w = .ok (.slice (some ⟨a, if t = 8 then 0 else t, none⟩) (8 - t) (8 - t)) w := by
  have hlen : Tryz.prog.arrayLen 113 = 8 := by kernel_rfl
  rw [run_sliceAt_array_l w 113 ⟨a, 0, none⟩ (by kernel_rfl) .i64 _ (by omega) (by rw [hlen]; omega), hlen]
  have hs : (sizeOf (Tryz.prog.elem 113)).run Tryz.prog w = .ok 1 w := by kernel_rfl
  rw [hs]
  show Result.ok (slicedAt _ _ _ _ _) w = _
  unfold slicedAt Addr.add
  simp only [Int.toNat_natCast]
  by_cases h : t = 8
  · subst h; rfl
  · rw [if_neg (by omega), if_neg h]; simp; omega
theorem words_blk {G : List Nat} {g : Nat} {w0 : World} (hl : G.length = 8) (hG6 : ∀ x ∈ G, x < 65536) (hB : Blk w0 g 113 (u16V G).toArray) (hG : Glob w0) (f t : Nat) (hf : f ≤ 8) (ht : t ≤ 8) :
    (∀ w, Below w0.heap.size w0 w → Calls Tryz.prog 105 #[.slice (some ⟨g, 0, none⟩) f 8] w fun e w' => e = .returned (.string ⟨(joinH (G.take f)).toArray⟩) ∧ Below w0.heap.size w0 w') ∧
    (∀ w, Below w0.heap.size w0 w → Calls Tryz.prog 105 #[.slice (some ⟨g, if t = 8 then 0 else t, none⟩) (8 - t) (8 - t)] w fun e w' => e = .returned (.string ⟨(joinH (G.drop t)).toArray⟩) ∧ Below w0.heap.size w0 w') := by
  constructor
  · intro w hb
    refine (words_c g 0 f 8 (G.take f) w (by simp; omega) hf (fun x hx => hG6 x (List.mem_of_mem_take hx)) (fun j hj => ?_) (hB.after hb).lt (hG.after hb)).mono fun e w' h => ⟨h.1, bl_trans hb h.2⟩
    have hj2 : j < f := by simp at hj; omega
    rw [Nat.zero_add, (hB.after hb).cell, u16_at (List.getElem?_eq_getElem (by omega : j < G.length))]
    simp
  · intro w hb
    refine (words_c g (if t = 8 then 0 else t) (8 - t) (8 - t) (G.drop t) w (by simp; omega) (by omega) (fun x hx => hG6 x (List.mem_of_mem_drop hx)) (fun j hj => ?_) (hB.after hb).lt (hG.after hb)).mono fun e w' h => ⟨h.1, bl_trans hb h.2⟩
    have hj2 : j < 8 - t := by simp at hj; omega
    rw [if_neg (by omega), (hB.after hb).cell, u16_at (List.getElem?_eq_getElem (by omega : t + j < G.length))]
    simp
theorem bytes_app (a b : List UInt8) : (⟨a.toArray⟩ : ByteArray) ++ ⟨b.toArray⟩ = ⟨(a ++ b).toArray⟩ := by
  apply ByteArray.ext
  simp
/-- an address's text; none: it may not be -/
def printA (v : Bool) (n : Nat) : List UInt8 := if rightB v n = true then (if v = true then print6 (grps n) (progRow (zeros (grps n))).1 (progRow (zeros (grps n))).2 else print4 n) else []
theorem right_false {n : Nat} (h : rightB false n = true) : n < 4294967296 := by
  unfold rightB at h
  have := of_decide_eq_true h
  exact this
set_option maxRecDepth 100000 in
set_option maxHeartbeats 3200000 in
theorem print_c (v : Bool) (n : Nat) (w : World) (hn : n < 340282366920938463463374607431768211456) (hG : Glob w) :
    Calls Tryz.prog 64 #[AddrV v n] w fun e w' => e = .returned (.string ⟨(printA v n).toArray⟩) ∧ Below w.heap.size w w' := by
  have HR := Lib.hid (fun w => right_c v n w hn)
  unfold printA
  by_cases hr : rightB v n = true
  · rw [hr] at HR
    rw [if_pos hr]
    cases v
    · have HP := Lib.hid (fun w hG => print4_c n w (right_false hr) hG)
      rw [if_neg (by simp)]
      rw [AddrV_eq] at *
      unfold AddrC at *
      go_enter Tryz.func64, Tryz.ntmps64
      go_wp2_with fail
      have hA : Blk (w.alloc (Obj.cells #[.bool false, .int .u64 (hi n), .int .u64 (lo n)] 26)) (w.heap.size) 26 (AddrC false n) := (Blk.new' _ _ _ _ (by simp) : Blk (w.alloc (Obj.cells #[.bool false, .int .u64 (hi n), .int .u64 (lo n)] 26)) (w.heap.size) 26 (AddrC false n))
      have hbel : Below w.heap.size w (w.alloc (Obj.cells #[.bool false, .int .u64 (hi n), .int .u64 (lo n)] 26)) := bl_
      replace hG := hG.after hbel
      have hsz : (w.alloc (Obj.cells #[.bool false, .int .u64 (hi n), .int .u64 (lo n)] 26)).heap.size = w.heap.size + 1 := by simp
      generalize w.alloc (Obj.cells #[.bool false, .int .u64 (hi n), .int .u64 (lo n)] 26) = w0 at *
      with_reducible refine (HR.out _).mono ?_
      rintro e w1 ⟨rfl, hb⟩
      (try clear c0 c1 c2 cz0 cz1 cz2 cz3)
      replace hA := hA.after hb
      obtain ⟨c0, c1, c2, _⟩ := blk_adr hA
      have cz0 := hA.frozen 0
      have cz1 := hA.frozen 1
      have cz2 := hA.frozen 2
      (try clear cl cl1 cl2)
      have cl := hA.lt
      have cl1 := Nat.lt_succ_of_lt cl
      have cl2 := Nat.lt_succ_of_lt cl1
      try simp only [Nat.succ_eq_add_one] at cl1 cl2
      replace hG := hG.after hb
      replace hbel := bl_trans hbel hb
      clear hb
      go_wp2_with fail
      with_reducible refine (HP.out _ hG).mono ?_
      rintro e w2 ⟨rfl, hb⟩
      replace hA := hA.after hb
      replace hG := hG.after hb
      replace hbel := bl_trans hbel hb
      clear hb
      go_wp2_with fail
      go_ret
      exact ⟨rfl, hbel⟩
    · rw [if_pos rfl]
      have HP := Lib.hid (fun w => pieces_c true n w hn)
      have HRO := Lib.hid (fun w => row_c (grps n) w (grps_len n) (fun g hg => grps_lt hg))
      obtain ⟨a0, a1, a2, a3, a4, a5, a6, a7, hgr⟩ : ∃ a0 a1 a2 a3 a4 a5 a6 a7, grps n = [a0, a1, a2, a3, a4, a5, a6, a7] := ⟨_, _, _, _, _, _, _, _, rfl⟩
      rw [hgr] at HP HRO ⊢
      simp only [u16V, List.map] at HP HRO
      rw [AddrV_eq] at *
      unfold AddrC at *
      go_enter Tryz.func64, Tryz.ntmps64
      go_wp2_with fail
      have hA : Blk (w.alloc (Obj.cells #[.bool true, .int .u64 (hi n), .int .u64 (lo n)] 26)) (w.heap.size) 26 (AddrC true n) := (Blk.new' _ _ _ _ (by simp) : Blk (w.alloc (Obj.cells #[.bool true, .int .u64 (hi n), .int .u64 (lo n)] 26)) (w.heap.size) 26 (AddrC true n))
      have hbel : Below w.heap.size w (w.alloc (Obj.cells #[.bool true, .int .u64 (hi n), .int .u64 (lo n)] 26)) := bl_
      replace hG := hG.after hbel
      have hsz : (w.alloc (Obj.cells #[.bool true, .int .u64 (hi n), .int .u64 (lo n)] 26)).heap.size = w.heap.size + 1 := by simp
      generalize w.alloc (Obj.cells #[.bool true, .int .u64 (hi n), .int .u64 (lo n)] 26) = w0 at *
      with_reducible refine (HR.out _).mono ?_
      rintro e w1 ⟨rfl, hb⟩
      (try clear c0 c1 c2 cz0 cz1 cz2 cz3)
      replace hA := hA.after hb
      obtain ⟨c0, c1, c2, _⟩ := blk_adr hA
      have cz0 := hA.frozen 0
      have cz1 := hA.frozen 1
      have cz2 := hA.frozen 2
      (try clear cl cl1 cl2)
      have cl := hA.lt
      have cl1 := Nat.lt_succ_of_lt cl
      have cl2 := Nat.lt_succ_of_lt cl1
      try simp only [Nat.succ_eq_add_one] at cl1 cl2
      replace hG := hG.after hb
      replace hbel := bl_trans hbel hb
      clear hb
      go_wp2_with fail
      with_reducible refine (HP.out _).mono ?_
      rintro e w2 ⟨rfl, hb⟩
      replace hA := hA.after hb
      replace hG := hG.after hb
      replace hbel := bl_trans hbel hb
      clear hb
      go_wp2_with fail
      have hL : Blk (w2.alloc (Obj.cells #[.int .u16 (a0 : Nat), .int .u16 (a1 : Nat), .int .u16 (a2 : Nat), .int .u16 (a3 : Nat), .int .u16 (a4 : Nat), .int .u16 (a5 : Nat), .int .u16 (a6 : Nat), .int .u16 (a7 : Nat)] 113)) (w2.heap.size) 113 #[.int .u16 (a0 : Nat), .int .u16 (a1 : Nat), .int .u16 (a2 : Nat), .int .u16 (a3 : Nat), .int .u16 (a4 : Nat), .int .u16 (a5 : Nat), .int .u16 (a6 : Nat), .int .u16 (a7 : Nat)] := (Blk.new' _ _ _ _ (by simp) : Blk (w2.alloc (Obj.cells #[.int .u16 (a0 : Nat), .int .u16 (a1 : Nat), .int .u16 (a2 : Nat), .int .u16 (a3 : Nat), .int .u16 (a4 : Nat), .int .u16 (a5 : Nat), .int .u16 (a6 : Nat), .int .u16 (a7 : Nat)] 113)) (w2.heap.size) 113 #[.int .u16 (a0 : Nat), .int .u16 (a1 : Nat), .int .u16 (a2 : Nat), .int .u16 (a3 : Nat), .int .u16 (a4 : Nat), .int .u16 (a5 : Nat), .int .u16 (a6 : Nat), .int .u16 (a7 : Nat)])
      have hbn : Below w2.heap.size w2 (w2.alloc (Obj.cells #[.int .u16 (a0 : Nat), .int .u16 (a1 : Nat), .int .u16 (a2 : Nat), .int .u16 (a3 : Nat), .int .u16 (a4 : Nat), .int .u16 (a5 : Nat), .int .u16 (a6 : Nat), .int .u16 (a7 : Nat)] 113)) := bl_
      replace hG := hG.after hbn
      replace hA := hA.after hbn
      replace hbel := bl_trans hbel hbn
      clear hbn
      (try clear hsz)
      have hsz : (w2.alloc (Obj.cells #[.int .u16 (a0 : Nat), .int .u16 (a1 : Nat), .int .u16 (a2 : Nat), .int .u16 (a3 : Nat), .int .u16 (a4 : Nat), .int .u16 (a5 : Nat), .int .u16 (a6 : Nat), .int .u16 (a7 : Nat)] 113)).heap.size = w2.heap.size + 1 := by simp
      generalize w2.alloc (Obj.cells #[.int .u16 (a0 : Nat), .int .u16 (a1 : Nat), .int .u16 (a2 : Nat), .int .u16 (a3 : Nat), .int .u16 (a4 : Nat), .int .u16 (a5 : Nat), .int .u16 (a6 : Nat), .int .u16 (a7 : Nat)] 113) = w3 at *
      with_reducible refine (HRO.out _).mono ?_
      rintro e w4 ⟨rfl, hb⟩
      replace hL := hL.after hb
      replace hG := hG.after hb
      replace hbel := bl_trans hbel hb
      clear hb
      obtain ⟨rx1, r2, r3, rx2, rx3⟩ := rows_of (G := [a0, a1, a2, a3, a4, a5, a6, a7]) rfl
      obtain ⟨f, hF⟩ : ∃ f, (progRow (zeros [a0, a1, a2, a3, a4, a5, a6, a7])).1 = f := ⟨_, rfl⟩
      obtain ⟨t, hT⟩ : ∃ f, (progRow (zeros [a0, a1, a2, a3, a4, a5, a6, a7])).2 = f := ⟨_, rfl⟩
      have HF := Lib.hid hF
      have HT := Lib.hid hT
      rw [hF, hT] at r2
      rw [hT] at r3
      rw [hF, hT]
      clear hF hT rx1 rx2 rx3
      have h6 : ∀ x ∈ [a0, a1, a2, a3, a4, a5, a6, a7], x < 65536 := fun x hx => grps_lt (hgr ▸ hx)
      obtain ⟨hw1, hw2⟩ := words_blk (G := [a0, a1, a2, a3, a4, a5, a6, a7]) rfl h6 hL hG f t (by omega) r3
      obtain ⟨hw3, hw4⟩ := words_blk (G := [a0, a1, a2, a3, a4, a5, a6, a7]) rfl h6 hL hG 8 t (by omega) r3
      have hjl : ∀ L : List Nat, L.length ≤ 8 → (⟨(joinH L).toArray⟩ : ByteArray).size ≤ 1000 := fun L hL => by
        have := join_len (c := [58]) (m := 4) (l := L.map hexD) (fun p hp => by
          obtain ⟨x, _, rfl⟩ := List.mem_map.1 hp
          exact hexD_len x)
        rw [List.length_map] at this
        show (joinH L).toArray.size ≤ 1000
        rw [List.size_toArray]
        refine Nat.le_trans this ?_
        simp; omega
      have hz1 := hjl ([a0, a1, a2, a3, a4, a5, a6, a7].take f) (by simp; omega)
      have hz2 := hjl ([a0, a1, a2, a3, a4, a5, a6, a7].drop t) (by simp)
      obtain ⟨S1, hS1⟩ : ∃ S : ByteArray, (⟨(joinH ([a0, a1, a2, a3, a4, a5, a6, a7].take f)).toArray⟩ : ByteArray) = S := ⟨_, rfl⟩
      obtain ⟨S2, hS2⟩ : ∃ S : ByteArray, (⟨(joinH ([a0, a1, a2, a3, a4, a5, a6, a7].drop t)).toArray⟩ : ByteArray) = S := ⟨_, rfl⟩
      obtain ⟨S3, hS3⟩ : ∃ S : ByteArray, (⟨(joinH ([a0, a1, a2, a3, a4, a5, a6, a7].take 8)).toArray⟩ : ByteArray) = S := ⟨_, rfl⟩
      rw [hS1] at hw1 hz1
      rw [hS2] at hw2 hz2
      rw [hS3] at hw3
      have hpr : (⟨(print6 [a0, a1, a2, a3, a4, a5, a6, a7] (progRow (zeros [a0, a1, a2, a3, a4, a5, a6, a7])).1 (progRow (zeros [a0, a1, a2, a3, a4, a5, a6, a7])).2).toArray⟩ : ByteArray) = if f = t then S3 else S1 ++ ⟨#[58, 58]⟩ ++ S2 := by
        rw [HF.out, HT.out]
        unfold print6
        by_cases h : f = t
        · rw [if_pos h, if_pos h, ← hS3]; rfl
        · rw [if_neg h, if_neg h, ← hS1, ← hS2]
          show _ = _ ++ (⟨[58, 58].toArray⟩ : ByteArray) ++ _
          rw [bytes_app, bytes_app]
          simp
      have HPR := Lib.hid hpr
      clear hS1 hS2 hS3 hpr hjl
      have hs1 := slice_lo w2.heap.size f (by omega)
      have hs2 := slice_hi w2.heap.size t r3
      have hbs : Below w4.heap.size w4 w4 := Below.refl _ _
      generalize (if t = 8 then 0 else t) = o2 at *
      generalize 8 - t = n2 at *
      have HW1 := Lib.hid hw1
      have HW2 := Lib.hid hw2
      have HW3 := Lib.hid hw3
      clear hw1 hw2 hw3 hw4 h6 HRO HP HR hgr HF HT
      by_cases hft : f = t
      · have d : ((f : Int) == t) = true := by simp; omega
        go_wp2_with fail
        refine (HW3.out _ hbs).mono ?_
        rintro e wx ⟨rfl, hbx⟩
        go_wp2_with fail
        go_ret
        refine ⟨?_, bl_trans hbel hbx⟩
        rw [HPR.out, if_pos hft]; rfl
      · have d : ((f : Int) == t) = false := by simp; omega
        go_wp2_with fail
        have hq1 : S1.size ≤ 9223372036854775805 := by omega
        have hq2 : S1.size + 2 + S2.size ≤ 9223372036854775807 := by omega
        have hcat1 : ∀ w, (Op.stringOp .add S1 ⟨#[58, 58]⟩).run Tryz.prog w = .ok (.string (S1 ++ ⟨#[58, 58]⟩)) w := fun w => run_string_add w S1 ⟨#[58, 58]⟩ (by omega) (by decide)
        have hcat2 : ∀ w, (Op.stringOp .add (S1 ++ ⟨#[58, 58]⟩) S2).run Tryz.prog w = .ok (.string (S1 ++ ⟨#[58, 58]⟩ ++ S2)) w := fun w => run_string_add w _ S2 (by rw [ByteArray.size_append]; show ((S1.size + 2 : Nat) : Int) ≤ _; omega) (by omega)
        clear hz1 hz2
        go_region_held3 (fun w' => Below w4.heap.size w4 w') (exact bl_)
          (first
          | (with_reducible refine (HW1.out _ ‹_›).mono ?_; rintro e wx ⟨rfl, hbx⟩)
          | (with_reducible refine (HW2.out _ ‹_›).mono ?_; rintro e wx ⟨rfl, hbx⟩))
        all_goals
          go_wp2_with fail
          go_ret
          exact ⟨by rw [HPR.out, if_neg hft]; rfl, bl_trans hbel ‹_›⟩
  · have hr' : rightB v n = false := by simpa using hr
    rw [hr'] at HR
    rw [if_neg hr]
    rw [AddrV_eq] at *
    unfold AddrC at *
    go_enter Tryz.func64, Tryz.ntmps64
    go_wp2_with fail
    refine (HR.out _).mono ?_
    rintro e w1 ⟨rfl, hb1⟩
    go_wp2_with fail
    go_ret
    exact ⟨rfl, bl_⟩
end Go.Proofs.YtgdgklibilddgaaGreatDoor

namespace Go.Proofs.YtgdgklibilddgaaGreatDoor

/-- without the last f bits -/
def topN (f n : Nat) : Nat := n / 2 ^ f * 2 ^ f
theorem topN_le (f n : Nat) : topN f n ≤ n := Nat.div_mul_le_self n (2 ^ f)
theorem topN_mod (f n : Nat) : topN f n % 2 ^ f = 0 := by unfold topN; exact Nat.mul_mod_left _ _
theorem topN_add (f n : Nat) : topN f n + n % 2 ^ f = n := by unfold topN; rw [Nat.mul_comm]; exact Nat.div_add_mod n (2 ^ f)
theorem topN_eq {f n : Nat} : topN f n = n ↔ n % 2 ^ f = 0 := by have := topN_add f n; omega
theorem topN_div (f n : Nat) : topN f n / 2 ^ f = n / 2 ^ f := by unfold topN; exact Nat.mul_div_cancel _ (Nat.two_pow_pos f)
theorem topN_iff {f x y : Nat} (hx : x % 2 ^ f = 0) : topN f y = x ↔ y / 2 ^ f = x / 2 ^ f := by
  constructor
  · rintro rfl; rw [topN_div]
  · intro h
    unfold topN
    rw [h]
    exact Nat.div_mul_cancel (Nat.dvd_of_mod_eq_zero hx)
theorem and_ones (n f : Nat) : n &&& (2 ^ f - 1) = n % 2 ^ f := Nat.and_two_pow_sub_one_eq_mod n f
theorem and_not {n f k : Nat} (hf : f ≤ k) (hn : n < 2 ^ k) : n &&& (2 ^ k - 1 - (2 ^ f - 1)) = topN f n := by
  have hp : 2 ^ f ≤ 2 ^ k := Nat.pow_le_pow_right (by omega) hf
  have hf0 := Nat.two_pow_pos f
  apply Nat.eq_of_testBit_eq
  intro i
  rw [Nat.testBit_and, show 2 ^ k - 1 - (2 ^ f - 1) = 2 ^ k - ((2 ^ f - 1) + 1) by omega, Nat.testBit_two_pow_sub_succ (by omega), Nat.testBit_two_pow_sub_one]
  unfold topN
  rw [Nat.testBit_mul_two_pow, Nat.testBit_div_two_pow]
  by_cases h1 : i < f
  · simp [h1, Nat.not_le.2 h1]
  · have h2 : f ≤ i := by omega
    simp only [h1, decide_false, Bool.not_false, Bool.and_true, ge_iff_le, h2, decide_true, Bool.true_and]
    rw [show i - f + f = i by omega]
    by_cases h3 : i < k
    · simp [h3]
    · have : n.testBit i = false := Nat.testBit_lt_two_pow (Nat.lt_of_lt_of_le hn (Nat.pow_le_pow_right (by omega) (by omega)))
      simp [this]
theorem or_ones {n f : Nat} (h : n % 2 ^ f = 0) : n ||| (2 ^ f - 1) = n + (2 ^ f - 1) := by
  have hf0 := Nat.two_pow_pos f
  have e : n = 2 ^ f * (n / 2 ^ f) := (Nat.mul_div_cancel' (Nat.dvd_of_mod_eq_zero h)).symm
  rw [e, Nat.two_pow_add_eq_or_of_lt (by omega)]
theorem or_small {n f d : Nat} (h : n % 2 ^ f = 0) (hd : d < 2 ^ f) : n ||| d = n + d := by
  have e : n = 2 ^ f * (n / 2 ^ f) := (Nat.mul_div_cancel' (Nat.dvd_of_mod_eq_zero h)).symm
  rw [e, Nat.two_pow_add_eq_or_of_lt hd]
end Go.Proofs.YtgdgklibilddgaaGreatDoor

namespace Go.Proofs.YtgdgklibilddgaaGreatDoor
open Go.RowKit

section
variable {P : Program} {ops : Array Oper} {Q : Exit → Act → World → Prop} {md : Region.Mode} {S : World → Prop}
theorem get_of_drop {i : Nat} {oi : Oper} {rest : List Oper} (hd : ops.toList.drop i = oi :: rest) : ops[i]? = some oi := by
  have h1 : (ops.toList.drop i)[0]? = some oi := by rw [hd]; rfl
  rw [List.getElem?_drop, Nat.add_zero] at h1
  simpa using h1
/-- wpAnyH_take, the operation read off the list written out -/
theorem take_q {i : Nat} {oi : Oper} {rest : List Oper} {v : Value} {fuel : Nat} {listed : Array Bool} {a : Act} {w : World} (hd : ops.toList.drop i = oi :: rest)
    (hs : Region.noSelect ops = true) (hf : Region.free md ops listed i = true) (hr : (Region.ready md ops listed).contains i = true)
    (hQ : ∀ c a w, Q (.panic c) (a.put oi.dst v) w → Q (.panic c) a w) (hy : YieldsIf P ops S oi v a) (hS : S w)
    (h : wpAnyH P md ops Q S fuel (listed.setIfInBounds i true) (a.put oi.dst v) w) : wpAnyH P md ops Q S (fuel + 1) listed a w :=
  wpAnyH_take (get_of_drop hd) hs hf hr hQ hy hS h
theorem cons_q {fuel : Nat} {listed : Array Bool} {a : Act} {w : World} {i : Nat} {o : Oper} {rest : List Oper} {rs : List Nat} (hd : ops.toList.drop i = o :: rest)
    (h : ∀ K' : Act → World → Prop, Shut (∀ a w, S w → (S w → wpAnyH P md ops Q S fuel (listed.setIfInBounds i true) a w) → K' a w) → if Region.wanted o (yielded ops a.tmps) = true then Oper.wp P o a w K' Q else K' (a.put o.dst undef) w)
    (hs : AllReadyH P md ops Q S fuel listed a w rs) : AllReadyH P md ops Q S fuel listed a w (i :: rs) := AllReadyH.cons (get_of_drop hd) h hs
end

end Go.Proofs.YtgdgklibilddgaaGreatDoor

namespace Go.Proofs.YtgdgklibilddgaaGreatDoor
open Go.RowKit

def PfxC (v : Bool) (n : Nat) (b : Int) : Array Value := #[.bool v, .int .u64 (hi n), .int .u64 (lo n), .int .i64 b]
def PfxV (v : Bool) (n : Nat) (b : Int) : Value := .agg (PfxC v n b)
/-- bits that are not fixed -/
def fr (v : Bool) (b : Int) : Nat := widthN v - b.toNat
theorem fr_le (v : Bool) (b : Int) : fr v b ≤ 128 := by unfold fr; cases v <;> simp [widthN] <;> omega
/-- may it be? -/
def rightP (v : Bool) (n : Nat) (b : Int) : Bool := rightB v n && (decide (0 ≤ b) && (decide (b ≤ (widthN v : Int)) && decide (n % 2 ^ fr v b = 0)))
theorem blk_pfx {w : World} {g : Nat} {v : Bool} {n : Nat} {b : Int} (h : Blk w g 38 (PfxC v n b)) :
    w.cell? ⟨g, 0, none⟩ = some (.bool v) ∧ w.cell? ⟨g, 1, none⟩ = some (.int .u64 (hi n)) ∧ w.cell? ⟨g, 2, none⟩ = some (.int .u64 (lo n)) ∧ w.cell? ⟨g, 3, none⟩ = some (.int .i64 b) ∧ Blk w g 38 (PfxC v n b) :=
  ⟨h.cell 0, h.cell 1, h.cell 2, h.cell 3, h⟩
theorem ones_val {v : Bool} {b : Int} (h0 : 0 ≤ b) (h1 : b ≤ (widthN v : Int)) : onesN ((widthN v : Int) - b) = 2 ^ fr v b - 1 := by
  unfold onesN fr
  have hw : widthN v ≤ 128 := by cases v <;> decide
  obtain ⟨k, rfl⟩ := Int.eq_ofNat_of_zero_le h0
  by_cases e1 : (widthN v : Int) - (k : Int) < 1
  · rw [if_pos e1, show widthN v - (k : Int).toNat = 0 by omega]
  · rw [if_neg e1]
    by_cases e2 : (128 : Int) ≤ (widthN v : Int) - (k : Int)
    · rw [if_pos e2, show widthN v - (k : Int).toNat = 128 by omega]
    · rw [if_neg e2]
      congr 2
      omega
theorem pow_fr (v : Bool) (b : Int) : 2 ^ fr v b - 1 < 340282366920938463463374607431768211456 := by
  have h := Nat.pow_le_pow_right (n := 2) (by omega) (fr_le v b)
  have h2 : (2 : Nat) ^ 128 = 340282366920938463463374607431768211456 := by decide
  have h3 := Nat.two_pow_pos (fr v b)
  omega
set_option maxRecDepth 100000 in
theorem free_c (v : Bool) (n : Nat) (b : Int) (w : World) (h0 : 0 ≤ b) (h1 : b ≤ (widthN v : Int)) :
    Calls Tryz.prog 85 #[PfxV v n b] w fun e w' => e = .returned (numV (2 ^ fr v b - 1)) ∧ Below w.heap.size w w' := by
  have HW := Lib.hid (fun w => width_c v n w)
  have HO := Lib.hid (fun w => ones_c ((widthN v : Int) - b) w)
  rw [ones_val h0 h1] at HO
  have hw : widthN v ≤ 128 := by cases v <;> decide
  generalize 2 ^ fr v b - 1 = F at *
  unfold PfxV PfxC
  simp only [AddrV_eq, AddrC] at HW
  unfold numV at *
  generalize widthN v = wd at *
  have HDEC := Lib.hid (show IntKind.i64.wrap ((wd : Int) - b) = (wd : Int) - b by rw [IntKind.wrap_i64]; omega)
  generalize hi F = fh at *
  generalize lo F = fl at *
  go_enter Tryz.func85, Tryz.ntmps85
  go_wp2_with fail
  have hA : Blk ((w.alloc (Obj.cells #[.bool v, .int .u64 (hi n), .int .u64 (lo n), .int .i64 b] 38)).alloc (Obj.cells #[.int .u64 0, .int .u64 0] 24)) (w.heap.size) 38 (PfxC v n b) := ((Blk.new' _ _ _ _ (by simp) : Blk (w.alloc (Obj.cells #[.bool v, .int .u64 (hi n), .int .u64 (lo n), .int .i64 b] 38)) (w.heap.size) 38 (PfxC v n b))).alloc _
  have hX : Blk ((w.alloc (Obj.cells #[.bool v, .int .u64 (hi n), .int .u64 (lo n), .int .i64 b] 38)).alloc (Obj.cells #[.int .u64 0, .int .u64 0] 24)) (w.heap.size + 1) 24 #[.int .u64 0, .int .u64 0] := (Blk.new' _ _ _ _ (by simp) : Blk ((w.alloc (Obj.cells #[.bool v, .int .u64 (hi n), .int .u64 (lo n), .int .i64 b] 38)).alloc (Obj.cells #[.int .u64 0, .int .u64 0] 24)) (w.heap.size + 1) 24 #[.int .u64 0, .int .u64 0])
  have hbel : Below w.heap.size w ((w.alloc (Obj.cells #[.bool v, .int .u64 (hi n), .int .u64 (lo n), .int .i64 b] 38)).alloc (Obj.cells #[.int .u64 0, .int .u64 0] 24)) := bl_
  have hsz : ((w.alloc (Obj.cells #[.bool v, .int .u64 (hi n), .int .u64 (lo n), .int .i64 b] 38)).alloc (Obj.cells #[.int .u64 0, .int .u64 0] 24)).heap.size = w.heap.size + 1 + 1 := by simp
  generalize (w.alloc (Obj.cells #[.bool v, .int .u64 (hi n), .int .u64 (lo n), .int .i64 b] 38)).alloc (Obj.cells #[.int .u64 0, .int .u64 0] 24) = w0 at *
  have hbel0 : Below w.heap.size w w0.drew := bl_
  refine wp_region_held_drew (S := fun w' => (w'.cell? ⟨w.heap.size, 0, none⟩ = some (.bool v) ∧ w'.cell? ⟨w.heap.size, 1, none⟩ = some (.int .u64 (hi n)) ∧ w'.cell? ⟨w.heap.size, 2, none⟩ = some (.int .u64 (lo n)) ∧ w'.cell? ⟨w.heap.size, 3, none⟩ = some (.int .i64 b) ∧ Blk w' w.heap.size 38 (PfxC v n b)) ∧ (∃ x y, Blk w' (w.heap.size + 1) 24 #[x, y]) ∧ Below w.heap.size w w') (by kernel_rfl) ?_ (fun hHeld => ?_)
  · first | exact ⟨blk_pfx bk_, ⟨_, _, bk_⟩, bl_⟩ | exact ⟨blk_pfx (hHeld.1.2.2.2.2.after (by assumption)), ⟨_, _, hHeld.2.1.choose_spec.choose_spec.after (by assumption)⟩, bl_trans hHeld.2.2 (by assumption)⟩
  refine take_q (i := 0) (v := ?_) rfl (by kernel_rfl) (by kernel_rfl) (by kernel_rfl) (fun _ _ _ h => h) (Or.inl ⟨by rfl, ?_⟩) (by assumption) ?_
  rotate_left
  · intro w hSw; (try dsimp only at hSw); go_simp; (try simp only [HDEC.out]); (try simp only [HDEC2.out]); try with_reducible rfl
  try simp only [Act.put, List.setIfInBounds_toArray, List.set_cons_zero, List.set_cons_succ]
  refine take_q (i := 1) (v := ?_) rfl (by kernel_rfl) (by kernel_rfl) (by kernel_rfl) (fun _ _ _ h => h) (Or.inl ⟨by rfl, ?_⟩) (by assumption) ?_
  rotate_left
  · intro w hSw; (try dsimp only at hSw); go_simp; (try simp only [HDEC.out]); (try simp only [HDEC2.out]); try with_reducible rfl
  try simp only [Act.put, List.setIfInBounds_toArray, List.set_cons_zero, List.set_cons_succ]
  refine take_q (i := 3) (v := ?_) rfl (by kernel_rfl) (by kernel_rfl) (by kernel_rfl) (fun _ _ _ h => h) (Or.inl ⟨by rfl, ?_⟩) (by assumption) ?_
  rotate_left
  · intro w hSw; (try dsimp only at hSw); go_simp; (try simp only [HDEC.out]); (try simp only [HDEC2.out]); try with_reducible rfl
  try simp only [Act.put, List.setIfInBounds_toArray, List.set_cons_zero, List.set_cons_succ]
  refine take_q (i := 4) (v := ?_) rfl (by kernel_rfl) (by kernel_rfl) (by kernel_rfl) (fun _ _ _ h => h) (Or.inl ⟨by rfl, ?_⟩) (by assumption) ?_
  rotate_left
  · intro w hSw; (try dsimp only at hSw); go_simp; (try simp only [HDEC.out]); (try simp only [HDEC2.out]); try with_reducible rfl
  try simp only [Act.put, List.setIfInBounds_toArray, List.set_cons_zero, List.set_cons_succ]
  refine wpAnyH_ready (rs := [2]) (by kernel_rfl) (by simp) ?_
  refine cons_q rfl (fun K hK => ?_) AllReadyH.nil
  go_simp
  with_reducible refine (HW.out _).mono ?_; rintro e w2 ⟨rfl, hb2⟩
  refine hK.out _ _ ?_ (fun hHeld => ?_)
  · first | exact ⟨blk_pfx bk_, ⟨_, _, bk_⟩, bl_⟩ | exact ⟨blk_pfx (hHeld.1.2.2.2.2.after (by assumption)), ⟨_, _, hHeld.2.1.choose_spec.choose_spec.after (by assumption)⟩, bl_trans hHeld.2.2 (by assumption)⟩
  clear hK K
  try simp only [Act.put, List.setIfInBounds_toArray, List.set_cons_zero, List.set_cons_succ]
  refine take_q (i := 5) (v := ?_) rfl (by kernel_rfl) (by kernel_rfl) (by kernel_rfl) (fun _ _ _ h => h) (Or.inl ⟨by rfl, ?_⟩) (by assumption) ?_
  rotate_left
  · intro w hSw; (try dsimp only at hSw); go_simp; (try simp only [HDEC.out]); (try simp only [HDEC2.out]); try with_reducible rfl
  try simp only [Act.put, List.setIfInBounds_toArray, List.set_cons_zero, List.set_cons_succ]
  refine wpAnyH_ready (rs := [6]) (by kernel_rfl) (by simp) ?_
  refine cons_q rfl (fun K hK => ?_) AllReadyH.nil
  go_simp
  with_reducible refine (HO.out _).mono ?_; rintro e w2 ⟨rfl, hb2⟩
  refine hK.out _ _ ?_ (fun hHeld => ?_)
  · first | exact ⟨blk_pfx bk_, ⟨_, _, bk_⟩, bl_⟩ | exact ⟨blk_pfx (hHeld.1.2.2.2.2.after (by assumption)), ⟨_, _, hHeld.2.1.choose_spec.choose_spec.after (by assumption)⟩, bl_trans hHeld.2.2 (by assumption)⟩
  clear hK K
  try simp only [Act.put, List.setIfInBounds_toArray, List.set_cons_zero, List.set_cons_succ]
  obtain ⟨hP, ⟨x, y, hX2⟩, hB⟩ := hHeld
  have x0 := hX2.cell 0
  have x1 := hX2.cell 1
  have z0 := hX2.frozen 0
  have z1 := hX2.frozen 1
  refine wpAnyH_ready (rs := [7]) (by kernel_rfl) (by simp) ?_
  refine cons_q rfl (fun K hK => ?_) AllReadyH.nil
  go_simp
  have hP5 := hP.2.2.2.2
  refine hK.out _ _ ?_ (fun hHeld2 => ?_)
  · exact ⟨blk_pfx bk_, ⟨_, _, (hX2.put 0 _).put 1 _⟩, bl_⟩
  clear hK K
  refine wpAnyH_done (by kernel_rfl) ?_ _
  go_wp2_with fail
  refine bodyPost_ret (v := .agg #[.int .u64 fh, .int .u64 fl]) (results_cell_row (t := 24) Tryz.results85 _ _ (w.heap.size + 1) _ (0, 0) _ rfl ((hX2.put 0 _).put 1 _) Tryz.underlying24 rfl (by kernel_rfl)) rfl ⟨rfl, bl_⟩
theorem and_nat {a b : Nat} :
    Value.agg #[.int .u64 (bits .and .u64 (hi a) (hi b)), .int .u64 (bits .and .u64 (lo a) (lo b))] = numV (a &&& b) := by
  have e64 : (18446744073709551616 : Nat) = 2 ^ 64 := by decide
  unfold numV hi lo
  rw [bits_and_u64_nat _ _ (Nat.mod_lt _ (by omega)) (Nat.mod_lt _ (by omega)), bits_and_u64_nat _ _ (Nat.mod_lt _ (by omega)) (Nat.mod_lt _ (by omega)), e64]
  rw [← Nat.and_mod_two_pow, ← Nat.and_mod_two_pow, ← Nat.shiftRight_eq_div_pow, ← Nat.shiftRight_eq_div_pow, ← Nat.shiftRight_and_distrib, Nat.shiftRight_eq_div_pow]
set_option maxRecDepth 100000 in
theorem andn_c (a b : Nat) (w : World) :
    Calls Tryz.prog 79 #[numV a, numV b] w fun e w' => e = .returned (numV (a &&& b)) ∧ Below w.heap.size w w' := by
  rw [← and_nat]
  unfold numV
  have hA := hi_nn a
  generalize hi a = ah, lo a = al, hi b = bh, lo b = bl at *
  go_enter Tryz.func79, Tryz.ntmps79
  go_wp2_with fail
  refine bodyPost_ret (v := .agg #[.int .u64 (bits .and .u64 ah bh), .int .u64 (bits .and .u64 al bl)]) (results_cell_row (t := 24) Tryz.results79 _ _ (w.heap.size + 1 + 1) _ (0, 0) _ rfl (Blk.new' _ _ _ _ (by simp)) Tryz.underlying24 rfl (by kernel_rfl)) rfl ⟨rfl, bl_⟩
set_option maxRecDepth 100000 in
set_option maxHeartbeats 1600000 in
theorem rightP_c (v : Bool) (n : Nat) (b : Int) (w : World) (hn : n < 340282366920938463463374607431768211456) :
    Calls Tryz.prog 36 #[PfxV v n b] w fun e w' => e = .returned (.bool (rightP v n b)) ∧ Below w.heap.size w w' := by
  have HR := Lib.hid (fun w => right_c v n w hn)
  have HW := Lib.hid (fun w => width_c v n w)
  have hcase : (rightB v n = false ∧ rightP v n b = false) ∨ (rightB v n = true ∧ ¬ 0 ≤ b ∧ rightP v n b = false) ∨ (rightB v n = true ∧ 0 ≤ b ∧ ¬ b ≤ (widthN v : Int) ∧ rightP v n b = false) ∨ (rightB v n = true ∧ 0 ≤ b ∧ b ≤ (widthN v : Int) ∧ rightP v n b = decide (n % 2 ^ fr v b = 0)) := by
    unfold rightP
    cases rightB v n
    · exact .inl ⟨rfl, rfl⟩
    · by_cases h0 : 0 ≤ b
      · by_cases h1 : b ≤ (widthN v : Int)
        · exact .inr (.inr (.inr ⟨rfl, h0, h1, by simp [h0, h1]⟩))
        · exact .inr (.inr (.inl ⟨rfl, h0, h1, by simp [h1]⟩))
      · exact .inr (.inl ⟨rfl, h0, by simp [h0]⟩)
  rcases hcase with ⟨hr, hp⟩ | ⟨hr, h0, hp⟩ | ⟨hr, h0, h1, hp⟩ | ⟨hr, h0, h1, hp⟩
  · rw [hr] at HR
    rw [hp]
    clear hp hr
    unfold PfxV PfxC
    simp only [AddrV_eq, AddrC] at HR HW
    generalize widthN v = wd at *
    go_enter Tryz.func36, Tryz.ntmps36
    go_wp2_with fail
    have hA : Blk (w.alloc (Obj.cells #[.bool v, .int .u64 (hi n), .int .u64 (lo n), .int .i64 b] 38)) (w.heap.size) 38 (PfxC v n b) := (Blk.new' _ _ _ _ (by simp) : Blk (w.alloc (Obj.cells #[.bool v, .int .u64 (hi n), .int .u64 (lo n), .int .i64 b] 38)) (w.heap.size) 38 (PfxC v n b))
    have hbel : Below w.heap.size w (w.alloc (Obj.cells #[.bool v, .int .u64 (hi n), .int .u64 (lo n), .int .i64 b] 38)) := bl_
    have hsz : (w.alloc (Obj.cells #[.bool v, .int .u64 (hi n), .int .u64 (lo n), .int .i64 b] 38)).heap.size = w.heap.size + 1 := by simp
    generalize w.alloc (Obj.cells #[.bool v, .int .u64 (hi n), .int .u64 (lo n), .int .i64 b] 38) = w0 at *
    have hbel0 : Below w.heap.size w w0.drew := bl_
    refine wp_region_held_drew (S := fun w' => (w'.cell? ⟨w.heap.size, 0, none⟩ = some (.bool v) ∧ w'.cell? ⟨w.heap.size, 1, none⟩ = some (.int .u64 (hi n)) ∧ w'.cell? ⟨w.heap.size, 2, none⟩ = some (.int .u64 (lo n)) ∧ w'.cell? ⟨w.heap.size, 3, none⟩ = some (.int .i64 b) ∧ Blk w' w.heap.size 38 (PfxC v n b)) ∧ Below w.heap.size w w') (by kernel_rfl) ?_ (fun hHeld => ?_)
    · exact ⟨blk_pfx bk_, bl_⟩
    refine take_q (i := 0) (v := ?_) rfl (by kernel_rfl) (by kernel_rfl) (by kernel_rfl) (fun _ _ _ h => h) (Or.inl ⟨by rfl, ?_⟩) (by assumption) ?_
    rotate_left
    · intro w hSw; (try dsimp only at hSw); go_simp; (try simp only [HDEC.out]); (try simp only [HDEC2.out]); try with_reducible rfl
    try simp only [Act.put, List.setIfInBounds_toArray, List.set_cons_zero, List.set_cons_succ]
    refine take_q (i := 1) (v := ?_) rfl (by kernel_rfl) (by kernel_rfl) (by kernel_rfl) (fun _ _ _ h => h) (Or.inl ⟨by rfl, ?_⟩) (by assumption) ?_
    rotate_left
    · intro w hSw; (try dsimp only at hSw); go_simp; (try simp only [HDEC.out]); (try simp only [HDEC2.out]); try with_reducible rfl
    try simp only [Act.put, List.setIfInBounds_toArray, List.set_cons_zero, List.set_cons_succ]
    refine wpAnyH_ready (rs := [2]) (by kernel_rfl) (by simp) ?_
    refine cons_q rfl (fun K hK => ?_) AllReadyH.nil
    go_simp
    with_reducible refine (HR.out _).mono ?_; rintro e w1 ⟨rfl, hb1⟩
    refine hK.out _ _ ?_ (fun hHeld => ?_)
    · exact ⟨blk_pfx bk_, bl_⟩
    clear hK K
    try simp only [Act.put, List.setIfInBounds_toArray, List.set_cons_zero, List.set_cons_succ]
    refine take_q (i := 3) (v := ?_) rfl (by kernel_rfl) (by kernel_rfl) (by kernel_rfl) (fun _ _ _ h => h) (Or.inl ⟨by rfl, ?_⟩) (by assumption) ?_
    rotate_left
    · intro w hSw; (try dsimp only at hSw); go_simp; (try simp only [HDEC.out]); (try simp only [HDEC2.out]); try with_reducible rfl
    try simp only [Act.put, List.setIfInBounds_toArray, List.set_cons_zero, List.set_cons_succ]
    refine take_q (i := 4) (v := undef) rfl (by kernel_rfl) (by kernel_rfl) (by kernel_rfl) (fun _ _ _ h => h) (Or.inr ⟨by rfl, rfl⟩) (by assumption) ?_
    try simp only [Act.put, List.setIfInBounds_toArray, List.set_cons_zero, List.set_cons_succ]
    refine take_q (i := 5) (v := undef) rfl (by kernel_rfl) (by kernel_rfl) (by kernel_rfl) (fun _ _ _ h => h) (Or.inr ⟨by rfl, rfl⟩) (by assumption) ?_
    try simp only [Act.put, List.setIfInBounds_toArray, List.set_cons_zero, List.set_cons_succ]
    refine take_q (i := 6) (v := undef) rfl (by kernel_rfl) (by kernel_rfl) (by kernel_rfl) (fun _ _ _ h => h) (Or.inr ⟨by rfl, rfl⟩) (by assumption) ?_
    try simp only [Act.put, List.setIfInBounds_toArray, List.set_cons_zero, List.set_cons_succ]
    refine take_q (i := 7) (v := ?_) rfl (by kernel_rfl) (by kernel_rfl) (by kernel_rfl) (fun _ _ _ h => h) (Or.inl ⟨by rfl, ?_⟩) (by assumption) ?_
    rotate_left
    · intro w hSw; (try dsimp only at hSw); go_simp; (try simp only [HDEC.out]); (try simp only [HDEC2.out]); try with_reducible rfl
    try simp only [Act.put, List.setIfInBounds_toArray, List.set_cons_zero, List.set_cons_succ]
    refine take_q (i := 8) (v := ?_) rfl (by kernel_rfl) (by kernel_rfl) (by kernel_rfl) (fun _ _ _ h => h) (Or.inl ⟨by rfl, ?_⟩) (by assumption) ?_
    rotate_left
    · intro w hSw; (try dsimp only at hSw); go_simp; (try simp only [HDEC.out]); (try simp only [HDEC2.out]); try with_reducible rfl
    try simp only [Act.put, List.setIfInBounds_toArray, List.set_cons_zero, List.set_cons_succ]
    refine take_q (i := 9) (v := undef) rfl (by kernel_rfl) (by kernel_rfl) (by kernel_rfl) (fun _ _ _ h => h) (Or.inr ⟨by rfl, rfl⟩) (by assumption) ?_
    try simp only [Act.put, List.setIfInBounds_toArray, List.set_cons_zero, List.set_cons_succ]
    refine take_q (i := 10) (v := undef) rfl (by kernel_rfl) (by kernel_rfl) (by kernel_rfl) (fun _ _ _ h => h) (Or.inr ⟨by rfl, rfl⟩) (by assumption) ?_
    try simp only [Act.put, List.setIfInBounds_toArray, List.set_cons_zero, List.set_cons_succ]
    refine take_q (i := 11) (v := undef) rfl (by kernel_rfl) (by kernel_rfl) (by kernel_rfl) (fun _ _ _ h => h) (Or.inr ⟨by rfl, rfl⟩) (by assumption) ?_
    try simp only [Act.put, List.setIfInBounds_toArray, List.set_cons_zero, List.set_cons_succ]
    refine take_q (i := 12) (v := undef) rfl (by kernel_rfl) (by kernel_rfl) (by kernel_rfl) (fun _ _ _ h => h) (Or.inr ⟨by rfl, rfl⟩) (by assumption) ?_
    try simp only [Act.put, List.setIfInBounds_toArray, List.set_cons_zero, List.set_cons_succ]
    refine take_q (i := 13) (v := undef) rfl (by kernel_rfl) (by kernel_rfl) (by kernel_rfl) (fun _ _ _ h => h) (Or.inr ⟨by rfl, rfl⟩) (by assumption) ?_
    try simp only [Act.put, List.setIfInBounds_toArray, List.set_cons_zero, List.set_cons_succ]
    refine take_q (i := 14) (v := undef) rfl (by kernel_rfl) (by kernel_rfl) (by kernel_rfl) (fun _ _ _ h => h) (Or.inr ⟨by rfl, rfl⟩) (by assumption) ?_
    try simp only [Act.put, List.setIfInBounds_toArray, List.set_cons_zero, List.set_cons_succ]
    refine take_q (i := 15) (v := ?_) rfl (by kernel_rfl) (by kernel_rfl) (by kernel_rfl) (fun _ _ _ h => h) (Or.inl ⟨by rfl, ?_⟩) (by assumption) ?_
    rotate_left
    · intro w hSw; (try dsimp only at hSw); go_simp; (try simp only [HDEC.out]); (try simp only [HDEC2.out]); try with_reducible rfl
    try simp only [Act.put, List.setIfInBounds_toArray, List.set_cons_zero, List.set_cons_succ]
    refine take_q (i := 16) (v := ?_) rfl (by kernel_rfl) (by kernel_rfl) (by kernel_rfl) (fun _ _ _ h => h) (Or.inl ⟨by rfl, ?_⟩) (by assumption) ?_
    rotate_left
    · intro w hSw; (try dsimp only at hSw); go_simp; (try simp only [HDEC.out]); (try simp only [HDEC2.out]); try with_reducible rfl
    try simp only [Act.put, List.setIfInBounds_toArray, List.set_cons_zero, List.set_cons_succ]
    refine take_q (i := 17) (v := undef) rfl (by kernel_rfl) (by kernel_rfl) (by kernel_rfl) (fun _ _ _ h => h) (Or.inr ⟨by rfl, rfl⟩) (by assumption) ?_
    try simp only [Act.put, List.setIfInBounds_toArray, List.set_cons_zero, List.set_cons_succ]
    refine take_q (i := 18) (v := undef) rfl (by kernel_rfl) (by kernel_rfl) (by kernel_rfl) (fun _ _ _ h => h) (Or.inr ⟨by rfl, rfl⟩) (by assumption) ?_
    try simp only [Act.put, List.setIfInBounds_toArray, List.set_cons_zero, List.set_cons_succ]
    refine take_q (i := 19) (v := undef) rfl (by kernel_rfl) (by kernel_rfl) (by kernel_rfl) (fun _ _ _ h => h) (Or.inr ⟨by rfl, rfl⟩) (by assumption) ?_
    try simp only [Act.put, List.setIfInBounds_toArray, List.set_cons_zero, List.set_cons_succ]
    refine take_q (i := 20) (v := undef) rfl (by kernel_rfl) (by kernel_rfl) (by kernel_rfl) (fun _ _ _ h => h) (Or.inr ⟨by rfl, rfl⟩) (by assumption) ?_
    try simp only [Act.put, List.setIfInBounds_toArray, List.set_cons_zero, List.set_cons_succ]
    refine take_q (i := 21) (v := undef) rfl (by kernel_rfl) (by kernel_rfl) (by kernel_rfl) (fun _ _ _ h => h) (Or.inr ⟨by rfl, rfl⟩) (by assumption) ?_
    try simp only [Act.put, List.setIfInBounds_toArray, List.set_cons_zero, List.set_cons_succ]
    refine take_q (i := 22) (v := undef) rfl (by kernel_rfl) (by kernel_rfl) (by kernel_rfl) (fun _ _ _ h => h) (Or.inr ⟨by rfl, rfl⟩) (by assumption) ?_
    try simp only [Act.put, List.setIfInBounds_toArray, List.set_cons_zero, List.set_cons_succ]
    refine take_q (i := 23) (v := undef) rfl (by kernel_rfl) (by kernel_rfl) (by kernel_rfl) (fun _ _ _ h => h) (Or.inr ⟨by rfl, rfl⟩) (by assumption) ?_
    try simp only [Act.put, List.setIfInBounds_toArray, List.set_cons_zero, List.set_cons_succ]
    refine take_q (i := 24) (v := undef) rfl (by kernel_rfl) (by kernel_rfl) (by kernel_rfl) (fun _ _ _ h => h) (Or.inr ⟨by rfl, rfl⟩) (by assumption) ?_
    try simp only [Act.put, List.setIfInBounds_toArray, List.set_cons_zero, List.set_cons_succ]
    refine take_q (i := 25) (v := ?_) rfl (by kernel_rfl) (by kernel_rfl) (by kernel_rfl) (fun _ _ _ h => h) (Or.inl ⟨by rfl, ?_⟩) (by assumption) ?_
    rotate_left
    · intro w hSw; (try dsimp only at hSw); go_simp; (try simp only [HDEC.out]); (try simp only [HDEC2.out]); try with_reducible rfl
    try simp only [Act.put, List.setIfInBounds_toArray, List.set_cons_zero, List.set_cons_succ]
    refine take_q (i := 26) (v := ?_) rfl (by kernel_rfl) (by kernel_rfl) (by kernel_rfl) (fun _ _ _ h => h) (Or.inl ⟨by rfl, ?_⟩) (by assumption) ?_
    rotate_left
    · intro w hSw; (try dsimp only at hSw); go_simp; (try simp only [HDEC.out]); (try simp only [HDEC2.out]); try with_reducible rfl
    try simp only [Act.put, List.setIfInBounds_toArray, List.set_cons_zero, List.set_cons_succ]
    refine wpAnyH_done (by kernel_rfl) ?_ _
    go_wp2_with fail
    go_ret
    exact ⟨rfl, hHeld.2⟩
  · rw [hr] at HR
    rw [hp]
    clear hp hr
    unfold PfxV PfxC
    simp only [AddrV_eq, AddrC] at HR HW
    generalize widthN v = wd at *
    have HDEC := Lib.hid (show decide (0 ≤ b) = false by simp; omega)
    clear h0
    go_enter Tryz.func36, Tryz.ntmps36
    go_wp2_with fail
    have hA : Blk (w.alloc (Obj.cells #[.bool v, .int .u64 (hi n), .int .u64 (lo n), .int .i64 b] 38)) (w.heap.size) 38 (PfxC v n b) := (Blk.new' _ _ _ _ (by simp) : Blk (w.alloc (Obj.cells #[.bool v, .int .u64 (hi n), .int .u64 (lo n), .int .i64 b] 38)) (w.heap.size) 38 (PfxC v n b))
    have hbel : Below w.heap.size w (w.alloc (Obj.cells #[.bool v, .int .u64 (hi n), .int .u64 (lo n), .int .i64 b] 38)) := bl_
    have hsz : (w.alloc (Obj.cells #[.bool v, .int .u64 (hi n), .int .u64 (lo n), .int .i64 b] 38)).heap.size = w.heap.size + 1 := by simp
    generalize w.alloc (Obj.cells #[.bool v, .int .u64 (hi n), .int .u64 (lo n), .int .i64 b] 38) = w0 at *
    have hbel0 : Below w.heap.size w w0.drew := bl_
    refine wp_region_held_drew (S := fun w' => (w'.cell? ⟨w.heap.size, 0, none⟩ = some (.bool v) ∧ w'.cell? ⟨w.heap.size, 1, none⟩ = some (.int .u64 (hi n)) ∧ w'.cell? ⟨w.heap.size, 2, none⟩ = some (.int .u64 (lo n)) ∧ w'.cell? ⟨w.heap.size, 3, none⟩ = some (.int .i64 b) ∧ Blk w' w.heap.size 38 (PfxC v n b)) ∧ Below w.heap.size w w') (by kernel_rfl) ?_ (fun hHeld => ?_)
    · exact ⟨blk_pfx bk_, bl_⟩
    refine take_q (i := 0) (v := ?_) rfl (by kernel_rfl) (by kernel_rfl) (by kernel_rfl) (fun _ _ _ h => h) (Or.inl ⟨by rfl, ?_⟩) (by assumption) ?_
    rotate_left
    · intro w hSw; (try dsimp only at hSw); go_simp; (try simp only [HDEC.out]); (try simp only [HDEC2.out]); try with_reducible rfl
    try simp only [Act.put, List.setIfInBounds_toArray, List.set_cons_zero, List.set_cons_succ]
    refine take_q (i := 1) (v := ?_) rfl (by kernel_rfl) (by kernel_rfl) (by kernel_rfl) (fun _ _ _ h => h) (Or.inl ⟨by rfl, ?_⟩) (by assumption) ?_
    rotate_left
    · intro w hSw; (try dsimp only at hSw); go_simp; (try simp only [HDEC.out]); (try simp only [HDEC2.out]); try with_reducible rfl
    try simp only [Act.put, List.setIfInBounds_toArray, List.set_cons_zero, List.set_cons_succ]
    refine wpAnyH_ready (rs := [2]) (by kernel_rfl) (by simp) ?_
    refine cons_q rfl (fun K hK => ?_) AllReadyH.nil
    go_simp
    with_reducible refine (HR.out _).mono ?_; rintro e w1 ⟨rfl, hb1⟩
    refine hK.out _ _ ?_ (fun hHeld => ?_)
    · exact ⟨blk_pfx bk_, bl_⟩
    clear hK K
    try simp only [Act.put, List.setIfInBounds_toArray, List.set_cons_zero, List.set_cons_succ]
    refine take_q (i := 3) (v := ?_) rfl (by kernel_rfl) (by kernel_rfl) (by kernel_rfl) (fun _ _ _ h => h) (Or.inl ⟨by rfl, ?_⟩) (by assumption) ?_
    rotate_left
    · intro w hSw; (try dsimp only at hSw); go_simp; (try simp only [HDEC.out]); (try simp only [HDEC2.out]); try with_reducible rfl
    try simp only [Act.put, List.setIfInBounds_toArray, List.set_cons_zero, List.set_cons_succ]
    refine take_q (i := 4) (v := ?_) rfl (by kernel_rfl) (by kernel_rfl) (by kernel_rfl) (fun _ _ _ h => h) (Or.inl ⟨by rfl, ?_⟩) (by assumption) ?_
    rotate_left
    · intro w hSw; (try dsimp only at hSw); go_simp; (try simp only [HDEC.out]); (try simp only [HDEC2.out]); try with_reducible rfl
    try simp only [Act.put, List.setIfInBounds_toArray, List.set_cons_zero, List.set_cons_succ]
    refine take_q (i := 5) (v := ?_) rfl (by kernel_rfl) (by kernel_rfl) (by kernel_rfl) (fun _ _ _ h => h) (Or.inl ⟨by rfl, ?_⟩) (by assumption) ?_
    rotate_left
    · intro w hSw; (try dsimp only at hSw); go_simp; (try simp only [HDEC.out]); (try simp only [HDEC2.out]); try with_reducible rfl
    try simp only [Act.put, List.setIfInBounds_toArray, List.set_cons_zero, List.set_cons_succ]
    refine take_q (i := 6) (v := ?_) rfl (by kernel_rfl) (by kernel_rfl) (by kernel_rfl) (fun _ _ _ h => h) (Or.inl ⟨by rfl, ?_⟩) (by assumption) ?_
    rotate_left
    · intro w hSw; (try dsimp only at hSw); go_simp; (try simp only [HDEC.out]); (try simp only [HDEC2.out]); try with_reducible rfl
    try simp only [Act.put, List.setIfInBounds_toArray, List.set_cons_zero, List.set_cons_succ]
    refine take_q (i := 7) (v := ?_) rfl (by kernel_rfl) (by kernel_rfl) (by kernel_rfl) (fun _ _ _ h => h) (Or.inl ⟨by rfl, ?_⟩) (by assumption) ?_
    rotate_left
    · intro w hSw; (try dsimp only at hSw); go_simp; (try simp only [HDEC.out]); (try simp only [HDEC2.out]); try with_reducible rfl
    try simp only [Act.put, List.setIfInBounds_toArray, List.set_cons_zero, List.set_cons_succ]
    refine take_q (i := 8) (v := ?_) rfl (by kernel_rfl) (by kernel_rfl) (by kernel_rfl) (fun _ _ _ h => h) (Or.inl ⟨by rfl, ?_⟩) (by assumption) ?_
    rotate_left
    · intro w hSw; (try dsimp only at hSw); go_simp; (try simp only [HDEC.out]); (try simp only [HDEC2.out]); try with_reducible rfl
    try simp only [Act.put, List.setIfInBounds_toArray, List.set_cons_zero, List.set_cons_succ]
    refine take_q (i := 9) (v := undef) rfl (by kernel_rfl) (by kernel_rfl) (by kernel_rfl) (fun _ _ _ h => h) (Or.inr ⟨by rfl, rfl⟩) (by assumption) ?_
    try simp only [Act.put, List.setIfInBounds_toArray, List.set_cons_zero, List.set_cons_succ]
    refine take_q (i := 10) (v := undef) rfl (by kernel_rfl) (by kernel_rfl) (by kernel_rfl) (fun _ _ _ h => h) (Or.inr ⟨by rfl, rfl⟩) (by assumption) ?_
    try simp only [Act.put, List.setIfInBounds_toArray, List.set_cons_zero, List.set_cons_succ]
    refine take_q (i := 11) (v := undef) rfl (by kernel_rfl) (by kernel_rfl) (by kernel_rfl) (fun _ _ _ h => h) (Or.inr ⟨by rfl, rfl⟩) (by assumption) ?_
    try simp only [Act.put, List.setIfInBounds_toArray, List.set_cons_zero, List.set_cons_succ]
    refine take_q (i := 12) (v := undef) rfl (by kernel_rfl) (by kernel_rfl) (by kernel_rfl) (fun _ _ _ h => h) (Or.inr ⟨by rfl, rfl⟩) (by assumption) ?_
    try simp only [Act.put, List.setIfInBounds_toArray, List.set_cons_zero, List.set_cons_succ]
    refine take_q (i := 13) (v := undef) rfl (by kernel_rfl) (by kernel_rfl) (by kernel_rfl) (fun _ _ _ h => h) (Or.inr ⟨by rfl, rfl⟩) (by assumption) ?_
    try simp only [Act.put, List.setIfInBounds_toArray, List.set_cons_zero, List.set_cons_succ]
    refine take_q (i := 14) (v := undef) rfl (by kernel_rfl) (by kernel_rfl) (by kernel_rfl) (fun _ _ _ h => h) (Or.inr ⟨by rfl, rfl⟩) (by assumption) ?_
    try simp only [Act.put, List.setIfInBounds_toArray, List.set_cons_zero, List.set_cons_succ]
    refine take_q (i := 15) (v := ?_) rfl (by kernel_rfl) (by kernel_rfl) (by kernel_rfl) (fun _ _ _ h => h) (Or.inl ⟨by rfl, ?_⟩) (by assumption) ?_
    rotate_left
    · intro w hSw; (try dsimp only at hSw); go_simp; (try simp only [HDEC.out]); (try simp only [HDEC2.out]); try with_reducible rfl
    try simp only [Act.put, List.setIfInBounds_toArray, List.set_cons_zero, List.set_cons_succ]
    refine take_q (i := 16) (v := ?_) rfl (by kernel_rfl) (by kernel_rfl) (by kernel_rfl) (fun _ _ _ h => h) (Or.inl ⟨by rfl, ?_⟩) (by assumption) ?_
    rotate_left
    · intro w hSw; (try dsimp only at hSw); go_simp; (try simp only [HDEC.out]); (try simp only [HDEC2.out]); try with_reducible rfl
    try simp only [Act.put, List.setIfInBounds_toArray, List.set_cons_zero, List.set_cons_succ]
    refine take_q (i := 17) (v := undef) rfl (by kernel_rfl) (by kernel_rfl) (by kernel_rfl) (fun _ _ _ h => h) (Or.inr ⟨by rfl, rfl⟩) (by assumption) ?_
    try simp only [Act.put, List.setIfInBounds_toArray, List.set_cons_zero, List.set_cons_succ]
    refine take_q (i := 18) (v := undef) rfl (by kernel_rfl) (by kernel_rfl) (by kernel_rfl) (fun _ _ _ h => h) (Or.inr ⟨by rfl, rfl⟩) (by assumption) ?_
    try simp only [Act.put, List.setIfInBounds_toArray, List.set_cons_zero, List.set_cons_succ]
    refine take_q (i := 19) (v := undef) rfl (by kernel_rfl) (by kernel_rfl) (by kernel_rfl) (fun _ _ _ h => h) (Or.inr ⟨by rfl, rfl⟩) (by assumption) ?_
    try simp only [Act.put, List.setIfInBounds_toArray, List.set_cons_zero, List.set_cons_succ]
    refine take_q (i := 20) (v := undef) rfl (by kernel_rfl) (by kernel_rfl) (by kernel_rfl) (fun _ _ _ h => h) (Or.inr ⟨by rfl, rfl⟩) (by assumption) ?_
    try simp only [Act.put, List.setIfInBounds_toArray, List.set_cons_zero, List.set_cons_succ]
    refine take_q (i := 21) (v := undef) rfl (by kernel_rfl) (by kernel_rfl) (by kernel_rfl) (fun _ _ _ h => h) (Or.inr ⟨by rfl, rfl⟩) (by assumption) ?_
    try simp only [Act.put, List.setIfInBounds_toArray, List.set_cons_zero, List.set_cons_succ]
    refine take_q (i := 22) (v := undef) rfl (by kernel_rfl) (by kernel_rfl) (by kernel_rfl) (fun _ _ _ h => h) (Or.inr ⟨by rfl, rfl⟩) (by assumption) ?_
    try simp only [Act.put, List.setIfInBounds_toArray, List.set_cons_zero, List.set_cons_succ]
    refine take_q (i := 23) (v := undef) rfl (by kernel_rfl) (by kernel_rfl) (by kernel_rfl) (fun _ _ _ h => h) (Or.inr ⟨by rfl, rfl⟩) (by assumption) ?_
    try simp only [Act.put, List.setIfInBounds_toArray, List.set_cons_zero, List.set_cons_succ]
    refine take_q (i := 24) (v := undef) rfl (by kernel_rfl) (by kernel_rfl) (by kernel_rfl) (fun _ _ _ h => h) (Or.inr ⟨by rfl, rfl⟩) (by assumption) ?_
    try simp only [Act.put, List.setIfInBounds_toArray, List.set_cons_zero, List.set_cons_succ]
    refine take_q (i := 25) (v := ?_) rfl (by kernel_rfl) (by kernel_rfl) (by kernel_rfl) (fun _ _ _ h => h) (Or.inl ⟨by rfl, ?_⟩) (by assumption) ?_
    rotate_left
    · intro w hSw; (try dsimp only at hSw); go_simp; (try simp only [HDEC.out]); (try simp only [HDEC2.out]); try with_reducible rfl
    try simp only [Act.put, List.setIfInBounds_toArray, List.set_cons_zero, List.set_cons_succ]
    refine take_q (i := 26) (v := ?_) rfl (by kernel_rfl) (by kernel_rfl) (by kernel_rfl) (fun _ _ _ h => h) (Or.inl ⟨by rfl, ?_⟩) (by assumption) ?_
    rotate_left
    · intro w hSw; (try dsimp only at hSw); go_simp; (try simp only [HDEC.out]); (try simp only [HDEC2.out]); try with_reducible rfl
    try simp only [Act.put, List.setIfInBounds_toArray, List.set_cons_zero, List.set_cons_succ]
    refine wpAnyH_done (by kernel_rfl) ?_ _
    go_wp2_with fail
    go_ret
    exact ⟨rfl, hHeld.2⟩
  · rw [hr] at HR
    rw [hp]
    clear hp hr
    unfold PfxV PfxC
    simp only [AddrV_eq, AddrC] at HR HW
    generalize widthN v = wd at *
    have HDEC := Lib.hid (show decide (0 ≤ b) = true by simp; omega)
    have HDEC2 := Lib.hid (show decide (b ≤ (wd : Int)) = false by simp; omega)
    clear h0 h1
    go_enter Tryz.func36, Tryz.ntmps36
    go_wp2_with fail
    have hA : Blk (w.alloc (Obj.cells #[.bool v, .int .u64 (hi n), .int .u64 (lo n), .int .i64 b] 38)) (w.heap.size) 38 (PfxC v n b) := (Blk.new' _ _ _ _ (by simp) : Blk (w.alloc (Obj.cells #[.bool v, .int .u64 (hi n), .int .u64 (lo n), .int .i64 b] 38)) (w.heap.size) 38 (PfxC v n b))
    have hbel : Below w.heap.size w (w.alloc (Obj.cells #[.bool v, .int .u64 (hi n), .int .u64 (lo n), .int .i64 b] 38)) := bl_
    have hsz : (w.alloc (Obj.cells #[.bool v, .int .u64 (hi n), .int .u64 (lo n), .int .i64 b] 38)).heap.size = w.heap.size + 1 := by simp
    generalize w.alloc (Obj.cells #[.bool v, .int .u64 (hi n), .int .u64 (lo n), .int .i64 b] 38) = w0 at *
    have hbel0 : Below w.heap.size w w0.drew := bl_
    refine wp_region_held_drew (S := fun w' => (w'.cell? ⟨w.heap.size, 0, none⟩ = some (.bool v) ∧ w'.cell? ⟨w.heap.size, 1, none⟩ = some (.int .u64 (hi n)) ∧ w'.cell? ⟨w.heap.size, 2, none⟩ = some (.int .u64 (lo n)) ∧ w'.cell? ⟨w.heap.size, 3, none⟩ = some (.int .i64 b) ∧ Blk w' w.heap.size 38 (PfxC v n b)) ∧ Below w.heap.size w w') (by kernel_rfl) ?_ (fun hHeld => ?_)
    · exact ⟨blk_pfx bk_, bl_⟩
    refine take_q (i := 0) (v := ?_) rfl (by kernel_rfl) (by kernel_rfl) (by kernel_rfl) (fun _ _ _ h => h) (Or.inl ⟨by rfl, ?_⟩) (by assumption) ?_
    rotate_left
    · intro w hSw; (try dsimp only at hSw); go_simp; (try simp only [HDEC.out]); (try simp only [HDEC2.out]); try with_reducible rfl
    try simp only [Act.put, List.setIfInBounds_toArray, List.set_cons_zero, List.set_cons_succ]
    refine take_q (i := 1) (v := ?_) rfl (by kernel_rfl) (by kernel_rfl) (by kernel_rfl) (fun _ _ _ h => h) (Or.inl ⟨by rfl, ?_⟩) (by assumption) ?_
    rotate_left
    · intro w hSw; (try dsimp only at hSw); go_simp; (try simp only [HDEC.out]); (try simp only [HDEC2.out]); try with_reducible rfl
    try simp only [Act.put, List.setIfInBounds_toArray, List.set_cons_zero, List.set_cons_succ]
    refine wpAnyH_ready (rs := [2]) (by kernel_rfl) (by simp) ?_
    refine cons_q rfl (fun K hK => ?_) AllReadyH.nil
    go_simp
    with_reducible refine (HR.out _).mono ?_; rintro e w1 ⟨rfl, hb1⟩
    refine hK.out _ _ ?_ (fun hHeld => ?_)
    · exact ⟨blk_pfx bk_, bl_⟩
    clear hK K
    try simp only [Act.put, List.setIfInBounds_toArray, List.set_cons_zero, List.set_cons_succ]
    refine take_q (i := 3) (v := ?_) rfl (by kernel_rfl) (by kernel_rfl) (by kernel_rfl) (fun _ _ _ h => h) (Or.inl ⟨by rfl, ?_⟩) (by assumption) ?_
    rotate_left
    · intro w hSw; (try dsimp only at hSw); go_simp; (try simp only [HDEC.out]); (try simp only [HDEC2.out]); try with_reducible rfl
    try simp only [Act.put, List.setIfInBounds_toArray, List.set_cons_zero, List.set_cons_succ]
    refine take_q (i := 4) (v := ?_) rfl (by kernel_rfl) (by kernel_rfl) (by kernel_rfl) (fun _ _ _ h => h) (Or.inl ⟨by rfl, ?_⟩) (by assumption) ?_
    rotate_left
    · intro w hSw; (try dsimp only at hSw); go_simp; (try simp only [HDEC.out]); (try simp only [HDEC2.out]); try with_reducible rfl
    try simp only [Act.put, List.setIfInBounds_toArray, List.set_cons_zero, List.set_cons_succ]
    refine take_q (i := 5) (v := ?_) rfl (by kernel_rfl) (by kernel_rfl) (by kernel_rfl) (fun _ _ _ h => h) (Or.inl ⟨by rfl, ?_⟩) (by assumption) ?_
    rotate_left
    · intro w hSw; (try dsimp only at hSw); go_simp; (try simp only [HDEC.out]); (try simp only [HDEC2.out]); try with_reducible rfl
    try simp only [Act.put, List.setIfInBounds_toArray, List.set_cons_zero, List.set_cons_succ]
    refine take_q (i := 6) (v := ?_) rfl (by kernel_rfl) (by kernel_rfl) (by kernel_rfl) (fun _ _ _ h => h) (Or.inl ⟨by rfl, ?_⟩) (by assumption) ?_
    rotate_left
    · intro w hSw; (try dsimp only at hSw); go_simp; (try simp only [HDEC.out]); (try simp only [HDEC2.out]); try with_reducible rfl
    try simp only [Act.put, List.setIfInBounds_toArray, List.set_cons_zero, List.set_cons_succ]
    refine take_q (i := 7) (v := ?_) rfl (by kernel_rfl) (by kernel_rfl) (by kernel_rfl) (fun _ _ _ h => h) (Or.inl ⟨by rfl, ?_⟩) (by assumption) ?_
    rotate_left
    · intro w hSw; (try dsimp only at hSw); go_simp; (try simp only [HDEC.out]); (try simp only [HDEC2.out]); try with_reducible rfl
    try simp only [Act.put, List.setIfInBounds_toArray, List.set_cons_zero, List.set_cons_succ]
    refine take_q (i := 8) (v := ?_) rfl (by kernel_rfl) (by kernel_rfl) (by kernel_rfl) (fun _ _ _ h => h) (Or.inl ⟨by rfl, ?_⟩) (by assumption) ?_
    rotate_left
    · intro w hSw; (try dsimp only at hSw); go_simp; (try simp only [HDEC.out]); (try simp only [HDEC2.out]); try with_reducible rfl
    try simp only [Act.put, List.setIfInBounds_toArray, List.set_cons_zero, List.set_cons_succ]
    refine take_q (i := 9) (v := ?_) rfl (by kernel_rfl) (by kernel_rfl) (by kernel_rfl) (fun _ _ _ h => h) (Or.inl ⟨by rfl, ?_⟩) (by assumption) ?_
    rotate_left
    · intro w hSw; (try dsimp only at hSw); go_simp; (try simp only [HDEC.out]); (try simp only [HDEC2.out]); try with_reducible rfl
    try simp only [Act.put, List.setIfInBounds_toArray, List.set_cons_zero, List.set_cons_succ]
    refine take_q (i := 10) (v := ?_) rfl (by kernel_rfl) (by kernel_rfl) (by kernel_rfl) (fun _ _ _ h => h) (Or.inl ⟨by rfl, ?_⟩) (by assumption) ?_
    rotate_left
    · intro w hSw; (try dsimp only at hSw); go_simp; (try simp only [HDEC.out]); (try simp only [HDEC2.out]); try with_reducible rfl
    try simp only [Act.put, List.setIfInBounds_toArray, List.set_cons_zero, List.set_cons_succ]
    refine take_q (i := 11) (v := ?_) rfl (by kernel_rfl) (by kernel_rfl) (by kernel_rfl) (fun _ _ _ h => h) (Or.inl ⟨by rfl, ?_⟩) (by assumption) ?_
    rotate_left
    · intro w hSw; (try dsimp only at hSw); go_simp; (try simp only [HDEC.out]); (try simp only [HDEC2.out]); try with_reducible rfl
    try simp only [Act.put, List.setIfInBounds_toArray, List.set_cons_zero, List.set_cons_succ]
    refine take_q (i := 12) (v := ?_) rfl (by kernel_rfl) (by kernel_rfl) (by kernel_rfl) (fun _ _ _ h => h) (Or.inl ⟨by rfl, ?_⟩) (by assumption) ?_
    rotate_left
    · intro w hSw; (try dsimp only at hSw); go_simp; (try simp only [HDEC.out]); (try simp only [HDEC2.out]); try with_reducible rfl
    try simp only [Act.put, List.setIfInBounds_toArray, List.set_cons_zero, List.set_cons_succ]
    refine wpAnyH_ready (rs := [13]) (by kernel_rfl) (by simp) ?_
    refine cons_q rfl (fun K hK => ?_) AllReadyH.nil
    go_simp
    with_reducible refine (HW.out _).mono ?_; rintro e w2 ⟨rfl, hb2⟩
    refine hK.out _ _ ?_ (fun hHeld => ?_)
    · exact ⟨blk_pfx bk_, bl_⟩
    clear hK K
    try simp only [Act.put, List.setIfInBounds_toArray, List.set_cons_zero, List.set_cons_succ]
    refine take_q (i := 14) (v := ?_) rfl (by kernel_rfl) (by kernel_rfl) (by kernel_rfl) (fun _ _ _ h => h) (Or.inl ⟨by rfl, ?_⟩) (by assumption) ?_
    rotate_left
    · intro w hSw; (try dsimp only at hSw); go_simp; (try simp only [HDEC.out]); (try simp only [HDEC2.out]); try with_reducible rfl
    try simp only [Act.put, List.setIfInBounds_toArray, List.set_cons_zero, List.set_cons_succ]
    refine take_q (i := 15) (v := ?_) rfl (by kernel_rfl) (by kernel_rfl) (by kernel_rfl) (fun _ _ _ h => h) (Or.inl ⟨by rfl, ?_⟩) (by assumption) ?_
    rotate_left
    · intro w hSw; (try dsimp only at hSw); go_simp; (try simp only [HDEC.out]); (try simp only [HDEC2.out]); try with_reducible rfl
    try simp only [Act.put, List.setIfInBounds_toArray, List.set_cons_zero, List.set_cons_succ]
    refine take_q (i := 16) (v := ?_) rfl (by kernel_rfl) (by kernel_rfl) (by kernel_rfl) (fun _ _ _ h => h) (Or.inl ⟨by rfl, ?_⟩) (by assumption) ?_
    rotate_left
    · intro w hSw; (try dsimp only at hSw); go_simp; (try simp only [HDEC.out]); (try simp only [HDEC2.out]); try with_reducible rfl
    try simp only [Act.put, List.setIfInBounds_toArray, List.set_cons_zero, List.set_cons_succ]
    refine take_q (i := 17) (v := undef) rfl (by kernel_rfl) (by kernel_rfl) (by kernel_rfl) (fun _ _ _ h => h) (Or.inr ⟨by rfl, rfl⟩) (by assumption) ?_
    try simp only [Act.put, List.setIfInBounds_toArray, List.set_cons_zero, List.set_cons_succ]
    refine take_q (i := 18) (v := undef) rfl (by kernel_rfl) (by kernel_rfl) (by kernel_rfl) (fun _ _ _ h => h) (Or.inr ⟨by rfl, rfl⟩) (by assumption) ?_
    try simp only [Act.put, List.setIfInBounds_toArray, List.set_cons_zero, List.set_cons_succ]
    refine take_q (i := 19) (v := undef) rfl (by kernel_rfl) (by kernel_rfl) (by kernel_rfl) (fun _ _ _ h => h) (Or.inr ⟨by rfl, rfl⟩) (by assumption) ?_
    try simp only [Act.put, List.setIfInBounds_toArray, List.set_cons_zero, List.set_cons_succ]
    refine take_q (i := 20) (v := undef) rfl (by kernel_rfl) (by kernel_rfl) (by kernel_rfl) (fun _ _ _ h => h) (Or.inr ⟨by rfl, rfl⟩) (by assumption) ?_
    try simp only [Act.put, List.setIfInBounds_toArray, List.set_cons_zero, List.set_cons_succ]
    refine take_q (i := 21) (v := undef) rfl (by kernel_rfl) (by kernel_rfl) (by kernel_rfl) (fun _ _ _ h => h) (Or.inr ⟨by rfl, rfl⟩) (by assumption) ?_
    try simp only [Act.put, List.setIfInBounds_toArray, List.set_cons_zero, List.set_cons_succ]
    refine take_q (i := 22) (v := undef) rfl (by kernel_rfl) (by kernel_rfl) (by kernel_rfl) (fun _ _ _ h => h) (Or.inr ⟨by rfl, rfl⟩) (by assumption) ?_
    try simp only [Act.put, List.setIfInBounds_toArray, List.set_cons_zero, List.set_cons_succ]
    refine take_q (i := 23) (v := undef) rfl (by kernel_rfl) (by kernel_rfl) (by kernel_rfl) (fun _ _ _ h => h) (Or.inr ⟨by rfl, rfl⟩) (by assumption) ?_
    try simp only [Act.put, List.setIfInBounds_toArray, List.set_cons_zero, List.set_cons_succ]
    refine take_q (i := 24) (v := undef) rfl (by kernel_rfl) (by kernel_rfl) (by kernel_rfl) (fun _ _ _ h => h) (Or.inr ⟨by rfl, rfl⟩) (by assumption) ?_
    try simp only [Act.put, List.setIfInBounds_toArray, List.set_cons_zero, List.set_cons_succ]
    refine take_q (i := 25) (v := ?_) rfl (by kernel_rfl) (by kernel_rfl) (by kernel_rfl) (fun _ _ _ h => h) (Or.inl ⟨by rfl, ?_⟩) (by assumption) ?_
    rotate_left
    · intro w hSw; (try dsimp only at hSw); go_simp; (try simp only [HDEC.out]); (try simp only [HDEC2.out]); try with_reducible rfl
    try simp only [Act.put, List.setIfInBounds_toArray, List.set_cons_zero, List.set_cons_succ]
    refine take_q (i := 26) (v := ?_) rfl (by kernel_rfl) (by kernel_rfl) (by kernel_rfl) (fun _ _ _ h => h) (Or.inl ⟨by rfl, ?_⟩) (by assumption) ?_
    rotate_left
    · intro w hSw; (try dsimp only at hSw); go_simp; (try simp only [HDEC.out]); (try simp only [HDEC2.out]); try with_reducible rfl
    try simp only [Act.put, List.setIfInBounds_toArray, List.set_cons_zero, List.set_cons_succ]
    refine wpAnyH_done (by kernel_rfl) ?_ _
    go_wp2_with fail
    go_ret
    exact ⟨rfl, hHeld.2⟩
  · rw [hr] at HR
    rw [hp]
    have HF := Lib.hid (fun w => free_c v n b w h0 h1)
    have HN := Lib.hid (fun w => andn_c n (2 ^ fr v b - 1) w)
    rw [and_ones] at HN
    have hx : n % 2 ^ fr v b < 340282366920938463463374607431768211456 := Nat.lt_of_le_of_lt (Nat.mod_le _ _) hn
    clear hp hr
    unfold PfxV PfxC at *
    unfold numV at *
    simp only [AddrV_eq, AddrC] at HR HW
    generalize 2 ^ fr v b - 1 = F at *
    generalize n % 2 ^ fr v b = X at *
    generalize widthN v = wd at *
    have hc : (X = 0) ∨ ((hi X == 0 && lo X == 0) = false ∧ ¬ X = 0) := by
      by_cases h : X = 0
      · exact .inl h
      · refine .inr ⟨?_, h⟩
        have h2 := num_hi_lo hx
        rw [Bool.and_eq_false_iff]
        by_cases e : hi X = 0
        · right
          have : lo X ≠ 0 := fun e2 => by rw [e, e2] at h2; exact h h2.symm
          simpa using this
        · left; simpa using e
    have HDEC := Lib.hid (show decide (0 ≤ b) = true by simp; omega)
    have HDEC2 := Lib.hid (show decide (b ≤ (wd : Int)) = true by simp; omega)
    clear h0 h1
    obtain ⟨ok, hok⟩ : ∃ ok : Bool, ok = decide (X = 0) := ⟨_, rfl⟩
    have hq : (hi X == 0 && lo X == 0) = ok := by
      rcases hc with rfl | ⟨hc, hX0⟩
      · rw [hok]; rfl
      · rw [hok, hc]; simp [hX0]
    rw [← hok]
    clear hc hok
    generalize hi X = xh at *
    generalize lo X = xl at *
    have h3 : (xh = 0 ∧ xl = 0 ∧ ok = true) ∨ (xh = 0 ∧ ¬ xl = 0 ∧ ok = false) ∨ (¬ xh = 0 ∧ ok = false) := by
      rw [← hq]
      by_cases e1 : xh = 0
      · by_cases e2 : xl = 0
        · exact .inl ⟨e1, e2, by simp [e1, e2]⟩
        · exact .inr (.inl ⟨e1, e2, by simp [e2]⟩)
      · exact .inr (.inr ⟨e1, by simp [e1]⟩)
    clear hq
    rcases h3 with ⟨rfl, rfl, rfl⟩ | ⟨rfl, h3, rfl⟩ | ⟨h3, rfl⟩
    · go_enter Tryz.func36, Tryz.ntmps36
      go_wp2_with fail
      have hA : Blk (w.alloc (Obj.cells #[.bool v, .int .u64 (hi n), .int .u64 (lo n), .int .i64 b] 38)) (w.heap.size) 38 (PfxC v n b) := (Blk.new' _ _ _ _ (by simp) : Blk (w.alloc (Obj.cells #[.bool v, .int .u64 (hi n), .int .u64 (lo n), .int .i64 b] 38)) (w.heap.size) 38 (PfxC v n b))
      have hbel : Below w.heap.size w (w.alloc (Obj.cells #[.bool v, .int .u64 (hi n), .int .u64 (lo n), .int .i64 b] 38)) := bl_
      have hsz : (w.alloc (Obj.cells #[.bool v, .int .u64 (hi n), .int .u64 (lo n), .int .i64 b] 38)).heap.size = w.heap.size + 1 := by simp
      generalize w.alloc (Obj.cells #[.bool v, .int .u64 (hi n), .int .u64 (lo n), .int .i64 b] 38) = w0 at *
      have hbel0 : Below w.heap.size w w0.drew := bl_
      refine wp_region_held_drew (S := fun w' => (w'.cell? ⟨w.heap.size, 0, none⟩ = some (.bool v) ∧ w'.cell? ⟨w.heap.size, 1, none⟩ = some (.int .u64 (hi n)) ∧ w'.cell? ⟨w.heap.size, 2, none⟩ = some (.int .u64 (lo n)) ∧ w'.cell? ⟨w.heap.size, 3, none⟩ = some (.int .i64 b) ∧ Blk w' w.heap.size 38 (PfxC v n b)) ∧ Below w.heap.size w w') (by kernel_rfl) ?_ (fun hHeld => ?_)
      · exact ⟨blk_pfx bk_, bl_⟩
      refine take_q (i := 0) (v := ?_) rfl (by kernel_rfl) (by kernel_rfl) (by kernel_rfl) (fun _ _ _ h => h) (Or.inl ⟨by rfl, ?_⟩) (by assumption) ?_
      rotate_left
      · intro w hSw; (try dsimp only at hSw); go_simp; (try simp only [HDEC.out]); (try simp only [HDEC2.out]); try with_reducible rfl
      try simp only [Act.put, List.setIfInBounds_toArray, List.set_cons_zero, List.set_cons_succ]
      refine take_q (i := 1) (v := ?_) rfl (by kernel_rfl) (by kernel_rfl) (by kernel_rfl) (fun _ _ _ h => h) (Or.inl ⟨by rfl, ?_⟩) (by assumption) ?_
      rotate_left
      · intro w hSw; (try dsimp only at hSw); go_simp; (try simp only [HDEC.out]); (try simp only [HDEC2.out]); try with_reducible rfl
      try simp only [Act.put, List.setIfInBounds_toArray, List.set_cons_zero, List.set_cons_succ]
      refine wpAnyH_ready (rs := [2]) (by kernel_rfl) (by simp) ?_
      refine cons_q rfl (fun K hK => ?_) AllReadyH.nil
      go_simp
      with_reducible refine (HR.out _).mono ?_; rintro e w1 ⟨rfl, hb1⟩
      refine hK.out _ _ ?_ (fun hHeld => ?_)
      · exact ⟨blk_pfx bk_, bl_⟩
      clear hK K
      try simp only [Act.put, List.setIfInBounds_toArray, List.set_cons_zero, List.set_cons_succ]
      refine take_q (i := 3) (v := ?_) rfl (by kernel_rfl) (by kernel_rfl) (by kernel_rfl) (fun _ _ _ h => h) (Or.inl ⟨by rfl, ?_⟩) (by assumption) ?_
      rotate_left
      · intro w hSw; (try dsimp only at hSw); go_simp; (try simp only [HDEC.out]); (try simp only [HDEC2.out]); try with_reducible rfl
      try simp only [Act.put, List.setIfInBounds_toArray, List.set_cons_zero, List.set_cons_succ]
      refine take_q (i := 4) (v := ?_) rfl (by kernel_rfl) (by kernel_rfl) (by kernel_rfl) (fun _ _ _ h => h) (Or.inl ⟨by rfl, ?_⟩) (by assumption) ?_
      rotate_left
      · intro w hSw; (try dsimp only at hSw); go_simp; (try simp only [HDEC.out]); (try simp only [HDEC2.out]); try with_reducible rfl
      try simp only [Act.put, List.setIfInBounds_toArray, List.set_cons_zero, List.set_cons_succ]
      refine take_q (i := 5) (v := ?_) rfl (by kernel_rfl) (by kernel_rfl) (by kernel_rfl) (fun _ _ _ h => h) (Or.inl ⟨by rfl, ?_⟩) (by assumption) ?_
      rotate_left
      · intro w hSw; (try dsimp only at hSw); go_simp; (try simp only [HDEC.out]); (try simp only [HDEC2.out]); try with_reducible rfl
      try simp only [Act.put, List.setIfInBounds_toArray, List.set_cons_zero, List.set_cons_succ]
      refine take_q (i := 6) (v := ?_) rfl (by kernel_rfl) (by kernel_rfl) (by kernel_rfl) (fun _ _ _ h => h) (Or.inl ⟨by rfl, ?_⟩) (by assumption) ?_
      rotate_left
      · intro w hSw; (try dsimp only at hSw); go_simp; (try simp only [HDEC.out]); (try simp only [HDEC2.out]); try with_reducible rfl
      try simp only [Act.put, List.setIfInBounds_toArray, List.set_cons_zero, List.set_cons_succ]
      refine take_q (i := 7) (v := ?_) rfl (by kernel_rfl) (by kernel_rfl) (by kernel_rfl) (fun _ _ _ h => h) (Or.inl ⟨by rfl, ?_⟩) (by assumption) ?_
      rotate_left
      · intro w hSw; (try dsimp only at hSw); go_simp; (try simp only [HDEC.out]); (try simp only [HDEC2.out]); try with_reducible rfl
      try simp only [Act.put, List.setIfInBounds_toArray, List.set_cons_zero, List.set_cons_succ]
      refine take_q (i := 8) (v := ?_) rfl (by kernel_rfl) (by kernel_rfl) (by kernel_rfl) (fun _ _ _ h => h) (Or.inl ⟨by rfl, ?_⟩) (by assumption) ?_
      rotate_left
      · intro w hSw; (try dsimp only at hSw); go_simp; (try simp only [HDEC.out]); (try simp only [HDEC2.out]); try with_reducible rfl
      try simp only [Act.put, List.setIfInBounds_toArray, List.set_cons_zero, List.set_cons_succ]
      refine take_q (i := 9) (v := ?_) rfl (by kernel_rfl) (by kernel_rfl) (by kernel_rfl) (fun _ _ _ h => h) (Or.inl ⟨by rfl, ?_⟩) (by assumption) ?_
      rotate_left
      · intro w hSw; (try dsimp only at hSw); go_simp; (try simp only [HDEC.out]); (try simp only [HDEC2.out]); try with_reducible rfl
      try simp only [Act.put, List.setIfInBounds_toArray, List.set_cons_zero, List.set_cons_succ]
      refine take_q (i := 10) (v := ?_) rfl (by kernel_rfl) (by kernel_rfl) (by kernel_rfl) (fun _ _ _ h => h) (Or.inl ⟨by rfl, ?_⟩) (by assumption) ?_
      rotate_left
      · intro w hSw; (try dsimp only at hSw); go_simp; (try simp only [HDEC.out]); (try simp only [HDEC2.out]); try with_reducible rfl
      try simp only [Act.put, List.setIfInBounds_toArray, List.set_cons_zero, List.set_cons_succ]
      refine take_q (i := 11) (v := ?_) rfl (by kernel_rfl) (by kernel_rfl) (by kernel_rfl) (fun _ _ _ h => h) (Or.inl ⟨by rfl, ?_⟩) (by assumption) ?_
      rotate_left
      · intro w hSw; (try dsimp only at hSw); go_simp; (try simp only [HDEC.out]); (try simp only [HDEC2.out]); try with_reducible rfl
      try simp only [Act.put, List.setIfInBounds_toArray, List.set_cons_zero, List.set_cons_succ]
      refine take_q (i := 12) (v := ?_) rfl (by kernel_rfl) (by kernel_rfl) (by kernel_rfl) (fun _ _ _ h => h) (Or.inl ⟨by rfl, ?_⟩) (by assumption) ?_
      rotate_left
      · intro w hSw; (try dsimp only at hSw); go_simp; (try simp only [HDEC.out]); (try simp only [HDEC2.out]); try with_reducible rfl
      try simp only [Act.put, List.setIfInBounds_toArray, List.set_cons_zero, List.set_cons_succ]
      refine wpAnyH_ready (rs := [13]) (by kernel_rfl) (by simp) ?_
      refine cons_q rfl (fun K hK => ?_) AllReadyH.nil
      go_simp
      with_reducible refine (HW.out _).mono ?_; rintro e w2 ⟨rfl, hb2⟩
      refine hK.out _ _ ?_ (fun hHeld => ?_)
      · exact ⟨blk_pfx bk_, bl_⟩
      clear hK K
      try simp only [Act.put, List.setIfInBounds_toArray, List.set_cons_zero, List.set_cons_succ]
      refine take_q (i := 14) (v := ?_) rfl (by kernel_rfl) (by kernel_rfl) (by kernel_rfl) (fun _ _ _ h => h) (Or.inl ⟨by rfl, ?_⟩) (by assumption) ?_
      rotate_left
      · intro w hSw; (try dsimp only at hSw); go_simp; (try simp only [HDEC.out]); (try simp only [HDEC2.out]); try with_reducible rfl
      try simp only [Act.put, List.setIfInBounds_toArray, List.set_cons_zero, List.set_cons_succ]
      refine take_q (i := 15) (v := ?_) rfl (by kernel_rfl) (by kernel_rfl) (by kernel_rfl) (fun _ _ _ h => h) (Or.inl ⟨by rfl, ?_⟩) (by assumption) ?_
      rotate_left
      · intro w hSw; (try dsimp only at hSw); go_simp; (try simp only [HDEC.out]); (try simp only [HDEC2.out]); try with_reducible rfl
      try simp only [Act.put, List.setIfInBounds_toArray, List.set_cons_zero, List.set_cons_succ]
      refine take_q (i := 16) (v := ?_) rfl (by kernel_rfl) (by kernel_rfl) (by kernel_rfl) (fun _ _ _ h => h) (Or.inl ⟨by rfl, ?_⟩) (by assumption) ?_
      rotate_left
      · intro w hSw; (try dsimp only at hSw); go_simp; (try simp only [HDEC.out]); (try simp only [HDEC2.out]); try with_reducible rfl
      try simp only [Act.put, List.setIfInBounds_toArray, List.set_cons_zero, List.set_cons_succ]
      refine take_q (i := 17) (v := ?_) rfl (by kernel_rfl) (by kernel_rfl) (by kernel_rfl) (fun _ _ _ h => h) (Or.inl ⟨by rfl, ?_⟩) (by assumption) ?_
      rotate_left
      · intro w hSw; (try dsimp only at hSw); go_simp; (try simp only [HDEC.out]); (try simp only [HDEC2.out]); try with_reducible rfl
      try simp only [Act.put, List.setIfInBounds_toArray, List.set_cons_zero, List.set_cons_succ]
      refine take_q (i := 18) (v := ?_) rfl (by kernel_rfl) (by kernel_rfl) (by kernel_rfl) (fun _ _ _ h => h) (Or.inl ⟨by rfl, ?_⟩) (by assumption) ?_
      rotate_left
      · intro w hSw; (try dsimp only at hSw); go_simp; (try simp only [HDEC.out]); (try simp only [HDEC2.out]); try with_reducible rfl
      try simp only [Act.put, List.setIfInBounds_toArray, List.set_cons_zero, List.set_cons_succ]
      refine take_q (i := 19) (v := ?_) rfl (by kernel_rfl) (by kernel_rfl) (by kernel_rfl) (fun _ _ _ h => h) (Or.inl ⟨by rfl, ?_⟩) (by assumption) ?_
      rotate_left
      · intro w hSw; (try dsimp only at hSw); go_simp; (try simp only [HDEC.out]); (try simp only [HDEC2.out]); try with_reducible rfl
      try simp only [Act.put, List.setIfInBounds_toArray, List.set_cons_zero, List.set_cons_succ]
      refine take_q (i := 20) (v := ?_) rfl (by kernel_rfl) (by kernel_rfl) (by kernel_rfl) (fun _ _ _ h => h) (Or.inl ⟨by rfl, ?_⟩) (by assumption) ?_
      rotate_left
      · intro w hSw; (try dsimp only at hSw); go_simp; (try simp only [HDEC.out]); (try simp only [HDEC2.out]); try with_reducible rfl
      try simp only [Act.put, List.setIfInBounds_toArray, List.set_cons_zero, List.set_cons_succ]
      refine take_q (i := 23) (v := ?_) rfl (by kernel_rfl) (by kernel_rfl) (by kernel_rfl) (fun _ _ _ h => h) (Or.inl ⟨by rfl, ?_⟩) (by assumption) ?_
      rotate_left
      · intro w hSw; (try dsimp only at hSw); go_simp; (try simp only [HDEC.out]); (try simp only [HDEC2.out]); try with_reducible rfl
      try simp only [Act.put, List.setIfInBounds_toArray, List.set_cons_zero, List.set_cons_succ]
      refine wpAnyH_ready (rs := [21]) (by kernel_rfl) (by simp) ?_
      refine cons_q rfl (fun K hK => ?_) AllReadyH.nil
      go_simp
      with_reducible refine (HF.out _).mono ?_; rintro e w3 ⟨rfl, hb3⟩
      refine hK.out _ _ ?_ (fun hHeld => ?_)
      · exact ⟨blk_pfx bk_, bl_⟩
      clear hK K
      try simp only [Act.put, List.setIfInBounds_toArray, List.set_cons_zero, List.set_cons_succ]
      refine wpAnyH_ready (rs := [22]) (by kernel_rfl) (by simp) ?_
      refine cons_q rfl (fun K hK => ?_) AllReadyH.nil
      go_simp
      with_reducible refine (HN.out _).mono ?_; rintro e w4 ⟨rfl, hb4⟩
      refine hK.out _ _ ?_ (fun hHeld => ?_)
      · exact ⟨blk_pfx bk_, bl_⟩
      clear hK K
      try simp only [Act.put, List.setIfInBounds_toArray, List.set_cons_zero, List.set_cons_succ]
      refine take_q (i := 24) (v := ?_) rfl (by kernel_rfl) (by kernel_rfl) (by kernel_rfl) (fun _ _ _ h => h) (Or.inl ⟨by rfl, ?_⟩) (by assumption) ?_
      rotate_left
      · intro w hSw; (try dsimp only at hSw); go_simp; (try simp only [HDEC.out]); (try simp only [HDEC2.out]); try with_reducible rfl
      try simp only [Act.put, List.setIfInBounds_toArray, List.set_cons_zero, List.set_cons_succ]
      refine take_q (i := 25) (v := ?_) rfl (by kernel_rfl) (by kernel_rfl) (by kernel_rfl) (fun _ _ _ h => h) (Or.inl ⟨by rfl, ?_⟩) (by assumption) ?_
      rotate_left
      · intro w hSw; (try dsimp only at hSw); go_simp; (try simp only [HDEC.out]); (try simp only [HDEC2.out]); try with_reducible rfl
      try simp only [Act.put, List.setIfInBounds_toArray, List.set_cons_zero, List.set_cons_succ]
      refine take_q (i := 26) (v := ?_) rfl (by kernel_rfl) (by kernel_rfl) (by kernel_rfl) (fun _ _ _ h => h) (Or.inl ⟨by rfl, ?_⟩) (by assumption) ?_
      rotate_left
      · intro w hSw; (try dsimp only at hSw); go_simp; (try simp only [HDEC.out]); (try simp only [HDEC2.out]); try with_reducible rfl
      try simp only [Act.put, List.setIfInBounds_toArray, List.set_cons_zero, List.set_cons_succ]
      refine wpAnyH_done (by kernel_rfl) ?_ _
      go_wp2_with fail
      go_ret
      exact ⟨rfl, hHeld.2⟩
    · go_enter Tryz.func36, Tryz.ntmps36
      go_wp2_with fail
      have hA : Blk (w.alloc (Obj.cells #[.bool v, .int .u64 (hi n), .int .u64 (lo n), .int .i64 b] 38)) (w.heap.size) 38 (PfxC v n b) := (Blk.new' _ _ _ _ (by simp) : Blk (w.alloc (Obj.cells #[.bool v, .int .u64 (hi n), .int .u64 (lo n), .int .i64 b] 38)) (w.heap.size) 38 (PfxC v n b))
      have hbel : Below w.heap.size w (w.alloc (Obj.cells #[.bool v, .int .u64 (hi n), .int .u64 (lo n), .int .i64 b] 38)) := bl_
      have hsz : (w.alloc (Obj.cells #[.bool v, .int .u64 (hi n), .int .u64 (lo n), .int .i64 b] 38)).heap.size = w.heap.size + 1 := by simp
      generalize w.alloc (Obj.cells #[.bool v, .int .u64 (hi n), .int .u64 (lo n), .int .i64 b] 38) = w0 at *
      have hbel0 : Below w.heap.size w w0.drew := bl_
      refine wp_region_held_drew (S := fun w' => (w'.cell? ⟨w.heap.size, 0, none⟩ = some (.bool v) ∧ w'.cell? ⟨w.heap.size, 1, none⟩ = some (.int .u64 (hi n)) ∧ w'.cell? ⟨w.heap.size, 2, none⟩ = some (.int .u64 (lo n)) ∧ w'.cell? ⟨w.heap.size, 3, none⟩ = some (.int .i64 b) ∧ Blk w' w.heap.size 38 (PfxC v n b)) ∧ Below w.heap.size w w') (by kernel_rfl) ?_ (fun hHeld => ?_)
      · exact ⟨blk_pfx bk_, bl_⟩
      refine take_q (i := 0) (v := ?_) rfl (by kernel_rfl) (by kernel_rfl) (by kernel_rfl) (fun _ _ _ h => h) (Or.inl ⟨by rfl, ?_⟩) (by assumption) ?_
      rotate_left
      · intro w hSw; (try dsimp only at hSw); go_simp; (try simp only [HDEC.out]); (try simp only [HDEC2.out]); try with_reducible rfl
      try simp only [Act.put, List.setIfInBounds_toArray, List.set_cons_zero, List.set_cons_succ]
      refine take_q (i := 1) (v := ?_) rfl (by kernel_rfl) (by kernel_rfl) (by kernel_rfl) (fun _ _ _ h => h) (Or.inl ⟨by rfl, ?_⟩) (by assumption) ?_
      rotate_left
      · intro w hSw; (try dsimp only at hSw); go_simp; (try simp only [HDEC.out]); (try simp only [HDEC2.out]); try with_reducible rfl
      try simp only [Act.put, List.setIfInBounds_toArray, List.set_cons_zero, List.set_cons_succ]
      refine wpAnyH_ready (rs := [2]) (by kernel_rfl) (by simp) ?_
      refine cons_q rfl (fun K hK => ?_) AllReadyH.nil
      go_simp
      with_reducible refine (HR.out _).mono ?_; rintro e w1 ⟨rfl, hb1⟩
      refine hK.out _ _ ?_ (fun hHeld => ?_)
      · exact ⟨blk_pfx bk_, bl_⟩
      clear hK K
      try simp only [Act.put, List.setIfInBounds_toArray, List.set_cons_zero, List.set_cons_succ]
      refine take_q (i := 3) (v := ?_) rfl (by kernel_rfl) (by kernel_rfl) (by kernel_rfl) (fun _ _ _ h => h) (Or.inl ⟨by rfl, ?_⟩) (by assumption) ?_
      rotate_left
      · intro w hSw; (try dsimp only at hSw); go_simp; (try simp only [HDEC.out]); (try simp only [HDEC2.out]); try with_reducible rfl
      try simp only [Act.put, List.setIfInBounds_toArray, List.set_cons_zero, List.set_cons_succ]
      refine take_q (i := 4) (v := ?_) rfl (by kernel_rfl) (by kernel_rfl) (by kernel_rfl) (fun _ _ _ h => h) (Or.inl ⟨by rfl, ?_⟩) (by assumption) ?_
      rotate_left
      · intro w hSw; (try dsimp only at hSw); go_simp; (try simp only [HDEC.out]); (try simp only [HDEC2.out]); try with_reducible rfl
      try simp only [Act.put, List.setIfInBounds_toArray, List.set_cons_zero, List.set_cons_succ]
      refine take_q (i := 5) (v := ?_) rfl (by kernel_rfl) (by kernel_rfl) (by kernel_rfl) (fun _ _ _ h => h) (Or.inl ⟨by rfl, ?_⟩) (by assumption) ?_
      rotate_left
      · intro w hSw; (try dsimp only at hSw); go_simp; (try simp only [HDEC.out]); (try simp only [HDEC2.out]); try with_reducible rfl
      try simp only [Act.put, List.setIfInBounds_toArray, List.set_cons_zero, List.set_cons_succ]
      refine take_q (i := 6) (v := ?_) rfl (by kernel_rfl) (by kernel_rfl) (by kernel_rfl) (fun _ _ _ h => h) (Or.inl ⟨by rfl, ?_⟩) (by assumption) ?_
      rotate_left
      · intro w hSw; (try dsimp only at hSw); go_simp; (try simp only [HDEC.out]); (try simp only [HDEC2.out]); try with_reducible rfl
      try simp only [Act.put, List.setIfInBounds_toArray, List.set_cons_zero, List.set_cons_succ]
      refine take_q (i := 7) (v := ?_) rfl (by kernel_rfl) (by kernel_rfl) (by kernel_rfl) (fun _ _ _ h => h) (Or.inl ⟨by rfl, ?_⟩) (by assumption) ?_
      rotate_left
      · intro w hSw; (try dsimp only at hSw); go_simp; (try simp only [HDEC.out]); (try simp only [HDEC2.out]); try with_reducible rfl
      try simp only [Act.put, List.setIfInBounds_toArray, List.set_cons_zero, List.set_cons_succ]
      refine take_q (i := 8) (v := ?_) rfl (by kernel_rfl) (by kernel_rfl) (by kernel_rfl) (fun _ _ _ h => h) (Or.inl ⟨by rfl, ?_⟩) (by assumption) ?_
      rotate_left
      · intro w hSw; (try dsimp only at hSw); go_simp; (try simp only [HDEC.out]); (try simp only [HDEC2.out]); try with_reducible rfl
      try simp only [Act.put, List.setIfInBounds_toArray, List.set_cons_zero, List.set_cons_succ]
      refine take_q (i := 9) (v := ?_) rfl (by kernel_rfl) (by kernel_rfl) (by kernel_rfl) (fun _ _ _ h => h) (Or.inl ⟨by rfl, ?_⟩) (by assumption) ?_
      rotate_left
      · intro w hSw; (try dsimp only at hSw); go_simp; (try simp only [HDEC.out]); (try simp only [HDEC2.out]); try with_reducible rfl
      try simp only [Act.put, List.setIfInBounds_toArray, List.set_cons_zero, List.set_cons_succ]
      refine take_q (i := 10) (v := ?_) rfl (by kernel_rfl) (by kernel_rfl) (by kernel_rfl) (fun _ _ _ h => h) (Or.inl ⟨by rfl, ?_⟩) (by assumption) ?_
      rotate_left
      · intro w hSw; (try dsimp only at hSw); go_simp; (try simp only [HDEC.out]); (try simp only [HDEC2.out]); try with_reducible rfl
      try simp only [Act.put, List.setIfInBounds_toArray, List.set_cons_zero, List.set_cons_succ]
      refine take_q (i := 11) (v := ?_) rfl (by kernel_rfl) (by kernel_rfl) (by kernel_rfl) (fun _ _ _ h => h) (Or.inl ⟨by rfl, ?_⟩) (by assumption) ?_
      rotate_left
      · intro w hSw; (try dsimp only at hSw); go_simp; (try simp only [HDEC.out]); (try simp only [HDEC2.out]); try with_reducible rfl
      try simp only [Act.put, List.setIfInBounds_toArray, List.set_cons_zero, List.set_cons_succ]
      refine take_q (i := 12) (v := ?_) rfl (by kernel_rfl) (by kernel_rfl) (by kernel_rfl) (fun _ _ _ h => h) (Or.inl ⟨by rfl, ?_⟩) (by assumption) ?_
      rotate_left
      · intro w hSw; (try dsimp only at hSw); go_simp; (try simp only [HDEC.out]); (try simp only [HDEC2.out]); try with_reducible rfl
      try simp only [Act.put, List.setIfInBounds_toArray, List.set_cons_zero, List.set_cons_succ]
      refine wpAnyH_ready (rs := [13]) (by kernel_rfl) (by simp) ?_
      refine cons_q rfl (fun K hK => ?_) AllReadyH.nil
      go_simp
      with_reducible refine (HW.out _).mono ?_; rintro e w2 ⟨rfl, hb2⟩
      refine hK.out _ _ ?_ (fun hHeld => ?_)
      · exact ⟨blk_pfx bk_, bl_⟩
      clear hK K
      try simp only [Act.put, List.setIfInBounds_toArray, List.set_cons_zero, List.set_cons_succ]
      refine take_q (i := 14) (v := ?_) rfl (by kernel_rfl) (by kernel_rfl) (by kernel_rfl) (fun _ _ _ h => h) (Or.inl ⟨by rfl, ?_⟩) (by assumption) ?_
      rotate_left
      · intro w hSw; (try dsimp only at hSw); go_simp; (try simp only [HDEC.out]); (try simp only [HDEC2.out]); try with_reducible rfl
      try simp only [Act.put, List.setIfInBounds_toArray, List.set_cons_zero, List.set_cons_succ]
      refine take_q (i := 15) (v := ?_) rfl (by kernel_rfl) (by kernel_rfl) (by kernel_rfl) (fun _ _ _ h => h) (Or.inl ⟨by rfl, ?_⟩) (by assumption) ?_
      rotate_left
      · intro w hSw; (try dsimp only at hSw); go_simp; (try simp only [HDEC.out]); (try simp only [HDEC2.out]); try with_reducible rfl
      try simp only [Act.put, List.setIfInBounds_toArray, List.set_cons_zero, List.set_cons_succ]
      refine take_q (i := 16) (v := ?_) rfl (by kernel_rfl) (by kernel_rfl) (by kernel_rfl) (fun _ _ _ h => h) (Or.inl ⟨by rfl, ?_⟩) (by assumption) ?_
      rotate_left
      · intro w hSw; (try dsimp only at hSw); go_simp; (try simp only [HDEC.out]); (try simp only [HDEC2.out]); try with_reducible rfl
      try simp only [Act.put, List.setIfInBounds_toArray, List.set_cons_zero, List.set_cons_succ]
      refine take_q (i := 17) (v := ?_) rfl (by kernel_rfl) (by kernel_rfl) (by kernel_rfl) (fun _ _ _ h => h) (Or.inl ⟨by rfl, ?_⟩) (by assumption) ?_
      rotate_left
      · intro w hSw; (try dsimp only at hSw); go_simp; (try simp only [HDEC.out]); (try simp only [HDEC2.out]); try with_reducible rfl
      try simp only [Act.put, List.setIfInBounds_toArray, List.set_cons_zero, List.set_cons_succ]
      refine take_q (i := 18) (v := ?_) rfl (by kernel_rfl) (by kernel_rfl) (by kernel_rfl) (fun _ _ _ h => h) (Or.inl ⟨by rfl, ?_⟩) (by assumption) ?_
      rotate_left
      · intro w hSw; (try dsimp only at hSw); go_simp; (try simp only [HDEC.out]); (try simp only [HDEC2.out]); try with_reducible rfl
      try simp only [Act.put, List.setIfInBounds_toArray, List.set_cons_zero, List.set_cons_succ]
      refine take_q (i := 19) (v := ?_) rfl (by kernel_rfl) (by kernel_rfl) (by kernel_rfl) (fun _ _ _ h => h) (Or.inl ⟨by rfl, ?_⟩) (by assumption) ?_
      rotate_left
      · intro w hSw; (try dsimp only at hSw); go_simp; (try simp only [HDEC.out]); (try simp only [HDEC2.out]); try with_reducible rfl
      try simp only [Act.put, List.setIfInBounds_toArray, List.set_cons_zero, List.set_cons_succ]
      refine take_q (i := 20) (v := ?_) rfl (by kernel_rfl) (by kernel_rfl) (by kernel_rfl) (fun _ _ _ h => h) (Or.inl ⟨by rfl, ?_⟩) (by assumption) ?_
      rotate_left
      · intro w hSw; (try dsimp only at hSw); go_simp; (try simp only [HDEC.out]); (try simp only [HDEC2.out]); try with_reducible rfl
      try simp only [Act.put, List.setIfInBounds_toArray, List.set_cons_zero, List.set_cons_succ]
      refine take_q (i := 23) (v := ?_) rfl (by kernel_rfl) (by kernel_rfl) (by kernel_rfl) (fun _ _ _ h => h) (Or.inl ⟨by rfl, ?_⟩) (by assumption) ?_
      rotate_left
      · intro w hSw; (try dsimp only at hSw); go_simp; (try simp only [HDEC.out]); (try simp only [HDEC2.out]); try with_reducible rfl
      try simp only [Act.put, List.setIfInBounds_toArray, List.set_cons_zero, List.set_cons_succ]
      refine wpAnyH_ready (rs := [21]) (by kernel_rfl) (by simp) ?_
      refine cons_q rfl (fun K hK => ?_) AllReadyH.nil
      go_simp
      with_reducible refine (HF.out _).mono ?_; rintro e w3 ⟨rfl, hb3⟩
      refine hK.out _ _ ?_ (fun hHeld => ?_)
      · exact ⟨blk_pfx bk_, bl_⟩
      clear hK K
      try simp only [Act.put, List.setIfInBounds_toArray, List.set_cons_zero, List.set_cons_succ]
      refine wpAnyH_ready (rs := [22]) (by kernel_rfl) (by simp) ?_
      refine cons_q rfl (fun K hK => ?_) AllReadyH.nil
      go_simp
      with_reducible refine (HN.out _).mono ?_; rintro e w4 ⟨rfl, hb4⟩
      refine hK.out _ _ ?_ (fun hHeld => ?_)
      · exact ⟨blk_pfx bk_, bl_⟩
      clear hK K
      try simp only [Act.put, List.setIfInBounds_toArray, List.set_cons_zero, List.set_cons_succ]
      refine take_q (i := 24) (v := ?_) rfl (by kernel_rfl) (by kernel_rfl) (by kernel_rfl) (fun _ _ _ h => h) (Or.inl ⟨by rfl, ?_⟩) (by assumption) ?_
      rotate_left
      · intro w hSw; (try dsimp only at hSw); go_simp; (try simp only [HDEC.out]); (try simp only [HDEC2.out]); try with_reducible rfl
      try simp only [Act.put, List.setIfInBounds_toArray, List.set_cons_zero, List.set_cons_succ]
      refine take_q (i := 25) (v := ?_) rfl (by kernel_rfl) (by kernel_rfl) (by kernel_rfl) (fun _ _ _ h => h) (Or.inl ⟨by rfl, ?_⟩) (by assumption) ?_
      rotate_left
      · intro w hSw; (try dsimp only at hSw); go_simp; (try simp only [HDEC.out]); (try simp only [HDEC2.out]); try with_reducible rfl
      try simp only [Act.put, List.setIfInBounds_toArray, List.set_cons_zero, List.set_cons_succ]
      refine take_q (i := 26) (v := ?_) rfl (by kernel_rfl) (by kernel_rfl) (by kernel_rfl) (fun _ _ _ h => h) (Or.inl ⟨by rfl, ?_⟩) (by assumption) ?_
      rotate_left
      · intro w hSw; (try dsimp only at hSw); go_simp; (try simp only [HDEC.out]); (try simp only [HDEC2.out]); try with_reducible rfl
      try simp only [Act.put, List.setIfInBounds_toArray, List.set_cons_zero, List.set_cons_succ]
      refine wpAnyH_done (by kernel_rfl) ?_ _
      go_wp2_with fail
      go_ret
      exact ⟨rfl, hHeld.2⟩
    · go_enter Tryz.func36, Tryz.ntmps36
      go_wp2_with fail
      have hA : Blk (w.alloc (Obj.cells #[.bool v, .int .u64 (hi n), .int .u64 (lo n), .int .i64 b] 38)) (w.heap.size) 38 (PfxC v n b) := (Blk.new' _ _ _ _ (by simp) : Blk (w.alloc (Obj.cells #[.bool v, .int .u64 (hi n), .int .u64 (lo n), .int .i64 b] 38)) (w.heap.size) 38 (PfxC v n b))
      have hbel : Below w.heap.size w (w.alloc (Obj.cells #[.bool v, .int .u64 (hi n), .int .u64 (lo n), .int .i64 b] 38)) := bl_
      have hsz : (w.alloc (Obj.cells #[.bool v, .int .u64 (hi n), .int .u64 (lo n), .int .i64 b] 38)).heap.size = w.heap.size + 1 := by simp
      generalize w.alloc (Obj.cells #[.bool v, .int .u64 (hi n), .int .u64 (lo n), .int .i64 b] 38) = w0 at *
      have hbel0 : Below w.heap.size w w0.drew := bl_
      refine wp_region_held_drew (S := fun w' => (w'.cell? ⟨w.heap.size, 0, none⟩ = some (.bool v) ∧ w'.cell? ⟨w.heap.size, 1, none⟩ = some (.int .u64 (hi n)) ∧ w'.cell? ⟨w.heap.size, 2, none⟩ = some (.int .u64 (lo n)) ∧ w'.cell? ⟨w.heap.size, 3, none⟩ = some (.int .i64 b) ∧ Blk w' w.heap.size 38 (PfxC v n b)) ∧ Below w.heap.size w w') (by kernel_rfl) ?_ (fun hHeld => ?_)
      · exact ⟨blk_pfx bk_, bl_⟩
      refine take_q (i := 0) (v := ?_) rfl (by kernel_rfl) (by kernel_rfl) (by kernel_rfl) (fun _ _ _ h => h) (Or.inl ⟨by rfl, ?_⟩) (by assumption) ?_
      rotate_left
      · intro w hSw; (try dsimp only at hSw); go_simp; (try simp only [HDEC.out]); (try simp only [HDEC2.out]); try with_reducible rfl
      try simp only [Act.put, List.setIfInBounds_toArray, List.set_cons_zero, List.set_cons_succ]
      refine take_q (i := 1) (v := ?_) rfl (by kernel_rfl) (by kernel_rfl) (by kernel_rfl) (fun _ _ _ h => h) (Or.inl ⟨by rfl, ?_⟩) (by assumption) ?_
      rotate_left
      · intro w hSw; (try dsimp only at hSw); go_simp; (try simp only [HDEC.out]); (try simp only [HDEC2.out]); try with_reducible rfl
      try simp only [Act.put, List.setIfInBounds_toArray, List.set_cons_zero, List.set_cons_succ]
      refine wpAnyH_ready (rs := [2]) (by kernel_rfl) (by simp) ?_
      refine cons_q rfl (fun K hK => ?_) AllReadyH.nil
      go_simp
      with_reducible refine (HR.out _).mono ?_; rintro e w1 ⟨rfl, hb1⟩
      refine hK.out _ _ ?_ (fun hHeld => ?_)
      · exact ⟨blk_pfx bk_, bl_⟩
      clear hK K
      try simp only [Act.put, List.setIfInBounds_toArray, List.set_cons_zero, List.set_cons_succ]
      refine take_q (i := 3) (v := ?_) rfl (by kernel_rfl) (by kernel_rfl) (by kernel_rfl) (fun _ _ _ h => h) (Or.inl ⟨by rfl, ?_⟩) (by assumption) ?_
      rotate_left
      · intro w hSw; (try dsimp only at hSw); go_simp; (try simp only [HDEC.out]); (try simp only [HDEC2.out]); try with_reducible rfl
      try simp only [Act.put, List.setIfInBounds_toArray, List.set_cons_zero, List.set_cons_succ]
      refine take_q (i := 4) (v := ?_) rfl (by kernel_rfl) (by kernel_rfl) (by kernel_rfl) (fun _ _ _ h => h) (Or.inl ⟨by rfl, ?_⟩) (by assumption) ?_
      rotate_left
      · intro w hSw; (try dsimp only at hSw); go_simp; (try simp only [HDEC.out]); (try simp only [HDEC2.out]); try with_reducible rfl
      try simp only [Act.put, List.setIfInBounds_toArray, List.set_cons_zero, List.set_cons_succ]
      refine take_q (i := 5) (v := ?_) rfl (by kernel_rfl) (by kernel_rfl) (by kernel_rfl) (fun _ _ _ h => h) (Or.inl ⟨by rfl, ?_⟩) (by assumption) ?_
      rotate_left
      · intro w hSw; (try dsimp only at hSw); go_simp; (try simp only [HDEC.out]); (try simp only [HDEC2.out]); try with_reducible rfl
      try simp only [Act.put, List.setIfInBounds_toArray, List.set_cons_zero, List.set_cons_succ]
      refine take_q (i := 6) (v := ?_) rfl (by kernel_rfl) (by kernel_rfl) (by kernel_rfl) (fun _ _ _ h => h) (Or.inl ⟨by rfl, ?_⟩) (by assumption) ?_
      rotate_left
      · intro w hSw; (try dsimp only at hSw); go_simp; (try simp only [HDEC.out]); (try simp only [HDEC2.out]); try with_reducible rfl
      try simp only [Act.put, List.setIfInBounds_toArray, List.set_cons_zero, List.set_cons_succ]
      refine take_q (i := 7) (v := ?_) rfl (by kernel_rfl) (by kernel_rfl) (by kernel_rfl) (fun _ _ _ h => h) (Or.inl ⟨by rfl, ?_⟩) (by assumption) ?_
      rotate_left
      · intro w hSw; (try dsimp only at hSw); go_simp; (try simp only [HDEC.out]); (try simp only [HDEC2.out]); try with_reducible rfl
      try simp only [Act.put, List.setIfInBounds_toArray, List.set_cons_zero, List.set_cons_succ]
      refine take_q (i := 8) (v := ?_) rfl (by kernel_rfl) (by kernel_rfl) (by kernel_rfl) (fun _ _ _ h => h) (Or.inl ⟨by rfl, ?_⟩) (by assumption) ?_
      rotate_left
      · intro w hSw; (try dsimp only at hSw); go_simp; (try simp only [HDEC.out]); (try simp only [HDEC2.out]); try with_reducible rfl
      try simp only [Act.put, List.setIfInBounds_toArray, List.set_cons_zero, List.set_cons_succ]
      refine take_q (i := 9) (v := ?_) rfl (by kernel_rfl) (by kernel_rfl) (by kernel_rfl) (fun _ _ _ h => h) (Or.inl ⟨by rfl, ?_⟩) (by assumption) ?_
      rotate_left
      · intro w hSw; (try dsimp only at hSw); go_simp; (try simp only [HDEC.out]); (try simp only [HDEC2.out]); try with_reducible rfl
      try simp only [Act.put, List.setIfInBounds_toArray, List.set_cons_zero, List.set_cons_succ]
      refine take_q (i := 10) (v := ?_) rfl (by kernel_rfl) (by kernel_rfl) (by kernel_rfl) (fun _ _ _ h => h) (Or.inl ⟨by rfl, ?_⟩) (by assumption) ?_
      rotate_left
      · intro w hSw; (try dsimp only at hSw); go_simp; (try simp only [HDEC.out]); (try simp only [HDEC2.out]); try with_reducible rfl
      try simp only [Act.put, List.setIfInBounds_toArray, List.set_cons_zero, List.set_cons_succ]
      refine take_q (i := 11) (v := ?_) rfl (by kernel_rfl) (by kernel_rfl) (by kernel_rfl) (fun _ _ _ h => h) (Or.inl ⟨by rfl, ?_⟩) (by assumption) ?_
      rotate_left
      · intro w hSw; (try dsimp only at hSw); go_simp; (try simp only [HDEC.out]); (try simp only [HDEC2.out]); try with_reducible rfl
      try simp only [Act.put, List.setIfInBounds_toArray, List.set_cons_zero, List.set_cons_succ]
      refine take_q (i := 12) (v := ?_) rfl (by kernel_rfl) (by kernel_rfl) (by kernel_rfl) (fun _ _ _ h => h) (Or.inl ⟨by rfl, ?_⟩) (by assumption) ?_
      rotate_left
      · intro w hSw; (try dsimp only at hSw); go_simp; (try simp only [HDEC.out]); (try simp only [HDEC2.out]); try with_reducible rfl
      try simp only [Act.put, List.setIfInBounds_toArray, List.set_cons_zero, List.set_cons_succ]
      refine wpAnyH_ready (rs := [13]) (by kernel_rfl) (by simp) ?_
      refine cons_q rfl (fun K hK => ?_) AllReadyH.nil
      go_simp
      with_reducible refine (HW.out _).mono ?_; rintro e w2 ⟨rfl, hb2⟩
      refine hK.out _ _ ?_ (fun hHeld => ?_)
      · exact ⟨blk_pfx bk_, bl_⟩
      clear hK K
      try simp only [Act.put, List.setIfInBounds_toArray, List.set_cons_zero, List.set_cons_succ]
      refine take_q (i := 14) (v := ?_) rfl (by kernel_rfl) (by kernel_rfl) (by kernel_rfl) (fun _ _ _ h => h) (Or.inl ⟨by rfl, ?_⟩) (by assumption) ?_
      rotate_left
      · intro w hSw; (try dsimp only at hSw); go_simp; (try simp only [HDEC.out]); (try simp only [HDEC2.out]); try with_reducible rfl
      try simp only [Act.put, List.setIfInBounds_toArray, List.set_cons_zero, List.set_cons_succ]
      refine take_q (i := 15) (v := ?_) rfl (by kernel_rfl) (by kernel_rfl) (by kernel_rfl) (fun _ _ _ h => h) (Or.inl ⟨by rfl, ?_⟩) (by assumption) ?_
      rotate_left
      · intro w hSw; (try dsimp only at hSw); go_simp; (try simp only [HDEC.out]); (try simp only [HDEC2.out]); try with_reducible rfl
      try simp only [Act.put, List.setIfInBounds_toArray, List.set_cons_zero, List.set_cons_succ]
      refine take_q (i := 16) (v := ?_) rfl (by kernel_rfl) (by kernel_rfl) (by kernel_rfl) (fun _ _ _ h => h) (Or.inl ⟨by rfl, ?_⟩) (by assumption) ?_
      rotate_left
      · intro w hSw; (try dsimp only at hSw); go_simp; (try simp only [HDEC.out]); (try simp only [HDEC2.out]); try with_reducible rfl
      try simp only [Act.put, List.setIfInBounds_toArray, List.set_cons_zero, List.set_cons_succ]
      refine take_q (i := 17) (v := ?_) rfl (by kernel_rfl) (by kernel_rfl) (by kernel_rfl) (fun _ _ _ h => h) (Or.inl ⟨by rfl, ?_⟩) (by assumption) ?_
      rotate_left
      · intro w hSw; (try dsimp only at hSw); go_simp; (try simp only [HDEC.out]); (try simp only [HDEC2.out]); try with_reducible rfl
      try simp only [Act.put, List.setIfInBounds_toArray, List.set_cons_zero, List.set_cons_succ]
      refine take_q (i := 18) (v := ?_) rfl (by kernel_rfl) (by kernel_rfl) (by kernel_rfl) (fun _ _ _ h => h) (Or.inl ⟨by rfl, ?_⟩) (by assumption) ?_
      rotate_left
      · intro w hSw; (try dsimp only at hSw); go_simp; (try simp only [HDEC.out]); (try simp only [HDEC2.out]); try with_reducible rfl
      try simp only [Act.put, List.setIfInBounds_toArray, List.set_cons_zero, List.set_cons_succ]
      refine take_q (i := 19) (v := ?_) rfl (by kernel_rfl) (by kernel_rfl) (by kernel_rfl) (fun _ _ _ h => h) (Or.inl ⟨by rfl, ?_⟩) (by assumption) ?_
      rotate_left
      · intro w hSw; (try dsimp only at hSw); go_simp; (try simp only [HDEC.out]); (try simp only [HDEC2.out]); try with_reducible rfl
      try simp only [Act.put, List.setIfInBounds_toArray, List.set_cons_zero, List.set_cons_succ]
      refine take_q (i := 20) (v := ?_) rfl (by kernel_rfl) (by kernel_rfl) (by kernel_rfl) (fun _ _ _ h => h) (Or.inl ⟨by rfl, ?_⟩) (by assumption) ?_
      rotate_left
      · intro w hSw; (try dsimp only at hSw); go_simp; (try simp only [HDEC.out]); (try simp only [HDEC2.out]); try with_reducible rfl
      try simp only [Act.put, List.setIfInBounds_toArray, List.set_cons_zero, List.set_cons_succ]
      refine take_q (i := 23) (v := ?_) rfl (by kernel_rfl) (by kernel_rfl) (by kernel_rfl) (fun _ _ _ h => h) (Or.inl ⟨by rfl, ?_⟩) (by assumption) ?_
      rotate_left
      · intro w hSw; (try dsimp only at hSw); go_simp; (try simp only [HDEC.out]); (try simp only [HDEC2.out]); try with_reducible rfl
      try simp only [Act.put, List.setIfInBounds_toArray, List.set_cons_zero, List.set_cons_succ]
      refine wpAnyH_ready (rs := [21]) (by kernel_rfl) (by simp) ?_
      refine cons_q rfl (fun K hK => ?_) AllReadyH.nil
      go_simp
      with_reducible refine (HF.out _).mono ?_; rintro e w3 ⟨rfl, hb3⟩
      refine hK.out _ _ ?_ (fun hHeld => ?_)
      · exact ⟨blk_pfx bk_, bl_⟩
      clear hK K
      try simp only [Act.put, List.setIfInBounds_toArray, List.set_cons_zero, List.set_cons_succ]
      refine wpAnyH_ready (rs := [22]) (by kernel_rfl) (by simp) ?_
      refine cons_q rfl (fun K hK => ?_) AllReadyH.nil
      go_simp
      with_reducible refine (HN.out _).mono ?_; rintro e w4 ⟨rfl, hb4⟩
      refine hK.out _ _ ?_ (fun hHeld => ?_)
      · exact ⟨blk_pfx bk_, bl_⟩
      clear hK K
      try simp only [Act.put, List.setIfInBounds_toArray, List.set_cons_zero, List.set_cons_succ]
      refine take_q (i := 24) (v := ?_) rfl (by kernel_rfl) (by kernel_rfl) (by kernel_rfl) (fun _ _ _ h => h) (Or.inl ⟨by rfl, ?_⟩) (by assumption) ?_
      rotate_left
      · intro w hSw; (try dsimp only at hSw); go_simp; (try simp only [HDEC.out]); (try simp only [HDEC2.out]); try with_reducible rfl
      try simp only [Act.put, List.setIfInBounds_toArray, List.set_cons_zero, List.set_cons_succ]
      refine take_q (i := 25) (v := ?_) rfl (by kernel_rfl) (by kernel_rfl) (by kernel_rfl) (fun _ _ _ h => h) (Or.inl ⟨by rfl, ?_⟩) (by assumption) ?_
      rotate_left
      · intro w hSw; (try dsimp only at hSw); go_simp; (try simp only [HDEC.out]); (try simp only [HDEC2.out]); try with_reducible rfl
      try simp only [Act.put, List.setIfInBounds_toArray, List.set_cons_zero, List.set_cons_succ]
      refine take_q (i := 26) (v := ?_) rfl (by kernel_rfl) (by kernel_rfl) (by kernel_rfl) (fun _ _ _ h => h) (Or.inl ⟨by rfl, ?_⟩) (by assumption) ?_
      rotate_left
      · intro w hSw; (try dsimp only at hSw); go_simp; (try simp only [HDEC.out]); (try simp only [HDEC2.out]); try with_reducible rfl
      try simp only [Act.put, List.setIfInBounds_toArray, List.set_cons_zero, List.set_cons_succ]
      refine wpAnyH_done (by kernel_rfl) ?_ _
      go_wp2_with fail
      go_ret
      exact ⟨rfl, hHeld.2⟩
end Go.Proofs.YtgdgklibilddgaaGreatDoor

namespace Go.Proofs.YtgdgklibilddgaaGreatDoor
open Go.RowKit

def okW (h l : Int) : Bool := decide (0 ≤ h) && (decide (h < 18446744073709551616) && (decide (0 ≤ l) && decide (l < 18446744073709551616)))
theorem okW_iff {h l : Int} : okW h l = true ↔ 0 ≤ h ∧ h < 18446744073709551616 ∧ 0 ≤ l ∧ l < 18446744073709551616 := by
  unfold okW; simp
theorem okW_lt {h l : Int} (k : okW h l = true) : num h l < 340282366920938463463374607431768211456 := by
  have := okW_iff.1 k; exact num_lt this.2.1 this.2.2.2
theorem okW_num {h l : Int} (k : okW h l = true) : Value.agg #[.int .u64 h, .int .u64 l] = numV (num h l) := by
  have := okW_iff.1 k; rw [numV, hi_num this.1 this.2.1 this.2.2.1 this.2.2.2, lo_num this.2.2.1 this.2.2.2]
theorem okW_adr {v : Bool} {h l : Int} (k : okW h l = true) : Value.agg #[.bool v, .int .u64 h, .int .u64 l] = AddrV v (num h l) := by
  have := okW_iff.1 k; rw [AddrV, hi_num this.1 this.2.1 this.2.2.1 this.2.2.2, lo_num this.2.2.1 this.2.2.2]
theorem okW_pfx {v : Bool} {h l b : Int} (k : okW h l = true) : Value.agg #[.bool v, .int .u64 h, .int .u64 l, .int .i64 b] = PfxV v (num h l) b := by
  have := okW_iff.1 k; rw [PfxV, PfxC, hi_num this.1 this.2.1 this.2.2.1 this.2.2.2, lo_num this.2.2.1 this.2.2.2]
theorem okW_hl (n : Nat) : okW (hi n) (lo n) = true := okW_iff.2 ⟨hi_nn n, hi_lt n, lo_nn n, lo_lt n⟩
theorem some_if {α : Type} {b : Bool} {x y : α} (h : (if b = true then some x else none) = some y) : b = true ∧ x = y := by
  cases b
  · cases h
  · injection h with h; exact ⟨rfl, h⟩
theorem glob_keep {w w' : World} (h : Glob w) (hb : Below w.heap.size w w') : Glob w' := h.after hb
/-- an address so far behind -/
def plusP (v : Bool) (a n : Nat) : Bool × Nat × Int := if rightB v a = true then (if (addF a n && rightB v (addN a n)) = true then (v, addN a n, 0) else (false, 0, 11)) else (false, 0, 1)
theorem plusV_P (v : Bool) (a n : Nat) : plusV v a n = .tuple #[.agg #[.bool (plusP v a n).1, .int .u64 (hi (plusP v a n).2.1), .int .u64 (lo (plusP v a n).2.1)], .int .i64 (plusP v a n).2.2] := by
  unfold plusV plusP
  split
  · split <;> rfl
  · rfl
def parseP : Option (Bool × Nat) → Bool × Nat × Int
  | some (v, n) => (v, n, 0)
  | none => (false, 0, 4)
theorem parseV_P (x : Option (Bool × Nat)) : parseV x = .tuple #[.agg #[.bool (parseP x).1, .int .u64 (hi (parseP x).2.1), .int .u64 (lo (parseP x).2.1)], .int .i64 (parseP x).2.2] := by
  rcases x with _ | ⟨v, n⟩ <;> rfl

def num_Shl.f (a0_0 a0_1 : Int) (a1 : Int) : Option (Int × Int) := if (okW a0_0 a0_1 && (decide (-9223372036854775808 ≤ a1))) = true then some (hi (shlN (num a0_0 a0_1) a1), lo (shlN (num a0_0 a0_1) a1)) else none
theorem num_Shl.calls (a0_0 a0_1 : Int) (a1 : Int) (r1 : Int) (r2 : Int) (w : World) (h : num_Shl.f a0_0 a0_1 a1 = some (r1, r2)) :
    Calls Tryz.prog 84 #[.agg #[.int .u64 a0_0, .int .u64 a0_1], .int .i64 a1] w fun e w' => e = .returned (.agg #[.int .u64 r1, .int .u64 r2]) ∧ Below w.heap.size w w' := by
  unfold num_Shl.f at h
  obtain ⟨hg, h⟩ := some_if h
  simp only [Bool.and_eq_true] at hg
  obtain ⟨g0, hk0⟩ := hg
  have h0 := okW_iff.1 g0
  have hk := of_decide_eq_true hk0
  obtain ⟨rfl, rfl⟩ := Prod.mk.inj h
  exact shl_c a0_0 a0_1 a1 w h0.1 h0.2.1 h0.2.2.1 h0.2.2.2 hk
def num_Shr.f (a0_0 a0_1 : Int) (a1 : Int) : Option (Int × Int) := if (okW a0_0 a0_1 && (decide (-9223372036854775808 ≤ a1))) = true then some (hi (shrN (num a0_0 a0_1) a1), lo (shrN (num a0_0 a0_1) a1)) else none
theorem num_Shr.calls (a0_0 a0_1 : Int) (a1 : Int) (r1 : Int) (r2 : Int) (w : World) (h : num_Shr.f a0_0 a0_1 a1 = some (r1, r2)) :
    Calls Tryz.prog 56 #[.agg #[.int .u64 a0_0, .int .u64 a0_1], .int .i64 a1] w fun e w' => e = .returned (.agg #[.int .u64 r1, .int .u64 r2]) ∧ Below w.heap.size w w' := by
  unfold num_Shr.f at h
  obtain ⟨hg, h⟩ := some_if h
  simp only [Bool.and_eq_true] at hg
  obtain ⟨g0, hk0⟩ := hg
  have h0 := okW_iff.1 g0
  have hk := of_decide_eq_true hk0
  obtain ⟨rfl, rfl⟩ := Prod.mk.inj h
  exact shr_c a0_0 a0_1 a1 w h0.1 h0.2.1 h0.2.2.1 h0.2.2.2 hk
def num_Ones.f (a0 : Int) : Option (Int × Int) := some (hi (onesN a0), lo (onesN a0))
theorem num_Ones.calls (a0 : Int) (r1 : Int) (r2 : Int) (w : World) (h : num_Ones.f a0 = some (r1, r2)) :
    Calls Tryz.prog 119 #[.int .i64 a0] w fun e w' => e = .returned (.agg #[.int .u64 r1, .int .u64 r2]) ∧ Below w.heap.size w w' := by
  unfold num_Ones.f at h
  injection h with h
  obtain ⟨rfl, rfl⟩ := Prod.mk.inj h
  exact ones_c a0 w
def num_Len.f (a0_0 a0_1 : Int) : Option (Int) := if (okW a0_0 a0_1) = true then some ((lenN (num a0_0 a0_1) : Nat) : Int) else none
theorem num_Len.calls (a0_0 a0_1 : Int) (r : Int) (w : World) (h : num_Len.f a0_0 a0_1 = some r) :
    Calls Tryz.prog 70 #[.agg #[.int .u64 a0_0, .int .u64 a0_1]] w fun e w' => e = .returned (.int .i64 r) ∧ Below w.heap.size w w' := by
  unfold num_Len.f at h
  obtain ⟨hg, h⟩ := some_if h
  have g0 := hg
  have h0 := okW_iff.1 g0
  subst h
  exact len_c a0_0 a0_1 w h0.1 h0.2.1 h0.2.2.1 h0.2.2.2
def num_Cmp.f (a0_0 a0_1 : Int) (a1_0 a1_1 : Int) : Option (Int) := if (okW a0_0 a0_1 && (okW a1_0 a1_1)) = true then some (cmpN (num a0_0 a0_1) (num a1_0 a1_1)) else none
theorem num_Cmp.calls (a0_0 a0_1 : Int) (a1_0 a1_1 : Int) (r : Int) (w : World) (h : num_Cmp.f a0_0 a0_1 a1_0 a1_1 = some r) :
    Calls Tryz.prog 53 #[.agg #[.int .u64 a0_0, .int .u64 a0_1], .agg #[.int .u64 a1_0, .int .u64 a1_1]] w fun e w' => e = .returned (.int .i64 r) ∧ Below w.heap.size w w' := by
  unfold num_Cmp.f at h
  obtain ⟨hg, h⟩ := some_if h
  simp only [Bool.and_eq_true] at hg
  obtain ⟨g0, g1⟩ := hg
  have h0 := okW_iff.1 g0
  have h1 := okW_iff.1 g1
  subst h
  exact cmp_c a0_0 a0_1 a1_0 a1_1 w h0.1 h0.2.1 h0.2.2.1 h0.2.2.2 h1.1 h1.2.1 h1.2.2.1 h1.2.2.2
def num_And.f (a0_0 a0_1 : Int) (a1_0 a1_1 : Int) : Option (Int × Int) := if (okW a0_0 a0_1 && (okW a1_0 a1_1)) = true then some (hi (num a0_0 a0_1 &&& num a1_0 a1_1), lo (num a0_0 a0_1 &&& num a1_0 a1_1)) else none
theorem num_And.calls (a0_0 a0_1 : Int) (a1_0 a1_1 : Int) (r1 : Int) (r2 : Int) (w : World) (h : num_And.f a0_0 a0_1 a1_0 a1_1 = some (r1, r2)) :
    Calls Tryz.prog 79 #[.agg #[.int .u64 a0_0, .int .u64 a0_1], .agg #[.int .u64 a1_0, .int .u64 a1_1]] w fun e w' => e = .returned (.agg #[.int .u64 r1, .int .u64 r2]) ∧ Below w.heap.size w w' := by
  unfold num_And.f at h
  obtain ⟨hg, h⟩ := some_if h
  simp only [Bool.and_eq_true] at hg
  obtain ⟨g0, g1⟩ := hg
  have h0 := okW_iff.1 g0
  have h1 := okW_iff.1 g1
  obtain ⟨rfl, rfl⟩ := Prod.mk.inj h
  rw [okW_num g0]
  rw [okW_num g1]
  exact andn_c (num a0_0 a0_1) (num a1_0 a1_1) w
def num_Or.f (a0_0 a0_1 : Int) (a1_0 a1_1 : Int) : Option (Int × Int) := if (okW a0_0 a0_1 && (okW a1_0 a1_1)) = true then some (hi (num a0_0 a0_1 ||| num a1_0 a1_1), lo (num a0_0 a0_1 ||| num a1_0 a1_1)) else none
theorem num_Or.calls (a0_0 a0_1 : Int) (a1_0 a1_1 : Int) (r1 : Int) (r2 : Int) (w : World) (h : num_Or.f a0_0 a0_1 a1_0 a1_1 = some (r1, r2)) :
    Calls Tryz.prog 80 #[.agg #[.int .u64 a0_0, .int .u64 a0_1], .agg #[.int .u64 a1_0, .int .u64 a1_1]] w fun e w' => e = .returned (.agg #[.int .u64 r1, .int .u64 r2]) ∧ Below w.heap.size w w' := by
  unfold num_Or.f at h
  obtain ⟨hg, h⟩ := some_if h
  simp only [Bool.and_eq_true] at hg
  obtain ⟨g0, g1⟩ := hg
  have h0 := okW_iff.1 g0
  have h1 := okW_iff.1 g1
  obtain ⟨rfl, rfl⟩ := Prod.mk.inj h
  rw [okW_num g0]
  rw [okW_num g1]
  exact orn_c (num a0_0 a0_1) (num a1_0 a1_1) w (okW_lt g0) (okW_lt g1)
def num_Not.f (a0_0 a0_1 : Int) : Option (Int × Int) := if (okW a0_0 a0_1) = true then some (hi (notN (num a0_0 a0_1)), lo (notN (num a0_0 a0_1))) else none
theorem num_Not.calls (a0_0 a0_1 : Int) (r1 : Int) (r2 : Int) (w : World) (h : num_Not.f a0_0 a0_1 = some (r1, r2)) :
    Calls Tryz.prog 81 #[.agg #[.int .u64 a0_0, .int .u64 a0_1]] w fun e w' => e = .returned (.agg #[.int .u64 r1, .int .u64 r2]) ∧ Below w.heap.size w w' := by
  unfold num_Not.f at h
  obtain ⟨hg, h⟩ := some_if h
  have g0 := hg
  have h0 := okW_iff.1 g0
  obtain ⟨rfl, rfl⟩ := Prod.mk.inj h
  exact not_c a0_0 a0_1 w h0.1 h0.2.1 h0.2.2.1 h0.2.2.2
def addr_Width.f (a0_0 : Bool) (a0_1 a0_2 : Int) : Option (Int) := if (okW a0_1 a0_2) = true then some ((widthN a0_0 : Nat) : Int) else none
theorem addr_Width.calls (a0_0 : Bool) (a0_1 a0_2 : Int) (r : Int) (w : World) (h : addr_Width.f a0_0 a0_1 a0_2 = some r) :
    Calls Tryz.prog 22 #[.agg #[.bool a0_0, .int .u64 a0_1, .int .u64 a0_2]] w fun e w' => e = .returned (.int .i64 r) ∧ Below w.heap.size w w' := by
  unfold addr_Width.f at h
  obtain ⟨hg, h⟩ := some_if h
  have g0 := hg
  have h0 := okW_iff.1 g0
  subst h
  rw [okW_adr g0]
  exact width_c a0_0 (num a0_1 a0_2) w
def addr_Right.f (a0_0 : Bool) (a0_1 a0_2 : Int) : Option (Bool) := if (okW a0_1 a0_2) = true then some (rightB a0_0 (num a0_1 a0_2)) else none
theorem addr_Right.calls (a0_0 : Bool) (a0_1 a0_2 : Int) (r : Bool) (w : World) (h : addr_Right.f a0_0 a0_1 a0_2 = some r) :
    Calls Tryz.prog 18 #[.agg #[.bool a0_0, .int .u64 a0_1, .int .u64 a0_2]] w fun e w' => e = .returned (.bool r) ∧ Below w.heap.size w w' := by
  unfold addr_Right.f at h
  obtain ⟨hg, h⟩ := some_if h
  have g0 := hg
  have h0 := okW_iff.1 g0
  subst h
  rw [okW_adr g0]
  exact right_c a0_0 (num a0_1 a0_2) w (okW_lt g0)
def platbookref02_Width.f (a0_0 : Bool) (a0_1 a0_2 : Int) : Option (Int) := if (okW a0_1 a0_2) = true then some ((widthN a0_0 : Nat) : Int) else none
theorem platbookref02_Width.calls (a0_0 : Bool) (a0_1 a0_2 : Int) (r : Int) (w : World) (h : platbookref02_Width.f a0_0 a0_1 a0_2 = some r) :
    Calls Tryz.prog 23 #[.agg #[.bool a0_0, .int .u64 a0_1, .int .u64 a0_2]] w fun e w' => e = .returned (.int .i64 r) ∧ Below w.heap.size w w' := by
  unfold platbookref02_Width.f at h
  obtain ⟨hg, h⟩ := some_if h
  have g0 := hg
  have h0 := okW_iff.1 g0
  subst h
  rw [okW_adr g0]
  exact rwidth_c a0_0 (num a0_1 a0_2) w
def platbookref02_Right.f (a0_0 : Bool) (a0_1 a0_2 : Int) : Option (Bool) := if (okW a0_1 a0_2) = true then some (rightB a0_0 (num a0_1 a0_2)) else none
theorem platbookref02_Right.calls (a0_0 : Bool) (a0_1 a0_2 : Int) (r : Bool) (w : World) (h : platbookref02_Right.f a0_0 a0_1 a0_2 = some r) :
    Calls Tryz.prog 19 #[.agg #[.bool a0_0, .int .u64 a0_1, .int .u64 a0_2]] w fun e w' => e = .returned (.bool r) ∧ Below w.heap.size w w' := by
  unfold platbookref02_Right.f at h
  obtain ⟨hg, h⟩ := some_if h
  have g0 := hg
  have h0 := okW_iff.1 g0
  subst h
  rw [okW_adr g0]
  exact rright_c a0_0 (num a0_1 a0_2) w (okW_lt g0)
def addr_Cmp.f (a0_0 : Bool) (a0_1 a0_2 : Int) (a1_0 : Bool) (a1_1 a1_2 : Int) : Option (Int) := if (okW a0_1 a0_2 && (okW a1_1 a1_2)) = true then some (cmpA a0_0 (num a0_1 a0_2) a1_0 (num a1_1 a1_2)) else none
theorem addr_Cmp.calls (a0_0 : Bool) (a0_1 a0_2 : Int) (a1_0 : Bool) (a1_1 a1_2 : Int) (r : Int) (w : World) (h : addr_Cmp.f a0_0 a0_1 a0_2 a1_0 a1_1 a1_2 = some r) :
    Calls Tryz.prog 20 #[.agg #[.bool a0_0, .int .u64 a0_1, .int .u64 a0_2], .agg #[.bool a1_0, .int .u64 a1_1, .int .u64 a1_2]] w fun e w' => e = .returned (.int .i64 r) ∧ Below w.heap.size w w' := by
  unfold addr_Cmp.f at h
  obtain ⟨hg, h⟩ := some_if h
  simp only [Bool.and_eq_true] at hg
  obtain ⟨g0, g1⟩ := hg
  have h0 := okW_iff.1 g0
  have h1 := okW_iff.1 g1
  subst h
  rw [okW_adr g0]
  rw [okW_adr g1]
  exact acmp_c a0_0 (num a0_1 a0_2) a1_0 (num a1_1 a1_2) w (okW_lt g0) (okW_lt g1)
def addr_Plus.f (a0_0 : Bool) (a0_1 a0_2 : Int) (a1_0 a1_1 : Int) : Option (Bool × Int × Int × Int) := if (okW a0_1 a0_2 && (okW a1_0 a1_1)) = true then some ((plusP a0_0 (num a0_1 a0_2) (num a1_0 a1_1)).1, hi (plusP a0_0 (num a0_1 a0_2) (num a1_0 a1_1)).2.1, lo (plusP a0_0 (num a0_1 a0_2) (num a1_0 a1_1)).2.1, (plusP a0_0 (num a0_1 a0_2) (num a1_0 a1_1)).2.2) else none
theorem addr_Plus.calls (a0_0 : Bool) (a0_1 a0_2 : Int) (a1_0 a1_1 : Int) (r1 : Bool) (r2 : Int) (r3 : Int) (r4 : Int) (w : World) (h : addr_Plus.f a0_0 a0_1 a0_2 a1_0 a1_1 = some (r1, r2, r3, r4)) :
    Calls Tryz.prog 14 #[.agg #[.bool a0_0, .int .u64 a0_1, .int .u64 a0_2], .agg #[.int .u64 a1_0, .int .u64 a1_1]] w fun e w' => e = .returned (.tuple #[.agg #[.bool r1, .int .u64 r2, .int .u64 r3], .int .i64 r4]) ∧ Below w.heap.size w w' := by
  unfold addr_Plus.f at h
  obtain ⟨hg, h⟩ := some_if h
  simp only [Bool.and_eq_true] at hg
  obtain ⟨g0, g1⟩ := hg
  have h0 := okW_iff.1 g0
  have h1 := okW_iff.1 g1
  simp only [Prod.mk.injEq] at h
  obtain ⟨rfl, rfl, rfl, rfl⟩ := h
  rw [okW_adr g0]
  rw [okW_num g1]
  exact (plusV_P a0_0 (num a0_1 a0_2) (num a1_0 a1_1)) ▸ plus_c a0_0 (num a0_1 a0_2) (num a1_0 a1_1) w (okW_lt g0) (okW_lt g1)
def addr_Parse.f (a0 : ByteArray) : Option (Bool × Int × Int × Int) := if (decide (a0.size ≤ 1000000)) = true then some ((parseP (parseA (bts a0))).1, hi (parseP (parseA (bts a0))).2.1, lo (parseP (parseA (bts a0))).2.1, (parseP (parseA (bts a0))).2.2) else none
theorem addr_Parse.calls (a0 : ByteArray) (r1 : Bool) (r2 : Int) (r3 : Int) (r4 : Int) (w : World) (hG : Glob w) (h : addr_Parse.f a0 = some (r1, r2, r3, r4)) :
    Calls Tryz.prog 63 #[.string a0] w fun e w' => e = .returned (.tuple #[.agg #[.bool r1, .int .u64 r2, .int .u64 r3], .int .i64 r4]) ∧ Below w.heap.size w w' := by
  unfold addr_Parse.f at h
  obtain ⟨hg, h⟩ := some_if h
  have g0 := hg
  simp only [Prod.mk.injEq] at h
  obtain ⟨rfl, rfl, rfl, rfl⟩ := h
  exact (parseV_P (parseA (bts a0))) ▸ parse_c a0 w (of_decide_eq_true g0) hG
def addr_Print.f (a0_0 : Bool) (a0_1 a0_2 : Int) : Option (ByteArray) := if (okW a0_1 a0_2) = true then some (⟨(printA a0_0 (num a0_1 a0_2)).toArray⟩ : ByteArray) else none
theorem addr_Print.calls (a0_0 : Bool) (a0_1 a0_2 : Int) (r : ByteArray) (w : World) (hG : Glob w) (h : addr_Print.f a0_0 a0_1 a0_2 = some r) :
    Calls Tryz.prog 64 #[.agg #[.bool a0_0, .int .u64 a0_1, .int .u64 a0_2]] w fun e w' => e = .returned (.string r) ∧ Below w.heap.size w w' := by
  unfold addr_Print.f at h
  obtain ⟨hg, h⟩ := some_if h
  have g0 := hg
  have h0 := okW_iff.1 g0
  subst h
  rw [okW_adr g0]
  exact print_c a0_0 (num a0_1 a0_2) w (okW_lt g0) hG
def prefix_free.f (a0_0 : Bool) (a0_1 a0_2 a0_3 : Int) : Option (Int × Int) := if (okW a0_1 a0_2 && (decide (0 ≤ a0_3) && (decide (a0_3 ≤ ((widthN a0_0 : Nat) : Int))))) = true then some (hi (2 ^ fr a0_0 a0_3 - 1), lo (2 ^ fr a0_0 a0_3 - 1)) else none
theorem prefix_free.calls (a0_0 : Bool) (a0_1 a0_2 a0_3 : Int) (r1 : Int) (r2 : Int) (w : World) (h : prefix_free.f a0_0 a0_1 a0_2 a0_3 = some (r1, r2)) :
    Calls Tryz.prog 85 #[.agg #[.bool a0_0, .int .u64 a0_1, .int .u64 a0_2, .int .i64 a0_3]] w fun e w' => e = .returned (.agg #[.int .u64 r1, .int .u64 r2]) ∧ Below w.heap.size w w' := by
  unfold prefix_free.f at h
  obtain ⟨hg, h⟩ := some_if h
  simp only [Bool.and_eq_true] at hg
  obtain ⟨g0, hk0, hk20⟩ := hg
  have h0 := okW_iff.1 g0
  have hk := of_decide_eq_true hk0
  have hk2 := of_decide_eq_true hk20
  obtain ⟨rfl, rfl⟩ := Prod.mk.inj h
  rw [okW_pfx g0]
  exact free_c a0_0 (num a0_1 a0_2) a0_3 w hk hk2
def prefix_Right.f (a0_0 : Bool) (a0_1 a0_2 a0_3 : Int) : Option (Bool) := if (okW a0_1 a0_2) = true then some (rightP a0_0 (num a0_1 a0_2) a0_3) else none
theorem prefix_Right.calls (a0_0 : Bool) (a0_1 a0_2 a0_3 : Int) (r : Bool) (w : World) (h : prefix_Right.f a0_0 a0_1 a0_2 a0_3 = some r) :
    Calls Tryz.prog 36 #[.agg #[.bool a0_0, .int .u64 a0_1, .int .u64 a0_2, .int .i64 a0_3]] w fun e w' => e = .returned (.bool r) ∧ Below w.heap.size w w' := by
  unfold prefix_Right.f at h
  obtain ⟨hg, h⟩ := some_if h
  have g0 := hg
  have h0 := okW_iff.1 g0
  subst h
  rw [okW_pfx g0]
  exact rightP_c a0_0 (num a0_1 a0_2) a0_3 w (okW_lt g0)
end Go.Proofs.YtgdgklibilddgaaGreatDoor

namespace Go.Proofs.YtgdgklibilddgaaGreatDoor
open Go.RowKit

theorem below_drewN' (w : World) (k : Nat) : Below w.heap.size w (w.drewN k) := bl_drewN (Below.refl _ _) k
theorem atoi_no (s : ByteArray) (w : World) (hs : s.size ≤ 1000000) (hG : Glob w) (h : ∀ k, Lib.atoiAll (bts s) ≠ .ok k) :
    Calls Tryz.prog 73 #[.string s] w fun e w' => (∃ (n : Int) (N : Nat), e = .returned (.tuple #[.int .i64 n, .iface 144 (.pointer (some ⟨N, 0, none⟩))])) ∧ Below w.heap.size w w' := by
  have hx : Lib.atoiAll (bts s) = Lib.atoiAll [] ∨ Lib.atoiAll (bts s) = .range := by
    rcases he : Lib.atoiAll (bts s) with u | _ | _
    · exact absurd he (h u)
    · exact .inl rfl
    · exact .inr rfl
  rcases hx with hx | hx
  · obtain ⟨tp, p, hv⟩ := hG.syn
    refine (Tryz.strconv_Atoi_syntax s (by omega) hx (.iface tp p) w (World.var?_cell (g := 1) (by kernel_rfl) hv 0) (.inr ⟨tp, p, rfl⟩)).mono ?_
    rintro e w' ⟨N, rfl, _, _, hb⟩
    exact ⟨⟨_, N, rfl⟩, hb⟩
  · obtain ⟨tp, p, hv⟩ := hG.rng
    refine (Tryz.strconv_Atoi_range s (by omega) hx (.iface tp p) w (World.var?_cell (g := 2) (by kernel_rfl) hv 0) (.inr ⟨tp, p, rfl⟩)).mono ?_
    rintro e w' ⟨N, rfl, _, _, hb⟩
    exact ⟨⟨_, N, rfl⟩, hb⟩
theorem atoi_yes (s : ByteArray) (k : Int) (w : World) (hs : s.size ≤ 1000000) (h : Lib.atoiAll (bts s) = .ok k) :
    Calls Tryz.prog 73 #[.string s] w fun e w' => e = .returned (.tuple #[.int .i64 k, .nilIface]) ∧ Below w.heap.size w w' := by
  refine (Tryz.strconv_Atoi_ok s (by omega) k h w).mono ?_
  rintro e w' ⟨rfl, rfl | ⟨t, rfl⟩⟩
  · exact ⟨rfl, Below.refl _ _⟩
  · exact ⟨rfl, Lib.bytesWorld_below _ _ _⟩
theorem itoaI_c (n : Int) (w : World) (h0 : -9223372036854775808 ≤ n) (h1 : n ≤ 9223372036854775807) (hG : Glob w) :
    Calls Tryz.prog 74 #[.int .i64 n] w fun e w' => e = .returned (.string ⟨(Lib.itoa n).toArray⟩) ∧ Below w.heap.size w w' := by
  refine (Tryz.strconv_Itoa n h0 h1 w hG.tab).mono ?_
  rintro e w' ⟨rfl, k, os, rfl⟩
  exact ⟨rfl, Lib.below_grow _ w (Nat.le_refl _) k os⟩
def atoiP (l : List UInt8) : Option Int := match Lib.atoiAll l with
  | .ok v => some v
  | _ => none
theorem atoiP_some {l : List UInt8} {k : Int} (h : atoiP l = some k) : Lib.atoiAll l = .ok k := by
  unfold atoiP at h
  split at h
  · injection h with h; subst h; assumption
  · cases h
theorem atoiP_none {l : List UInt8} (h : atoiP l = none) : ∀ k, Lib.atoiAll l ≠ .ok k := by
  intro k hk
  unfold atoiP at h
  rw [hk] at h; cases h
/-- the prefix of a text -/
def parsePfx (l : List UInt8) : Option (Bool × Nat × Int) :=
  match parseA (Lib.cut l [47]).1, atoiP (Lib.cut l [47]).2.1 with
  | some (v, n), some k => if (Lib.itoa k == (Lib.cut l [47]).2.1 && rightP v n k) = true then some (v, n, k) else none
  | _, _ => none
def pfxP : Option (Bool × Nat × Int) → Bool × Nat × Int × Int
  | some (v, n, k) => (v, n, k, 0)
  | none => (false, 0, 0, 4)
def pfxR (x : Option (Bool × Nat × Int)) : Value := .tuple #[PfxV (pfxP x).1 (pfxP x).2.1 (pfxP x).2.2.1, .int .i64 (pfxP x).2.2.2]
theorem pfxR_none : pfxR none = .tuple #[.agg #[.bool false, .int .u64 0, .int .u64 0, .int .i64 0], .int .i64 4] := rfl
theorem pfxR_some (v : Bool) (n : Nat) (k : Int) : pfxR (some (v, n, k)) = .tuple #[.agg #[.bool v, .int .u64 (hi n), .int .u64 (lo n), .int .i64 k], .int .i64 0] := rfl
theorem cut_len (l : List UInt8) : (Lib.cut l [47]).1.length ≤ l.length ∧ (Lib.cut l [47]).2.1.length ≤ l.length := by
  unfold Lib.cut
  split
  · exact ⟨by simp; omega, by simp⟩
  · simp
theorem sideP_lt (last : Bool) : ∀ {ps : List (List UInt8)} {G : List Nat}, sideP last ps = some G → ∀ g ∈ G, g < 65536
  | [], G, h, g, hg => by simp only [sideP, Option.some.injEq] at h; subst h; cases hg
  | w :: q, G, h, g, hg => by
    rw [sideP] at h
    split at h
    · rw [Option.map_eq_some_iff] at h
      obtain ⟨t, ht, rfl⟩ := h
      obtain ⟨h1, h2⟩ := four_lt ht
      match t, h1, h2 with
      | [a, b, c, d], _, h2 =>
        have ha := h2 a (by simp)
        have hb := h2 b (by simp)
        have hc := h2 c (by simp)
        have hd := h2 d (by simp)
        simp only [grp, List.mem_cons, List.not_mem_nil, or_false] at hg
        rcases hg with rfl | rfl <;> omega
    · cases hx : hex16 w with
      | none => rw [hx] at h; cases h
      | some x =>
        rw [hx] at h
        simp only [Option.map_eq_some_iff] at h
        obtain ⟨t, ht, rfl⟩ := h
        rcases List.mem_cons.1 hg with rfl | hg
        · exact hex16_lt hx
        · exact sideP_lt last ht g hg
theorem side_lt {last : Bool} {s : List UInt8} {G : List Nat} (h : side last s = some G) : ∀ g ∈ G, g < 65536 := by
  unfold side at h
  split at h
  · injection h with h; subst h; intro g hg; cases hg
  · exact sideP_lt last h
theorem parseA_lt {l : List UInt8} {v : Bool} {n : Nat} (h : parseA l = some (v, n)) : n < 340282366920938463463374607431768211456 := by
  unfold parseA at h
  split at h
  · split at h
    · split at h
      · rename_i l r hl hr hc
        injection h with h
        injection h with _ h
        subst h
        have h1 := side_lt hl
        have h2 := side_lt hr
        have hlen : (l ++ nulls (8 - l.length - r.length) ++ r).length = 8 := by
          simp only [nulls, List.length_append, List.length_replicate]; omega
        have := valG_lt (l ++ nulls (8 - l.length - r.length) ++ r) (by
          intro g hg
          simp only [nulls, List.mem_append, List.mem_replicate] at hg
          rcases hg with (hg | ⟨_, rfl⟩) | hg
          · exact h1 g hg
          · decide
          · exact h2 g hg)
        rw [hlen] at this
        exact this
      · cases h
    · cases h
  · rw [Option.map_eq_some_iff] at h
    obtain ⟨t, ht, h⟩ := h
    injection h with _ h
    subst h
    obtain ⟨h1, h2⟩ := four_lt ht
    have := valB_lt t (fun k hk => by have := h2 k hk; omega)
    rw [h1] at this
    exact Nat.lt_of_lt_of_le this (by decide)
set_option maxRecDepth 100000 in
set_option maxHeartbeats 3200000 in
theorem ppfx_c (s : ByteArray) (w : World) (hs : s.size ≤ 1000000) (hG : Glob w) :
    Calls Tryz.prog 25 #[.string s] w fun e w' => e = .returned (pfxR (parsePfx (bts s))) ∧ Below w.heap.size w w' := by
  have HC := Lib.hid (fun w (hG : Glob w) => hG.max.elim fun m hm => Tryz.strings_Cut s ⟨#[47]⟩ m w (by omega) hm)
  have hsz := cut_len (bts s)
  have hbl : (bts s).length = s.size := by simp [bts]
  have hP : parsePfx (bts s) = (match parseA (Lib.cut (bts s) [47]).1, atoiP (Lib.cut (bts s) [47]).2.1 with
  | some (v, n), some k => if (Lib.itoa k == (Lib.cut (bts s) [47]).2.1 && rightP v n k) = true then some (v, n, k) else none
  | _, _ => none) := rfl
  rw [hP]
  clear hP
  have e1 : Lib.cut s.data.toList (ByteArray.mk #[47]).data.toList = Lib.cut (bts s) [47] := rfl
  rw [e1] at HC
  clear e1
  generalize (Lib.cut (bts s) [47]).1 = p at *
  generalize (Lib.cut (bts s) [47]).2.1 = q at *
  generalize (Lib.cut (bts s) [47]).2.2 = cut at *
  have HA := Lib.hid (fun w hG => parse_c ⟨p.toArray⟩ w (by show p.toArray.size ≤ _; rw [List.size_toArray]; omega) hG)
  rw [bts_mk] at HA
  have hq : (ByteArray.mk q.toArray).size ≤ 1000000 := by show q.toArray.size ≤ _; rw [List.size_toArray]; omega
  clear hsz hbl
  cases hpa : parseA p with
  | none =>
    rw [hpa] at HA
    rw [show parseV none = .tuple #[.agg #[.bool false, .int .u64 0, .int .u64 0], .int .i64 4] from rfl] at HA
    have HE := Lib.hid pfxR_none
    clear hpa
    have HT := Lib.hid (show ∀ w, Glob w → Calls Tryz.prog 73 #[.string ⟨q.toArray⟩] w fun e w' => (∃ (n : Int) (b : Value), (b = .nilIface ∨ ∃ N : Nat, b = .iface 144 (.pointer (some ⟨N, 0, none⟩))) ∧ e = .returned (.tuple #[.int .i64 n, b])) ∧ Below w.heap.size w w' by
      intro w hG
      cases ha : atoiP q with
      | none =>
        refine (atoi_no ⟨q.toArray⟩ w hq hG (by rw [bts_mk]; exact atoiP_none ha)).mono ?_
        rintro e w' ⟨⟨n, N, rfl⟩, hb⟩
        exact ⟨⟨n, _, .inr ⟨N, rfl⟩, rfl⟩, hb⟩
      | some k =>
        refine (atoi_yes ⟨q.toArray⟩ k w hq (by rw [bts_mk]; exact atoiP_some ha)).mono ?_
        rintro e w' ⟨rfl, hb⟩
        exact ⟨⟨k, _, .inl rfl, rfl⟩, hb⟩)
    clear hq
    go_enter Tryz.func25, Tryz.ntmps25
    go_wp2_with fail
    have hX : Blk (w.alloc (Obj.cells #[.bool false, .int .u64 0, .int .u64 0, .int .i64 0] 38)) (w.heap.size) 38 (PfxC false 0 0) := (Blk.new' _ _ _ _ (by simp) : Blk (w.alloc (Obj.cells #[.bool false, .int .u64 0, .int .u64 0, .int .i64 0] 38)) (w.heap.size) 38 (PfxC false 0 0))
    have hbel : Below w.heap.size w (w.alloc (Obj.cells #[.bool false, .int .u64 0, .int .u64 0, .int .i64 0] 38)) := bl_
    replace hG := hG.after hbel
    have hsz : (w.alloc (Obj.cells #[.bool false, .int .u64 0, .int .u64 0, .int .i64 0] 38)).heap.size = w.heap.size + 1 := by simp
    generalize w.alloc (Obj.cells #[.bool false, .int .u64 0, .int .u64 0, .int .i64 0] 38) = w1 at *
    refine (HC.out _ hG).mono ?_
    rintro e w2 ⟨rfl, kd, rfl⟩
    have hb := below_drewN' w1 kd
    replace hX := hX.after hb
    replace hG := hG.after hb
    replace hbel := bl_trans hbel hb
    clear hb HC hsz
    generalize w1.drewN kd = w2 at *
    go_wp2_with fail
    refine (HA.out _ hG).mono ?_
    rintro e w3 ⟨rfl, hb⟩
    replace hX := hX.after hb
    replace hG := hG.after hb
    replace hbel := bl_trans hbel hb
    clear hb HA
    go_wp2_with fail
    have hA : Blk (w3.alloc (Obj.cells #[Value.bool false, Value.int IntKind.u64 0, Value.int IntKind.u64 0] 26)) w3.heap.size 26 (AddrC false 0) := Blk.new _ _ _
    have hX4 := hX.alloc (Obj.cells #[Value.bool false, Value.int IntKind.u64 0, Value.int IntKind.u64 0] 26)
    have hG4 : Glob (w3.alloc (Obj.cells #[Value.bool false, Value.int IntKind.u64 0, Value.int IntKind.u64 0] 26)) := hG.after bl_
    have hbel4 : Below w.heap.size w (w3.alloc (Obj.cells #[Value.bool false, Value.int IntKind.u64 0, Value.int IntKind.u64 0] 26)) := bl_
    clear hX hG hbel
    generalize w3.alloc (Obj.cells #[Value.bool false, Value.int IntKind.u64 0, Value.int IntKind.u64 0] 26) = w4 at *
    generalize w3.heap.size = g at *
    with_reducible refine (HT.out _ hG4).mono ?_
    rintro e w5 ⟨⟨n5, b5, hb5, rfl⟩, hb⟩
    have hX := hX4.after hb
    replace hbel := bl_trans hbel4 hb
    clear hb HT hb5 hA hX4 hG4 hbel4
    have z0 := hX.frozen 0
    have z1 := hX.frozen 1
    have z2 := hX.frozen 2
    have z3 := hX.frozen 3
    obtain ⟨x0, x1, x2, x3, _⟩ := blk_pfx hX
    go_wp2_with fail
    obtain ⟨r0, r1, r2, r3, _⟩ := blk_pfx (v := false) (n := 0) (b := 0) ((((hX.put 0 (.bool false)).put 1 (.int .u64 0)).put 2 (.int .u64 0)).put 3 (.int .i64 0))
    refine bodyPost_ret (v := .tuple #[.agg #[.bool false, .int .u64 0, .int .u64 0, .int .i64 0], .int .i64 4]) (by simp [results, Tryz.results25, go_sem, r0, r1, r2, r3, hi_zero, lo_zero]) rfl ⟨by rw [HE.out], bl_⟩
  | some x =>
    obtain ⟨v, n⟩ := x
    rw [hpa] at HA
    rw [show parseV (some (v, n)) = .tuple #[.agg #[.bool v, .int .u64 (hi n), .int .u64 (lo n)], .int .i64 0] from rfl] at HA
    have hn := parseA_lt hpa
    clear hpa
    cases ha : atoiP q with
    | none =>
      have HE := Lib.hid pfxR_none
      have HT := Lib.hid (fun w hG => atoi_no ⟨q.toArray⟩ w hq hG (by rw [bts_mk]; exact atoiP_none ha))
      clear hq ha hn
      go_enter Tryz.func25, Tryz.ntmps25
      go_wp2_with fail
      have hX : Blk (w.alloc (Obj.cells #[.bool false, .int .u64 0, .int .u64 0, .int .i64 0] 38)) (w.heap.size) 38 (PfxC false 0 0) := (Blk.new' _ _ _ _ (by simp) : Blk (w.alloc (Obj.cells #[.bool false, .int .u64 0, .int .u64 0, .int .i64 0] 38)) (w.heap.size) 38 (PfxC false 0 0))
      have hbel : Below w.heap.size w (w.alloc (Obj.cells #[.bool false, .int .u64 0, .int .u64 0, .int .i64 0] 38)) := bl_
      replace hG := hG.after hbel
      have hsz : (w.alloc (Obj.cells #[.bool false, .int .u64 0, .int .u64 0, .int .i64 0] 38)).heap.size = w.heap.size + 1 := by simp
      generalize w.alloc (Obj.cells #[.bool false, .int .u64 0, .int .u64 0, .int .i64 0] 38) = w1 at *
      refine (HC.out _ hG).mono ?_
      rintro e w2 ⟨rfl, kd, rfl⟩
      have hb := below_drewN' w1 kd
      replace hX := hX.after hb
      replace hG := hG.after hb
      replace hbel := bl_trans hbel hb
      clear hb HC hsz
      generalize w1.drewN kd = w2 at *
      go_wp2_with fail
      refine (HA.out _ hG).mono ?_
      rintro e w3 ⟨rfl, hb⟩
      replace hX := hX.after hb
      replace hG := hG.after hb
      replace hbel := bl_trans hbel hb
      clear hb HA
      go_wp2_with fail
      have hA4 : Blk (w3.alloc (Obj.cells #[Value.bool v, Value.int IntKind.u64 (hi n), Value.int IntKind.u64 (lo n)] 26)) w3.heap.size 26 (AddrC v n) := Blk.new _ _ _
      have hg4 : w.heap.size < w3.heap.size := hX.lt
      have hX4 := hX.alloc (Obj.cells #[Value.bool v, Value.int IntKind.u64 (hi n), Value.int IntKind.u64 (lo n)] 26)
      have hG4 : Glob (w3.alloc (Obj.cells #[Value.bool v, Value.int IntKind.u64 (hi n), Value.int IntKind.u64 (lo n)] 26)) := hG.after bl_
      have hbel4 : Below w.heap.size w (w3.alloc (Obj.cells #[Value.bool v, Value.int IntKind.u64 (hi n), Value.int IntKind.u64 (lo n)] 26)) := bl_
      clear hX hG hbel
      generalize w3.alloc (Obj.cells #[Value.bool v, Value.int IntKind.u64 (hi n), Value.int IntKind.u64 (lo n)] 26) = w4 at *
      generalize w3.heap.size = g at *
      with_reducible refine (HT.out _ hG4).mono ?_
      rintro e w5 ⟨⟨n5, N5, rfl⟩, hb⟩
      have hX := hX4.after hb
      replace hbel := bl_trans hbel4 hb
      clear hb HT hA4 hX4 hG4 hbel4
      have z0 := hX.frozen 0
      have z1 := hX.frozen 1
      have z2 := hX.frozen 2
      have z3 := hX.frozen 3
      obtain ⟨x0, x1, x2, x3, _⟩ := blk_pfx hX
      go_wp2_with fail
      obtain ⟨r0, r1, r2, r3, _⟩ := blk_pfx (v := false) (n := 0) (b := 0) ((((hX.put 0 (.bool false)).put 1 (.int .u64 0)).put 2 (.int .u64 0)).put 3 (.int .i64 0))
      refine bodyPost_ret (v := .tuple #[.agg #[.bool false, .int .u64 0, .int .u64 0, .int .i64 0], .int .i64 4]) (by simp [results, Tryz.results25, go_sem, r0, r1, r2, r3, hi_zero, lo_zero]) rfl ⟨by rw [HE.out], bl_⟩
    | some k =>
      have ha := atoiP_some ha
      obtain ⟨hk0, hk1⟩ := Lib.atoiAll_bounds ha
      have HT := Lib.hid (fun w (_ : Glob w) => atoi_yes ⟨q.toArray⟩ k w hq (by rw [bts_mk]; exact ha))
      have HI := Lib.hid (fun w hG => itoaI_c k w hk0 hk1 hG)
      clear hq ha hk0 hk1
      by_cases hs : Lib.itoa k = q
      · have HR := Lib.hid (fun w => rightP_c v n k w hn)
        subst hs
        dsimp only
        rw [show (Lib.itoa k == Lib.itoa k) = true from beq_self_eq_true _]
        simp only [Bool.true_and]
        generalize Lib.itoa k = q at *
        unfold PfxV PfxC at HR
        cases hr : rightP v n k with
        | false =>
          rw [hr] at HR
          rw [if_neg (by simp)]
          have HE := Lib.hid pfxR_none
          clear hr hn
          go_enter Tryz.func25, Tryz.ntmps25
          go_wp2_with fail
          have hX : Blk (w.alloc (Obj.cells #[.bool false, .int .u64 0, .int .u64 0, .int .i64 0] 38)) (w.heap.size) 38 (PfxC false 0 0) := (Blk.new' _ _ _ _ (by simp) : Blk (w.alloc (Obj.cells #[.bool false, .int .u64 0, .int .u64 0, .int .i64 0] 38)) (w.heap.size) 38 (PfxC false 0 0))
          have hbel : Below w.heap.size w (w.alloc (Obj.cells #[.bool false, .int .u64 0, .int .u64 0, .int .i64 0] 38)) := bl_
          replace hG := hG.after hbel
          have hsz : (w.alloc (Obj.cells #[.bool false, .int .u64 0, .int .u64 0, .int .i64 0] 38)).heap.size = w.heap.size + 1 := by simp
          generalize w.alloc (Obj.cells #[.bool false, .int .u64 0, .int .u64 0, .int .i64 0] 38) = w1 at *
          refine (HC.out _ hG).mono ?_
          rintro e w2 ⟨rfl, kd, rfl⟩
          have hb := below_drewN' w1 kd
          replace hX := hX.after hb
          replace hG := hG.after hb
          replace hbel := bl_trans hbel hb
          clear hb HC hsz
          generalize w1.drewN kd = w2 at *
          go_wp2_with fail
          refine (HA.out _ hG).mono ?_
          rintro e w3 ⟨rfl, hb⟩
          replace hX := hX.after hb
          replace hG := hG.after hb
          replace hbel := bl_trans hbel hb
          clear hb HA
          go_wp2_with fail
          have hA4 : Blk (w3.alloc (Obj.cells #[Value.bool v, Value.int IntKind.u64 (hi n), Value.int IntKind.u64 (lo n)] 26)) w3.heap.size 26 (AddrC v n) := Blk.new _ _ _
          have hg4 : w.heap.size < w3.heap.size := hX.lt
          have hX4 := hX.alloc (Obj.cells #[Value.bool v, Value.int IntKind.u64 (hi n), Value.int IntKind.u64 (lo n)] 26)
          have hG4 : Glob (w3.alloc (Obj.cells #[Value.bool v, Value.int IntKind.u64 (hi n), Value.int IntKind.u64 (lo n)] 26)) := hG.after bl_
          have hbel4 : Below w.heap.size w (w3.alloc (Obj.cells #[Value.bool v, Value.int IntKind.u64 (hi n), Value.int IntKind.u64 (lo n)] 26)) := bl_
          clear hX hG hbel
          generalize w3.alloc (Obj.cells #[Value.bool v, Value.int IntKind.u64 (hi n), Value.int IntKind.u64 (lo n)] 26) = w4 at *
          generalize w3.heap.size = g at *
          with_reducible refine (HT.out _ hG4).mono ?_
          rintro e w5 ⟨rfl, hb⟩
          have hX := hX4.after hb
          have hA := hA4.after hb
          have hG := hG4.after hb
          replace hbel := bl_trans hbel4 hb
          clear hb HT hA4 hX4 hG4 hbel4
          go_wp2_with fail
          with_reducible refine (HI.out _ hG).mono ?_
          rintro e w6 ⟨rfl, hb⟩
          replace hX := hX.after hb
          replace hA := hA.after hb
          replace hG := hG.after hb
          replace hbel := bl_trans hbel hb
          clear hb HI
          obtain ⟨a0, a1, a2, _⟩ := blk_adr hA
          have az0 := hA.frozen 0
          have az1 := hA.frozen 1
          have az2 := hA.frozen 2
          go_wp2_with fail
          have hP : Blk (w6.alloc (Obj.cells #[Value.bool v, Value.int IntKind.u64 (hi n), Value.int IntKind.u64 (lo n), Value.int IntKind.i64 k] 38)) w6.heap.size 38 (PfxC v n k) := Blk.new _ _ _
          have hX7 := hX.alloc (Obj.cells #[Value.bool v, Value.int IntKind.u64 (hi n), Value.int IntKind.u64 (lo n), Value.int IntKind.i64 k] 38)
          have hbel7 : Below w.heap.size w (w6.alloc (Obj.cells #[Value.bool v, Value.int IntKind.u64 (hi n), Value.int IntKind.u64 (lo n), Value.int IntKind.i64 k] 38)) := bl_
          have hne : w.heap.size < w6.heap.size := hX.lt
          clear hX hG hbel hA a0 a1 a2 az0 az1 az2
          generalize w6.alloc (Obj.cells #[Value.bool v, Value.int IntKind.u64 (hi n), Value.int IntKind.u64 (lo n), Value.int IntKind.i64 k] 38) = w7 at *
          generalize w6.heap.size = g7 at *
          with_reducible refine (HR.out _).mono ?_
          rintro e w8 ⟨rfl, hb⟩
          have hX := hX7.after hb
          have hPP := hP.after hb
          replace hbel := bl_trans hbel7 hb
          clear hb HR hX7 hP hbel7
          obtain ⟨p0, p1, p2, p3, _⟩ := blk_pfx hPP
          have z0 := hX.frozen 0
          have z1 := hX.frozen 1
          have z2 := hX.frozen 2
          have z3 := hX.frozen 3
          obtain ⟨x0, x1, x2, x3, _⟩ := blk_pfx hX
          go_wp2_with fail
          obtain ⟨r0, r1, r2, r3, _⟩ := blk_pfx (v := false) (n := 0) (b := 0) ((((hX.put 0 (.bool false)).put 1 (.int .u64 0)).put 2 (.int .u64 0)).put 3 (.int .i64 0))
          refine bodyPost_ret (v := .tuple #[.agg #[.bool false, .int .u64 0, .int .u64 0, .int .i64 0], .int .i64 4]) (by simp [results, Tryz.results25, go_sem, r0, r1, r2, r3, hi_zero, lo_zero]) rfl ⟨by rw [HE.out], bl_⟩
        | true =>
          rw [hr] at HR
          rw [if_pos rfl]
          have HE := Lib.hid (pfxR_some v n k)
          clear hr hn
          go_enter Tryz.func25, Tryz.ntmps25
          go_wp2_with fail
          have hX : Blk (w.alloc (Obj.cells #[.bool false, .int .u64 0, .int .u64 0, .int .i64 0] 38)) (w.heap.size) 38 (PfxC false 0 0) := (Blk.new' _ _ _ _ (by simp) : Blk (w.alloc (Obj.cells #[.bool false, .int .u64 0, .int .u64 0, .int .i64 0] 38)) (w.heap.size) 38 (PfxC false 0 0))
          have hbel : Below w.heap.size w (w.alloc (Obj.cells #[.bool false, .int .u64 0, .int .u64 0, .int .i64 0] 38)) := bl_
          replace hG := hG.after hbel
          have hsz : (w.alloc (Obj.cells #[.bool false, .int .u64 0, .int .u64 0, .int .i64 0] 38)).heap.size = w.heap.size + 1 := by simp
          generalize w.alloc (Obj.cells #[.bool false, .int .u64 0, .int .u64 0, .int .i64 0] 38) = w1 at *
          refine (HC.out _ hG).mono ?_
          rintro e w2 ⟨rfl, kd, rfl⟩
          have hb := below_drewN' w1 kd
          replace hX := hX.after hb
          replace hG := hG.after hb
          replace hbel := bl_trans hbel hb
          clear hb HC hsz
          generalize w1.drewN kd = w2 at *
          go_wp2_with fail
          refine (HA.out _ hG).mono ?_
          rintro e w3 ⟨rfl, hb⟩
          replace hX := hX.after hb
          replace hG := hG.after hb
          replace hbel := bl_trans hbel hb
          clear hb HA
          go_wp2_with fail
          have hA4 : Blk (w3.alloc (Obj.cells #[Value.bool v, Value.int IntKind.u64 (hi n), Value.int IntKind.u64 (lo n)] 26)) w3.heap.size 26 (AddrC v n) := Blk.new _ _ _
          have hg4 : w.heap.size < w3.heap.size := hX.lt
          have hX4 := hX.alloc (Obj.cells #[Value.bool v, Value.int IntKind.u64 (hi n), Value.int IntKind.u64 (lo n)] 26)
          have hG4 : Glob (w3.alloc (Obj.cells #[Value.bool v, Value.int IntKind.u64 (hi n), Value.int IntKind.u64 (lo n)] 26)) := hG.after bl_
          have hbel4 : Below w.heap.size w (w3.alloc (Obj.cells #[Value.bool v, Value.int IntKind.u64 (hi n), Value.int IntKind.u64 (lo n)] 26)) := bl_
          clear hX hG hbel
          generalize w3.alloc (Obj.cells #[Value.bool v, Value.int IntKind.u64 (hi n), Value.int IntKind.u64 (lo n)] 26) = w4 at *
          generalize w3.heap.size = g at *
          with_reducible refine (HT.out _ hG4).mono ?_
          rintro e w5 ⟨rfl, hb⟩
          have hX := hX4.after hb
          have hA := hA4.after hb
          have hG := hG4.after hb
          replace hbel := bl_trans hbel4 hb
          clear hb HT hA4 hX4 hG4 hbel4
          go_wp2_with fail
          with_reducible refine (HI.out _ hG).mono ?_
          rintro e w6 ⟨rfl, hb⟩
          replace hX := hX.after hb
          replace hA := hA.after hb
          replace hG := hG.after hb
          replace hbel := bl_trans hbel hb
          clear hb HI
          obtain ⟨a0, a1, a2, _⟩ := blk_adr hA
          have az0 := hA.frozen 0
          have az1 := hA.frozen 1
          have az2 := hA.frozen 2
          go_wp2_with fail
          have hP : Blk (w6.alloc (Obj.cells #[Value.bool v, Value.int IntKind.u64 (hi n), Value.int IntKind.u64 (lo n), Value.int IntKind.i64 k] 38)) w6.heap.size 38 (PfxC v n k) := Blk.new _ _ _
          have hX7 := hX.alloc (Obj.cells #[Value.bool v, Value.int IntKind.u64 (hi n), Value.int IntKind.u64 (lo n), Value.int IntKind.i64 k] 38)
          have hbel7 : Below w.heap.size w (w6.alloc (Obj.cells #[Value.bool v, Value.int IntKind.u64 (hi n), Value.int IntKind.u64 (lo n), Value.int IntKind.i64 k] 38)) := bl_
          have hne : w.heap.size < w6.heap.size := hX.lt
          clear hX hG hbel hA a0 a1 a2 az0 az1 az2
          generalize w6.alloc (Obj.cells #[Value.bool v, Value.int IntKind.u64 (hi n), Value.int IntKind.u64 (lo n), Value.int IntKind.i64 k] 38) = w7 at *
          generalize w6.heap.size = g7 at *
          with_reducible refine (HR.out _).mono ?_
          rintro e w8 ⟨rfl, hb⟩
          have hX := hX7.after hb
          have hPP := hP.after hb
          replace hbel := bl_trans hbel7 hb
          clear hb HR hX7 hP hbel7
          obtain ⟨p0, p1, p2, p3, _⟩ := blk_pfx hPP
          have z0 := hX.frozen 0
          have z1 := hX.frozen 1
          have z2 := hX.frozen 2
          have z3 := hX.frozen 3
          obtain ⟨x0, x1, x2, x3, _⟩ := blk_pfx hX
          go_wp2_with fail
          obtain ⟨r0, r1, r2, r3, _⟩ := blk_pfx (v := v) (n := n) (b := k) ((((hX.put 0 (.bool v)).put 1 (.int .u64 (hi n))).put 2 (.int .u64 (lo n))).put 3 (.int .i64 k))
          refine bodyPost_ret (v := .tuple #[.agg #[.bool v, .int .u64 (hi n), .int .u64 (lo n), .int .i64 k], .int .i64 0]) (by simp [results, Tryz.results25, go_sem, r0, r1, r2, r3]) rfl ⟨by rw [HE.out], bl_⟩
      · have hn' := hn
        dsimp only
        have hqq : (Lib.itoa k == q) = false := beq_eq_false_iff_ne.mpr hs
        rw [hqq]
        simp only [Bool.false_and]
        rw [if_neg (by simp)]
        have HE := Lib.hid pfxR_none
        have hd := hqq
        clear hqq hs hn
        go_enter Tryz.func25, Tryz.ntmps25
        go_wp2_with fail
        have hX : Blk (w.alloc (Obj.cells #[.bool false, .int .u64 0, .int .u64 0, .int .i64 0] 38)) (w.heap.size) 38 (PfxC false 0 0) := (Blk.new' _ _ _ _ (by simp) : Blk (w.alloc (Obj.cells #[.bool false, .int .u64 0, .int .u64 0, .int .i64 0] 38)) (w.heap.size) 38 (PfxC false 0 0))
        have hbel : Below w.heap.size w (w.alloc (Obj.cells #[.bool false, .int .u64 0, .int .u64 0, .int .i64 0] 38)) := bl_
        replace hG := hG.after hbel
        have hsz : (w.alloc (Obj.cells #[.bool false, .int .u64 0, .int .u64 0, .int .i64 0] 38)).heap.size = w.heap.size + 1 := by simp
        generalize w.alloc (Obj.cells #[.bool false, .int .u64 0, .int .u64 0, .int .i64 0] 38) = w1 at *
        refine (HC.out _ hG).mono ?_
        rintro e w2 ⟨rfl, kd, rfl⟩
        have hb := below_drewN' w1 kd
        replace hX := hX.after hb
        replace hG := hG.after hb
        replace hbel := bl_trans hbel hb
        clear hb HC hsz
        generalize w1.drewN kd = w2 at *
        go_wp2_with fail
        refine (HA.out _ hG).mono ?_
        rintro e w3 ⟨rfl, hb⟩
        replace hX := hX.after hb
        replace hG := hG.after hb
        replace hbel := bl_trans hbel hb
        clear hb HA
        go_wp2_with fail
        have hA4 : Blk (w3.alloc (Obj.cells #[Value.bool v, Value.int IntKind.u64 (hi n), Value.int IntKind.u64 (lo n)] 26)) w3.heap.size 26 (AddrC v n) := Blk.new _ _ _
        have hg4 : w.heap.size < w3.heap.size := hX.lt
        have hX4 := hX.alloc (Obj.cells #[Value.bool v, Value.int IntKind.u64 (hi n), Value.int IntKind.u64 (lo n)] 26)
        have hG4 : Glob (w3.alloc (Obj.cells #[Value.bool v, Value.int IntKind.u64 (hi n), Value.int IntKind.u64 (lo n)] 26)) := hG.after bl_
        have hbel4 : Below w.heap.size w (w3.alloc (Obj.cells #[Value.bool v, Value.int IntKind.u64 (hi n), Value.int IntKind.u64 (lo n)] 26)) := bl_
        clear hX hG hbel
        generalize w3.alloc (Obj.cells #[Value.bool v, Value.int IntKind.u64 (hi n), Value.int IntKind.u64 (lo n)] 26) = w4 at *
        generalize w3.heap.size = g at *
        with_reducible refine (HT.out _ hG4).mono ?_
        rintro e w5 ⟨rfl, hb⟩
        have hX := hX4.after hb
        have hA := hA4.after hb
        have hG := hG4.after hb
        replace hbel := bl_trans hbel4 hb
        clear hb HT hA4 hX4 hG4 hbel4
        go_wp2_with fail
        with_reducible refine (HI.out _ hG).mono ?_
        rintro e w6 ⟨rfl, hb⟩
        replace hX := hX.after hb
        replace hA := hA.after hb
        replace hG := hG.after hb
        replace hbel := bl_trans hbel hb
        clear hb HI hA hG
        have z0 := hX.frozen 0
        have z1 := hX.frozen 1
        have z2 := hX.frozen 2
        have z3 := hX.frozen 3
        obtain ⟨x0, x1, x2, x3, _⟩ := blk_pfx hX
        go_wp2_with fail
        obtain ⟨r0, r1, r2, r3, _⟩ := blk_pfx (v := false) (n := 0) (b := 0) ((((hX.put 0 (.bool false)).put 1 (.int .u64 0)).put 2 (.int .u64 0)).put 3 (.int .i64 0))
        refine bodyPost_ret (v := .tuple #[.agg #[.bool false, .int .u64 0, .int .u64 0, .int .i64 0], .int .i64 4]) (by simp [results, Tryz.results25, go_sem, r0, r1, r2, r3, hi_zero, lo_zero]) rfl ⟨by rw [HE.out], bl_⟩
end Go.Proofs.YtgdgklibilddgaaGreatDoor

namespace Go.Proofs.YtgdgklibilddgaaGreatDoor
open Go.RowKit

def prefix_Parse.f (a0 : ByteArray) : Option (Bool × Int × Int × Int × Int) := if decide (a0.size ≤ 1000000) = true then some ((pfxP (parsePfx (bts a0))).1, hi (pfxP (parsePfx (bts a0))).2.1, lo (pfxP (parsePfx (bts a0))).2.1, (pfxP (parsePfx (bts a0))).2.2.1, (pfxP (parsePfx (bts a0))).2.2.2) else none
theorem prefix_Parse.calls (a0 : ByteArray) (r1 : Bool) (r2 r3 r4 r5 : Int) (w : World) (hG : Glob w) (h : prefix_Parse.f a0 = some (r1, r2, r3, r4, r5)) :
    Calls Tryz.prog 25 #[.string a0] w fun e w' => e = .returned (.tuple #[.agg #[.bool r1, .int .u64 r2, .int .u64 r3, .int .i64 r4], .int .i64 r5]) ∧ Below w.heap.size w w' := by
  unfold prefix_Parse.f at h
  obtain ⟨hg, h⟩ := some_if h
  simp only [Prod.mk.injEq] at h
  obtain ⟨rfl, rfl, rfl, rfl, rfl⟩ := h
  exact ppfx_c a0 w (of_decide_eq_true hg) hG
def strconv_Itoa.f (a0 : Int) : Option ByteArray := if (decide (-9223372036854775808 ≤ a0) && decide (a0 ≤ 9223372036854775807)) = true then some (⟨(Lib.itoa a0).toArray⟩ : ByteArray) else none
theorem strconv_Itoa.calls (a0 : Int) (r : ByteArray) (w : World) (hG : Glob w) (h : strconv_Itoa.f a0 = some r) :
    Calls Tryz.prog 74 #[.int .i64 a0] w fun e w' => e = .returned (.string r) ∧ Below w.heap.size w w' := by
  unfold strconv_Itoa.f at h
  obtain ⟨hg, h⟩ := some_if h
  simp only [Bool.and_eq_true] at hg
  subst h
  exact itoaI_c a0 w (of_decide_eq_true hg.1) (of_decide_eq_true hg.2) hG
end Go.Proofs.YtgdgklibilddgaaGreatDoor

namespace Go.Proofs.YtgdgklibilddgaaGreatDoor
open Go.RowKit

set_option maxRecDepth 100000 in
set_option maxHeartbeats 1600000 in
theorem refadd_c (a b : Nat) (w : World) (ha : a < 340282366920938463463374607431768211456) (hb : b < 340282366920938463463374607431768211456) :
    Calls Tryz.prog 67 #[numV a, numV b] w fun e w' => e = .returned (.tuple #[numV (addN a b), .bool (addF a b)]) ∧ Below w.heap.size w w' := by
  obtain ⟨i0, hi0, hz0, hz1, hz2⟩ := info_parts info_int
  have HE := Lib.hid (carry_end ha hb)
  go_enter Tryz.func67, Tryz.ntmps67
  go_wp2_with fail
  refine (bits_f _ _ _ (hi_nn _) (hi_lt _) (lo_nn _) (lo_lt _)).mono ?_
  rw [num_hi_lo ha]
  rintro e w1 ⟨gx, cx, rfl, hcx, hgx, hgx2, hxc, _, hb1⟩
  obtain ⟨hc1, hf1⟩ := bcell hb1
  have hz1' := hb1.size
  simp only [size_alloc'] at hz1' hgx
  have hs0 : w.heap.size < w1.heap.size := by omega
  have hs1 : w.heap.size + 1 < w1.heap.size := by omega
  have hs2 : w.heap.size + 1 + 1 < w1.heap.size := by omega
  have HX := Lib.hid hxc
  clear hxc
  go_wp2_with fail
  refine (bits_f _ _ _ (hi_nn _) (hi_lt _) (lo_nn _) (lo_lt _)).mono ?_
  rw [num_hi_lo hb]
  rintro e w2 ⟨gy, cy, rfl, hcy, hgy, hgy2, hyc, _, hb2⟩
  have hz2' := hb2.size
  have hbR : Blk w2 (w.heap.size + 1 + 1) 24 #[.int .u64 0, .int .u64 0] := bk_
  have hbel2 : Below w.heap.size w w2 := bl_
  have hxc : ∀ j, j < 128 → w2.cell? ⟨gx, j, none⟩ = some (.int .i64 (bitI a j)) := fun j hj => (hb2.cell (p := ⟨gx, j, none⟩) hgx2).trans (HX.out j hj)
  have HX2 := Lib.hid hxc
  have HY := Lib.hid hyc
  clear hxc hyc HX hc1 hf1 hb1 hb2
  have hgx3 : gx < w2.heap.size := by omega
  have hgy3 : gy < w2.heap.size := by omega
  clear hs0 hs1 hs2
  have ho := own_empty w2 3 w2.heap.size (Nat.le_refl _)
  go_wp2_with fail
  go_loopw [8, 9, 10] (fun out c i wr => ∃ k : Nat, k ≤ 128 ∧ i = .int .i64 k ∧ c = .int .i64 (carryN a b k : Nat) ∧ wr.ownsRow w2.heap.size 3 1 out k (rowV (bitI (a + b)) k) ∧ Below w2.heap.size w2 wr) (fun _ _ i _ => 128 - (intOf i).toNat)
  case atStart => exact ⟨0, by omega, rfl, by rw [carry_zero]; rfl, ho, bl_⟩
  case round =>
    obtain ⟨k, hk, rfl, rfl, hown, hbel⟩ := hrel
    by_cases hlt : k < 128
    · have x0 : wr.cell? ⟨gx, k, none⟩ = some (.int .i64 (bitI a k)) := (hbel.cell (p := ⟨gx, k, none⟩) hgx3).trans (HX2.out k hlt)
      have y0 : wr.cell? ⟨gy, k, none⟩ = some (.int .i64 (bitI b k)) := (hbel.cell (p := ⟨gy, k, none⟩) hgy3).trans (HY.out k hlt)
      obtain ⟨x1, x2⟩ := bitI_bd a k
      obtain ⟨y1, y2⟩ := bitI_bd b k
      have c1 := carry_bd a b k
      obtain ⟨s1, s2⟩ := add_stepI a b k
      have S1 := Lib.hid s1
      have S2 := Lib.hid s2
      clear s1 s2
      generalize bitI a k = xk at *
      generalize bitI b k = yk at *
      have hz := hbel.size
      have dk : decide ((k : Int) < 128) = true := decide_eq_true (by omega)
      have cb : ((carryN a b k : Nat) : Int) ≤ 1 := by omega
      go_wp2_with fail
      go_region
      have hownq : wr.drew.ownsRow w2.heap.size 3 1 _ k (rowV (bitI (a + b)) k) := hown
      have hbelq : Below w2.heap.size w2 wr.drew := hbel.drew
      have hzq : w2.heap.size ≤ wr.drew.heap.size := hz
      clear hown hbel hz x0 y0
      generalize wr.drew = wq at *
      go_wp2_with (at_builtin; refine wpList_append_own _ rfl _ _ 91 rfl w2.heap.size 3 i0 (.int .i64 0) 1 8 Tryz.underlying91 hi0 hz0 hz1 hz2 rfl (by decide) _ _ _ rfl (hownq.alloc _) ⟨wq.heap.size, 0, none⟩ 1 1 [.int .i64 ((xk + yk + (carryN a b k : Int)) % 2)] rfl rfl ?q1_1 ?q1_2 ?q1_3 ?q1_4 ?q1_5 ?_)
      (try case q1_1 => exact cell_one _ _ _)
      (try case q1_2 => (first | exact one_cell_int _ | rfl))
      case q1_3 => (first | (simp only [maxLen]; omega) | omega)
      case q1_4 => omega
      case q1_5 => (first | (rw [size_alloc']; omega) | omega)
      intro v' w1 hown' hgrow _
      have hbel1 := below_own hbelq hownq (Nat.le_refl _) hgrow
      clear hownq hgrow
      go_wp2_with fail
      go_roundw
      case rel => exact ⟨k + 1, by omega, by go_num, by rw [S2.out], by rw [rowV_succ, ← S1.out]; exact hown', hbel1⟩
      case measure => simp [intOf]; omega
    · obtain rfl : k = 128 := by omega
      have hzz := hbel.size
      have hbR2 : Blk wr (w.heap.size + 1 + 1) 24 #[.int .u64 0, .int .u64 0] := hbR.after hbel
      go_wp2_with fail
      refine (refnum_own hown (fun j _ => rfl)).mono ?_
      rintro e w3 ⟨rfl, hb3⟩
      have hbR3 := hbR2.after hb3
      have hbel3 : Below w.heap.size w w3 := bl_
      obtain ⟨k0, k1, _⟩ := blk_two hbR3
      have z0 := hbR3.frozen 0
      have z1 := hbR3.frozen 1
      go_wp2_with fail
      refine bodyPost_ret (v := .tuple #[numV (addN a b), .bool (((carryN a b 128 : Nat) : Int) == 0)]) (by simp [results, Tryz.results67, go_sem, k0, k1, addN]) rfl ⟨by rw [HE.out], bl_⟩
end Go.Proofs.YtgdgklibilddgaaGreatDoor

namespace Go.Proofs.YtgdgklibilddgaaGreatDoor
open Go.RowKit

set_option maxRecDepth 100000 in
set_option maxHeartbeats 1600000 in
theorem refcmp_c (a b : Nat) (w : World) (ha : a < 340282366920938463463374607431768211456) (hb : b < 340282366920938463463374607431768211456) :
    Calls Tryz.prog 71 #[numV a, numV b] w fun e w' => e = .returned (.int .i64 (cmpN a b)) ∧ Below w.heap.size w w' := by
  have h128 : a / 2 ^ 128 = b / 2 ^ 128 := by rw [two128, Nat.div_eq_of_lt ha, Nat.div_eq_of_lt hb]
  go_enter Tryz.func71, Tryz.ntmps71
  go_wp2_with fail
  refine (bits_f _ _ _ (hi_nn _) (hi_lt _) (lo_nn _) (lo_lt _)).mono ?_
  rw [num_hi_lo ha]
  rintro e w1 ⟨gx, cx, rfl, hcx, hgx, hgx2, hxc, _, hb1⟩
  obtain ⟨hc1, hf1⟩ := bcell hb1
  have hz1' := hb1.size
  simp only [size_alloc'] at hz1' hgx
  have hs0 : w.heap.size < w1.heap.size := by omega
  have hs1 : w.heap.size + 1 < w1.heap.size := by omega
  have HX := Lib.hid hxc
  clear hxc
  go_wp2_with fail
  refine (bits_f _ _ _ (hi_nn _) (hi_lt _) (lo_nn _) (lo_lt _)).mono ?_
  rw [num_hi_lo hb]
  rintro e w2 ⟨gy, cy, rfl, hcy, hgy, hgy2, hyc, _, hb2⟩
  have hz2' := hb2.size
  have hbel2 : Below w.heap.size w w2 := bl_
  have hxc : ∀ j, j < 128 → w2.cell? ⟨gx, j, none⟩ = some (.int .i64 (bitI a j)) := fun j hj => (hb2.cell (p := ⟨gx, j, none⟩) hgx2).trans (HX.out j hj)
  have HX2 := Lib.hid hxc
  have HY := Lib.hid hyc
  clear hxc hyc HX hc1 hf1 hb1 hb2
  have hgx3 : gx < w2.heap.size := by omega
  have hgy3 : gy < w2.heap.size := by omega
  clear hs0 hs1
  go_wp2_with fail
  go_loopw [7] (fun i wr => ∃ k : Nat, k ≤ 128 ∧ i = .int .i64 ((k : Int) - 1) ∧ a / 2 ^ k = b / 2 ^ k ∧ Below w2.heap.size w2 wr) (fun i _ => (intOf i + 1).toNat)
  case atStart => exact ⟨128, by omega, rfl, h128, bl_⟩
  case round =>
    obtain ⟨k, hk, rfl, hsame, hbel⟩ := hrel
    have HS := Lib.hid hsame
    clear hsame
    by_cases h0 : k = 0
    · subst h0
      have hc := cmp_eq HS.out
      have HC := Lib.hid hc
      clear hc
      rw [show ((0 : Nat) : Int) - 1 = (-1 : Int) from rfl]
      go_wp2_with fail
      go_ret
      exact ⟨by rw [HC.out]; rfl, bl_⟩
    · obtain ⟨j, rfl⟩ : ∃ j, k = j + 1 := ⟨k - 1, by omega⟩
      rw [show (((j + 1 : Nat) : Int) - 1) = (j : Int) from by omega]
      have x0 : wr.cell? ⟨gx, j, none⟩ = some (.int .i64 (bitI a j)) := (hbel.cell (p := ⟨gx, j, none⟩) hgx3).trans (HX2.out j (by omega))
      have y0 : wr.cell? ⟨gy, j, none⟩ = some (.int .i64 (bitI b j)) := (hbel.cell (p := ⟨gy, j, none⟩) hgy3).trans (HY.out j (by omega))
      obtain ⟨x1, x2⟩ := bitI_bd a j
      obtain ⟨y1, y2⟩ := bitI_bd b j
      have dj : decide ((0 : Int) ≤ (j : Int)) = true := decide_eq_true (by omega)
      by_cases he : bitI a j = bitI b j
      · have hs := cmp_same HS.out he
        have HS2 := Lib.hid hs
        rw [he] at x0 x1 x2
        clear hs he HS
        go_wp2_with fail
        go_region
        go_wp2_with fail
        go_roundw
        case rel => exact ⟨j, by omega, rfl, HS2.out, bl_⟩
        case measure => simp [intOf]
      · have hc := cmp_bits HS.out he
        have HC := Lib.hid hc
        have dn : (bitI a j != bitI b j) = true := by simpa using he
        clear hc he HS
        go_wp2_with fail
        go_region
        go_wp2_with fail
        go_region
        go_wp2_with fail
        go_ret
        exact ⟨by rw [← HC.out]; rfl, bl_⟩
end Go.Proofs.YtgdgklibilddgaaGreatDoor

namespace Go.Proofs.YtgdgklibilddgaaGreatDoor
open Go.RowKit

def platbookref01_Add.f (a0_0 a0_1 : Int) (a1_0 a1_1 : Int) : Option (Int × Int × Bool) := if (okW a0_0 a0_1 && (okW a1_0 a1_1)) = true then some (hi (addN (num a0_0 a0_1) (num a1_0 a1_1)), lo (addN (num a0_0 a0_1) (num a1_0 a1_1)), addF (num a0_0 a0_1) (num a1_0 a1_1)) else none
theorem platbookref01_Add.calls (a0_0 a0_1 : Int) (a1_0 a1_1 : Int) (r1 r2 : Int) (r3 : Bool) (w : World) (h : platbookref01_Add.f a0_0 a0_1 a1_0 a1_1 = some (r1, r2, r3)) :
    Calls Tryz.prog 67 #[.agg #[.int .u64 a0_0, .int .u64 a0_1], .agg #[.int .u64 a1_0, .int .u64 a1_1]] w fun e w' => e = .returned (.tuple #[.agg #[.int .u64 r1, .int .u64 r2], .bool r3]) ∧ Below w.heap.size w w' := by
  unfold platbookref01_Add.f at h
  obtain ⟨hg, h⟩ := some_if h
  simp only [Bool.and_eq_true] at hg
  obtain ⟨g0, g1⟩ := hg
  simp only [Prod.mk.injEq] at h
  obtain ⟨rfl, rfl, rfl⟩ := h
  rw [okW_num g0, okW_num g1]
  exact refadd_c (num a0_0 a0_1) (num a1_0 a1_1) w (okW_lt g0) (okW_lt g1)
def platbookref01_Cmp.f (a0_0 a0_1 : Int) (a1_0 a1_1 : Int) : Option Int := if (okW a0_0 a0_1 && (okW a1_0 a1_1)) = true then some (cmpN (num a0_0 a0_1) (num a1_0 a1_1)) else none
theorem platbookref01_Cmp.calls (a0_0 a0_1 : Int) (a1_0 a1_1 : Int) (r : Int) (w : World) (h : platbookref01_Cmp.f a0_0 a0_1 a1_0 a1_1 = some r) :
    Calls Tryz.prog 71 #[.agg #[.int .u64 a0_0, .int .u64 a0_1], .agg #[.int .u64 a1_0, .int .u64 a1_1]] w fun e w' => e = .returned (.int .i64 r) ∧ Below w.heap.size w w' := by
  unfold platbookref01_Cmp.f at h
  obtain ⟨hg, h⟩ := some_if h
  simp only [Bool.and_eq_true] at hg
  obtain ⟨g0, g1⟩ := hg
  subst h
  rw [okW_num g0, okW_num g1]
  exact refcmp_c (num a0_0 a0_1) (num a1_0 a1_1) w (okW_lt g0) (okW_lt g1)
end Go.Proofs.YtgdgklibilddgaaGreatDoor

namespace Go.Proofs.YtgdgklibilddgaaGreatDoor
open Go.RowKit Go.Proofs.YtgdgklibilddgaaGreatDoorW.PrintWords Go.Proofs.YtgdgklibilddgaaGreatDoorW.PrintLast

/-- a block that is known, behind steps that leave it -/
theorem pk_ {w W : World} {g : Nat} {o : Obj} (h : Aside0 (w.heap[g]? = some o)) (k : w.heap[g]? = some o → W.heap[g]? = some o := by intro h_; (with_reducible repeat (first | refine blk_drewN ?_ _ | refine blk_drew ?_ | refine blk_alloc ?_ _)); exact h_) : W.heap[g]? = some o := k h.out
/-- what was there at the beginning, behind steps that leave it -/
theorem pb_ {w0 w W : World} (h : Aside0 (Below w0.heap.size w0 w)) (k : Below w0.heap.size w0 w → Below w0.heap.size w0 W := by intro h_; repeat (first | (with_reducible first | exact h_ | apply below_alloc | apply pw_below_drewN | apply below_drew1 | (refine below_set ?_ (Aside0.out ?_); rotate_left; assumption)) | exact h_)) : Below w0.heap.size w0 W := k h.out
theorem pw_ {w W : World} {g : Nat} {o : Obj} (h : w.heap[g]? = some o) (k : w.heap[g]? = some o → W.heap[g]? = some o := by intro h_; (with_reducible repeat (first | refine blk_drewN ?_ _ | refine blk_drew ?_ | refine blk_alloc ?_ _)); exact h_) : W.heap[g]? = some o := k h
theorem bb_ {w W w2 : World} {g : Nat} {o : Obj} (h : Aside0 (w.heap[g]? = some o)) (hb : Below W.heap.size W w2) (k : w.heap[g]? = some o → W.heap[g]? = some o := by intro h_; (with_reducible repeat (first | refine blk_drewN ?_ _ | refine blk_drew ?_ | refine blk_alloc ?_ _)); exact h_) : Aside0 (w2.heap[g]? = some o) := ⟨blk_below (k h.out) hb⟩
theorem bs_ {w0 w W w2 : World} (h : Aside0 (Below w0.heap.size w0 w)) (hb : Below W.heap.size W w2) (k : Below w0.heap.size w0 w → Below w0.heap.size w0 W := by intro h_; repeat (first | (with_reducible first | exact h_ | apply below_alloc | apply pw_below_drewN | apply below_drew1 | (refine below_set ?_ (Aside0.out ?_); rotate_left; assumption)) | exact h_)) : Aside0 (Below w0.heap.size w0 w2) := ⟨below_step (k h.out) hb⟩
theorem gw_ {w0 w W : World} {g : Nat} (h : Aside0 (Below w0.heap.size w0 w)) (hg : g = W.heap.size) (k : Below w0.heap.size w0 w → Below w0.heap.size w0 W := by intro h_; repeat (first | (with_reducible first | exact h_ | apply below_alloc | apply pw_below_drewN | apply below_drew1 | (refine below_set ?_ (Aside0.out ?_); rotate_left; assumption)) | exact h_)) : Aside0 (w0.heap.size ≤ g) := ⟨hg ▸ below_size (k h.out)⟩
theorem nl_ {w W : World} {g g2 : Nat} {o : Obj} (h : Aside0 (w.heap[g]? = some o)) (hg : g2 = W.heap.size) (k : w.heap[g]? = some o → W.heap[g]? = some o := by intro h_; (with_reducible repeat (first | refine blk_drewN ?_ _ | refine blk_drew ?_ | refine blk_alloc ?_ _)); exact h_) : Aside0 (g ≠ g2) := ⟨by rw [hg]; exact Nat.ne_of_lt (blk_lt (k h.out))⟩
theorem ng_ {w W : World} {g g2 : Nat} {o : Obj} (h : Aside0 (w.heap[g]? = some o)) (hg : g2 = W.heap.size) (k : w.heap[g]? = some o → W.heap[g]? = some o := by intro h_; (with_reducible repeat (first | refine blk_drewN ?_ _ | refine blk_drew ?_ | refine blk_alloc ?_ _)); exact h_) : Aside0 (g2 ≠ g) := ⟨by rw [hg]; exact Nat.ne_of_gt (blk_lt (k h.out))⟩
theorem c2_ {w : World} {g : Nat} {t : TypeId} {a b : Value} (h : Aside0 (w.heap[g]? = some (.cells #[a, b] t (0, 0)))) : w.cell? ⟨g, 0, none⟩ = some a ∧ w.cell? ⟨g, 1, none⟩ = some b ∧ w.frozen? ⟨g, 0, none⟩ = false ∧ w.frozen? ⟨g, 1, none⟩ = false :=
  ⟨(blk_cell h.out 0).trans rfl, (blk_cell h.out 1).trans rfl, blk_frozen h.out 0, blk_frozen h.out 1⟩
theorem c3_ {w : World} {g : Nat} {t : TypeId} {a b c : Value} (h : Aside0 (w.heap[g]? = some (.cells #[a, b, c] t (0, 0)))) : w.cell? ⟨g, 0, none⟩ = some a ∧ w.cell? ⟨g, 1, none⟩ = some b ∧ w.cell? ⟨g, 2, none⟩ = some c ∧ w.frozen? ⟨g, 0, none⟩ = false ∧ w.frozen? ⟨g, 1, none⟩ = false ∧ w.frozen? ⟨g, 2, none⟩ = false :=
  ⟨(blk_cell h.out 0).trans rfl, (blk_cell h.out 1).trans rfl, (blk_cell h.out 2).trans rfl, blk_frozen h.out 0, blk_frozen h.out 1, blk_frozen h.out 2⟩
theorem c4_ {w : World} {g : Nat} {t : TypeId} {a b c d : Value} (h : Aside0 (w.heap[g]? = some (.cells #[a, b, c, d] t (0, 0)))) : w.cell? ⟨g, 0, none⟩ = some a ∧ w.cell? ⟨g, 1, none⟩ = some b ∧ w.cell? ⟨g, 2, none⟩ = some c ∧ w.cell? ⟨g, 3, none⟩ = some d ∧ w.frozen? ⟨g, 0, none⟩ = false ∧ w.frozen? ⟨g, 1, none⟩ = false ∧ w.frozen? ⟨g, 2, none⟩ = false ∧ w.frozen? ⟨g, 3, none⟩ = false :=
  ⟨(blk_cell h.out 0).trans rfl, (blk_cell h.out 1).trans rfl, (blk_cell h.out 2).trans rfl, (blk_cell h.out 3).trans rfl, blk_frozen h.out 0, blk_frozen h.out 1, blk_frozen h.out 2, blk_frozen h.out 3⟩
section
variable {P : Program} {ops : Array Oper} {Q : Exit → Act → World → Prop} {md : Region.Mode} {S : World → Prop} {ds : List Nat}
theorem gl_ {rest : List Oper} {oi : Oper} {a : Act} {w : World} (N : Option Tmp) {f : FuncId} {fn : Func} {xs : Array Operand} {ts : Array TypeId} (hf : P.funcs[f]? = some fn) (args : Array Value)
    (h : Calls P f args w fun e w' => ∃ v, e = .returned v ∧ wpList P ops Q rest (a.put N v) w')
    (hop : oi.op = .call { callee := .value (.func f), args := xs, argTypes := ts } := by rfl) (hargs : xs.map a.eval = args := by (try simp only [List.map_toArray, List.map_cons, List.map_nil]); first | done | rfl | (simp only [List.length_drop, List.length_take]; rfl))
    (hd : oi.dst = N := by rfl) (hg : oi.guard = none := by rfl) (hname : (fn.name == "runtime.NumGoroutine") = false := by kernel_rfl) (hb : fn.body.isSome = true := by rfl) : wpList P ops Q (oi :: rest) a w :=
  goesL_ N hd hg hf hname hb args hop hargs h
theorem gr_ {oi : Oper} {N : Option Tmp} {a : Act} {w : World} {K : Act → World → Prop} {f : FuncId} {fn : Func} {xs : Array Operand} {ts : Array TypeId} (hf : P.funcs[f]? = some fn) (args : Array Value)
    (h : Calls P f args w fun e w' => ∃ v, e = .returned v ∧ K (a.put N v) w')
    (hw : Region.wanted oi (yielded ops a.tmps) = true := by rfl) (hN : oi.dst = N := by rfl) (hop : oi.op = .call { callee := .value (.func f), args := xs, argTypes := ts } := by rfl) (hargs : xs.map a.eval = args := by (try simp only [List.map_toArray, List.map_cons, List.map_nil]); first | done | rfl | (simp only [List.length_drop, List.length_take]; rfl))
    (hname : (fn.name == "runtime.NumGoroutine") = false := by kernel_rfl) (hb : fn.body.isSome = true := by rfl) : if Region.wanted oi (yielded ops a.tmps) = true then Oper.wp P oi a w K Q else K (a.put N undef) w :=
  goes_ hf hname hb args hw hN hop hargs h
theorem bx_ {rest : List Oper} {o : Oper} {a : Act} {W : World} (N : Tmp) (cs : Array Value) (t : TypeId)
    (h : ∀ g, g = W.heap.size → ∀ w1, w1.heap[g]? = some (.cells cs t (0, 0)) → Below W.heap.size W w1 → wpList P ops Q rest (a.put o.dst (.pointer (some ⟨g, 0, none⟩))) w1)
    (hd : o.dst = some N := by rfl) (hgd : o.guard = none := by rfl) (hrun : (execOp a.eval o).run P W = .ok (.value (.pointer (some ⟨W.heap.size, 0, none⟩))) (W.alloc (.cells cs t (0, 0))) := by first | (go_simp; done) | (go_simp; rfl)) : wpList P ops Q (o :: rest) a W :=
  box_event hgd hd hrun h
/-- what has come up, as a number's bits -/
def bm_ (n m : Nat) : Array Bool := ((List.range n).map fun i => m.testBit i).toArray
theorem pu_ {T : Bool × List (List Nat × List Nat)} {oi : Oper} {v : Value} {fuel : Nat} {l : Array Bool} {a a' : Act} {w : World} (i : Nat) (N : Option Tmp) (l' : Array Bool) (hi : ops[i]? = some oi) (hT : Aside0 (rtab md ops = T))
    (hy : Region.wanted oi (yielded ops a.tmps) = true ∧ ∀ w, (execOp a.eval oi).run P w = .ok (.value v) w) (h : wpAnyLast P md ops Q S ds fuel l' a' w)
    (ha : a.put N v = a' := by simp only [Act.put, List.setIfInBounds_toArray, List.set_cons_zero, List.set_cons_succ, i64_w, i32_w]; rfl) (hN : oi.dst = N := by rfl) (hc : anyT T l.toList l'.toList i = true := by kernel_rfl)
    (hQ : ∀ c a w, Q (.panic c) (a.put oi.dst v) w → Q (.panic c) a w := by exact fun _ _ _ h => h) : wpAnyLast P md ops Q S ds (fuel + 1) l a w :=
  pure_ (i := i) (N := N) l' hi hN (any_of hT.out hc) hQ (.inl hy) ha h
theorem ta_ {T : Bool × List (List Nat × List Nat)} {B : List Nat} {oi : Oper} {v : Value} {fuel : Nat} {l : Array Bool} {a a' : Act} {w : World} (i : Nat) (N : Option Tmp) (l' : Array Bool) (hi : ops[i]? = some oi) (hT : Aside0 (rtab md ops = T)) (hB : Aside0 (waitsOk T.2 B = true))
    (hy : Region.wanted oi (yielded ops a.tmps) = true ∧ ∀ w, S w → (execOp a.eval oi).run P w = .ok (.value v) w) (hS : S w) (h : wpAnyLast P md ops Q S ds fuel l' a' w)
    (ha : a.put N v = a' := by simp only [Act.put, List.setIfInBounds_toArray, List.set_cons_zero, List.set_cons_succ, i64_w, i32_w]; rfl) (hN : oi.dst = N := by rfl) (hc : takeW T B ds l.toList l'.toList i = true := by kernel_rfl)
    (hQ : ∀ c a w, Q (.panic c) (a.put oi.dst v) w → Q (.panic c) a w := by exact fun _ _ _ h => h) : wpAnyLast P md ops Q S ds (fuel + 1) l a w :=
  take_ (i := i) (N := N) l' hi hN (take_ofW hT.out hB.out hc) hQ (.inl hy) hS ha h
end
theorem kc_ {w : World} {g : Nat} {t : TypeId} {cs : Array Value} {v : Value} (h : Aside0 (w.heap[g]? = some (.cells cs t (0, 0)))) (i : Nat) (hv : cs[i]? = some v := by rfl) : w.cell? ⟨g, i, none⟩ = some v := (blk_cell h.out i).trans hv
end Go.Proofs.YtgdgklibilddgaaGreatDoor

namespace Go.Proofs.YtgdgklibilddgaaGreatDoor.PSp
open Go.RowKit Go.Proofs.YtgdgklibilddgaaGreatDoorW.PrintWords Go.Proofs.YtgdgklibilddgaaGreatDoorW.PrintLast Go.Proofs.YtgdgklibilddgaaGreatDoorW.PrintMore
attribute [local go_sem] max2_int min2_int max_two min_two max_three min_three max_four min_four   -- for this text's walks alone



def errW : Option Int → Value
  | none => .nilIface
  | some c => .iface 0 (.int .i64 c)
theorem errW_none : errW none = .nilIface := rfl
theorem errW_some (c : Int) : errW (some c) = .iface 0 (.int .i64 c) := rfl

theorem info3 : (Tryz.prog.info? 3).map (fun i => (i.zero, i.size, i.bytes)) = some (some (.int .i64 0), 1, 8) := by kernel_rfl
theorem info38 : (Tryz.prog.info? 38).map (fun i => (i.zero, i.size, i.bytes)) = some (some (.agg #[(.bool false), (.int .u64 0), (.int .u64 0), (.int .i64 0)]), 4, 32) := by kernel_rfl
structure S24 where
  f0 : Int
  f1 : Int
def z24 : S24 := ⟨(0 : Int), (0 : Int)⟩
def k24 : Kd S24 := Kd.iso (Kd.pair (Kd.int .u64) (Kd.int .u64)) (fun x : S24 => (x.f0, x.f1))
theorem k24_open {w : World} {x : S24} {cs : List Value} (h : k24.K w x cs) : cs = [.int .u64 x.f0, .int .u64 x.f1] := by
  obtain ⟨_, _, rfl, rfl, rfl⟩ := h
  exact rfl
theorem k24_mkM (w : World) (base : Nat) (ok : Nat → Prop) (x : S24)  : k24.M w base ok x [.int .u64 x.f0, .int .u64 x.f1] := ⟨[.int .u64 x.f0], [.int .u64 x.f1], rfl, rfl, rfl⟩
structure S26 where
  f0 : Bool
  f1 : S24
def z26 : S26 := ⟨false, z24⟩
def k26 : Kd S26 := Kd.iso (Kd.pair Kd.bool k24) (fun x : S26 => (x.f0, x.f1))
theorem k26_open {w : World} {x : S26} {cs : List Value} (h : k26.K w x cs) : cs = [.bool x.f0, .int .u64 x.f1.f0, .int .u64 x.f1.f1] := by
  obtain ⟨_, _, rfl, rfl, s1⟩ := h
  obtain rfl := k24_open s1
  exact rfl
theorem k26_mkM (w : World) (base : Nat) (ok : Nat → Prop) (x : S26)  : k26.M w base ok x [.bool x.f0, .int .u64 x.f1.f0, .int .u64 x.f1.f1] := ⟨[.bool x.f0], [.int .u64 x.f1.f0, .int .u64 x.f1.f1], rfl, rfl, (k24_mkM w base ok x.f1 )⟩
structure S38 where
  f0 : S26
  f1 : Int
def z38 : S38 := ⟨z26, (0 : Int)⟩
def k38 : Kd S38 := Kd.iso (Kd.pair k26 (Kd.int .i64)) (fun x : S38 => (x.f0, x.f1))
theorem k38_open {w : World} {x : S38} {cs : List Value} (h : k38.K w x cs) : cs = [.bool x.f0.f0, .int .u64 x.f0.f1.f0, .int .u64 x.f0.f1.f1, .int .i64 x.f1] := by
  obtain ⟨_, _, rfl, s0, rfl⟩ := h
  obtain rfl := k26_open s0
  exact rfl
theorem k38_mkM (w : World) (base : Nat) (ok : Nat → Prop) (x : S38)  : k38.M w base ok x [.bool x.f0.f0, .int .u64 x.f0.f1.f0, .int .u64 x.f0.f1.f1, .int .i64 x.f1] := ⟨[.bool x.f0.f0, .int .u64 x.f0.f1.f0, .int .u64 x.f0.f1.f1], [.int .i64 x.f1], rfl, (k26_mkM w base ok x.f0 ), rfl⟩
def rd_T38 (xs : List S38) (i : Int) : S38 := xs.getD i.toNat z38
theorem at_T38 {w : World} {A : Option Addr} {n : Nat} {xs : List S38} (h : Kd.C k38 w A n xs) (i : Int) (h0 : 0 ≤ i) (h1 : i < n) : ∃ ad , A = some ad ∧ w.cell? (ad.add (i.toNat * 4)) = some (.bool (rd_T38 xs i).f0.f0) ∧ w.cell? ⟨(ad.add (i.toNat * 4)).block, (ad.add (i.toNat * 4)).off + 1, none⟩ = some (.int .u64 (rd_T38 xs i).f0.f1.f0) ∧ w.cell? ⟨(ad.add (i.toNat * 4)).block, (ad.add (i.toNat * 4)).off + 2, none⟩ = some (.int .u64 (rd_T38 xs i).f0.f1.f1) ∧ w.cell? ⟨(ad.add (i.toNat * 4)).block, (ad.add (i.toNat * 4)).off + 3, none⟩ = some (.int .i64 (rd_T38 xs i).f1) := by
  obtain ⟨ad, c, e, _, hK, hc0⟩ := Kd.C_get h z38 i h0 h1
  have hc : ∀ j u, c[j]? = some u → w.cell? (ad.add (i.toNat * 4 + j)) = some u := hc0
  obtain rfl := k38_open hK
  exact ⟨ad, e, hc 0 _ rfl, by rw [← add_field _ _ 1 (by omega)]; exact hc 1 _ rfl, by rw [← add_field _ _ 2 (by omega)]; exact hc 2 _ rfl, by rw [← add_field _ _ 3 (by omega)]; exact hc 3 _ rfl⟩

end Go.Proofs.YtgdgklibilddgaaGreatDoor.PSp

namespace Go.Proofs.YtgdgklibilddgaaGreatDoor.PSp
open Go.RowKit Go.Proofs.YtgdgklibilddgaaGreatDoorW.PrintWords Go.Proofs.YtgdgklibilddgaaGreatDoorW.PrintLast Go.Proofs.YtgdgklibilddgaaGreatDoorW.PrintMore
attribute [local go_sem] max2_int min2_int max_two min_two max_three min_three max_four min_four   -- for this text's walks alone

theorem eqA24 (d : Nat) (w : World) (x0 y0 : Int) (x1 y1 : Int) :
    (Op.equalIn (d + 2) 24 (.agg #[.int .u64 x0, .int .u64 x1]) (.agg #[.int .u64 y0, .int .u64 y1])).run Tryz.prog w = .ok (x0 == y0 && (x1 == y1)) w := by
  refine eqA_of Tryz.underlying24 (by kernel_rfl) ?_
  refine eqf_cons (by rfl) (by go_simp; rfl) (by go_simp; rfl) (by go_simp) ?_
  exact eqf_last (by rfl) (by go_simp; rfl) (by go_simp; rfl) (by go_simp)
theorem eqA26 (d : Nat) (w : World) (x0 y0 : Bool) (x1 y1 : Int) (x2 y2 : Int) :
    (Op.equalIn (d + 3) 26 (.agg #[.bool x0, .int .u64 x1, .int .u64 x2]) (.agg #[.bool y0, .int .u64 y1, .int .u64 y2])).run Tryz.prog w = .ok (x0 == y0 && ((x1 == y1 && (x2 == y2)))) w := by
  refine eqA_of Tryz.underlying26 (by kernel_rfl) ?_
  refine eqf_cons (by rfl) (by go_simp; rfl) (by go_simp; rfl) (by go_simp) ?_
  exact eqf_last (by rfl) (by go_simp) (by go_simp) (eqA24 (d + 0) w _ _ _ _)
end Go.Proofs.YtgdgklibilddgaaGreatDoor.PSp

namespace Go.Proofs.YtgdgklibilddgaaGreatDoor.PSp
open Go.RowKit Go.Proofs.YtgdgklibilddgaaGreatDoorW.PrintWords Go.Proofs.YtgdgklibilddgaaGreatDoorW.PrintLast Go.Proofs.YtgdgklibilddgaaGreatDoorW.PrintMore
attribute [local go_sem] max2_int min2_int max_two min_two max_three min_three max_four min_four   -- for this text's walks alone

mutual
def platbookref01_Bits.l0 : Nat → List Int → Int → Int → Int → Option (List Int)
 | 0, _, _, _, _ => none
 | k + 1, x3, x4, x5, x6 => if x6 < 64 then (if x3.length < 17592186044416 then (platbookref01_Bits.l0 k (x3 ++ [wrap64 (Int.tmod x4 2)]) (IntKind.u64.wrap (Int.tdiv x4 2)) x5 (wrap64 (x6 + 1))) else (none)) else (platbookref01_Bits.l1 k x3 x5 0)
def platbookref01_Bits.l1 : Nat → List Int → Int → Int → Option (List Int)
 | 0, _, _, _ => none
 | k + 1, x3, x5, x7 => if x7 < 64 then (if x3.length < 17592186044416 then (platbookref01_Bits.l1 k (x3 ++ [wrap64 (Int.tmod x5 2)]) (IntKind.u64.wrap (Int.tdiv x5 2)) (wrap64 (x7 + 1))) else (none)) else (some x3)
end
def platbookref01_Bits.f (k : Nat) (a0_0 : Int) (a0_1 : Int) : Option (List Int) := platbookref01_Bits.l0 k (([] : List Int)) a0_1 a0_0 0
set_option maxHeartbeats 8000000 in
set_option maxRecDepth 100000 in
theorem platbookref01_Bits.calls (k : Nat) (a0_0 : Int) (a0_1 : Int) (r : List Int) (w : World) (h : platbookref01_Bits.f k a0_0 a0_1 = some r) :
  Calls Tryz.prog 92 #[.agg #[.int .u64 a0_0, .int .u64 a0_1]] w fun e w' => ∃ v0_ : Value, e = .returned (v0_) ∧ Kd.R (Kd.int .i64) 3 w' w.heap.size (fun _ => True) v0_ r ∧ Below w.heap.size w w' := by
 have hu24 := Tryz.underlying24
 have HB := Aside0.mk (Below.refl w.heap.size w)
 have H : (platbookref01_Bits.l0 k (([] : List Int)) a0_1 a0_0 0) = some r := h
 clear h
 obtain ⟨y102, hy102⟩ : ∃ y_ : List Int, y_ = (([] : List Int)) := ⟨_, rfl⟩
 replace H : (platbookref01_Bits.l0 k y102 a0_1 a0_0 0) = some r := by first | (rw [hy102]; with_reducible exact H) | (have H2_ := (Option.bind_some _ _).symm.trans H; rw [hy102]; with_reducible exact H2_) | (have H2_ := (Option.bind_some _ _).symm.trans H; with_reducible exact H2_) | with_reducible exact H | (rw [hy102]; exact H) | exact H
 have Ny102 := Aside0.mk hy102
 clear hy102
 have H' := Aside0.mk H
 clear H
 go_enter Tryz.func92, Tryz.ntmps92
 go_wp2_with (first | ((with_reducible refine gate_dst (N := 1) rfl ?_); refine bx_ 1 #[.int .u64 a0_0, .int .u64 a0_1] 24 ?_; intro gb101 hg w2 hbox hb; have BK101 := Aside0.mk (hbox); have GW101 := gw_ HB hg; have GE101 := gw_ HB hg; replace HB := bs_ HB hb; clear hb hbox hg) | ((with_reducible refine gate_dst (N := 8) rfl ?_); refine Kd.R_lit (Kd.int .i64) _ 3 ?hg (N := 8) ?hd (xs := ([] : List Int)) (inner := []) (ok := fun _ => True) (okp := fun _ => True) ?hr ?hp (fun _ hk => hk) trivial (Below.refl _ _) (Nat.le_refl _) (by simp) ?_; (case hd => rfl); (case hg => rfl); (case hr => first | (go_simp; done) | (go_simp; rfl)); (case hp => exact (Reps.none _ _)); intro v103 w3 ho4 hb hg_ hnew_; clear hg_ hnew_; (first | rw [← Ny102.out] at ho4 | (simp only [Int.reduceToNat] at ho4; rw [← Ny102.out] at ho4)); have HO104 := Aside0.mk (Kd.R_lower ho4 (below_size (pb_ HB))); replace BK101 := bb_ BK101 hb; replace HB := bs_ HB hb; clear hb ho4; obtain ⟨hcz5_0, hcz5_1, hfz5_0, hfz5_1⟩ := c2_ BK101))
 go_loopg [3, 4, 6] k (fun kq v3 v4 v6 w' => ∃ (x3_1 : List Int) (x4_1 : Int) (x6_1 : Int), v4 = .int .u64 x4_1 ∧ v6 = .int .i64 x6_1 ∧ Aside0 (platbookref01_Bits.l0 kq x3_1 x4_1 a0_0 x6_1 = some r) ∧ Aside0 (kq ≤ k) ∧ Aside0 (Kd.R (Kd.int .i64) 3 w' w.heap.size (fun _ => True) v3 x3_1) ∧ Aside0 (w'.heap[gb101]? = some (.cells #[.int .u64 a0_0, .int .u64 a0_1] 24 (0, 0))) ∧ Aside0 (Below w.heap.size w w'))
 case atStart => exact ⟨(y102), (a0_1), (0), (by first | rfl | (simp; done) | (simp [*]; done)), (by first | rfl | (simp; done) | (simp [*]; done)), H', ⟨Nat.le_refl _⟩, ⟨by (with_reducible repeat (first | apply Kd.R_alloc | apply Kd.R_drewN | apply Kd.R_drew)); exact HO104.out⟩, ⟨by refine pw_ ?_; exact BK101.out⟩, ⟨pb_ HB⟩⟩
 case round =>
  clear H'
  try clear p2
  try clear hcz5_0
  try clear hcz5_1
  try clear hfz5_0
  try clear hfz5_1
  obtain ⟨x3_1, x4_1, x6_1, rfl, rfl, HA, HK1, HO_3, BK101, HB⟩ := hrel
  cases gk with
  | zero => exact absurd HA.out (by simp [platbookref01_Bits.l0])
  | succ k1 =>
   have H := HA.out
   clear HA
   simp only [platbookref01_Bits.l0] at H
   by_cases c6 : x6_1 < 64
   ·
    rw [if_pos c6] at H
    have c6b0 : decide (x6_1 < 64) = true := decide_eq_true c6
    clear c6
    by_cases c7 : x3_1.length < 17592186044416
    ·
     rw [if_pos c7] at H
     have LMc7 := Aside0.mk c7
     clear c7
     obtain ⟨y105, hy105⟩ : ∃ y_ : List Int, y_ = (x3_1 ++ [wrap64 (Int.tmod x4_1 2)]) := ⟨_, rfl⟩
     replace H : (platbookref01_Bits.l0 k1 y105 (IntKind.u64.wrap (Int.tdiv x4_1 2)) a0_0 (wrap64 (x6_1 + 1))) = some r := by first | (rw [hy105]; with_reducible exact H) | (have H2_ := (Option.bind_some _ _).symm.trans H; rw [hy105]; with_reducible exact H2_) | (have H2_ := (Option.bind_some _ _).symm.trans H; with_reducible exact H2_) | with_reducible exact H | (rw [hy105]; exact H) | exact H
     have Ny105 := Aside0.mk hy105
     clear hy105
     have H' := Aside0.mk H
     clear H
     go_wp2_with (first | ((with_reducible refine gate_builtin (b := .append) (xs := #[.tmp 17, .tmp 21]) rfl ?_); at_builtin; refine Kd.R_append (Kd.int .i64) (w0 := w) w.heap.size rfl (.tmp 17) (.tmp 21) 91 3 (.int .i64 0) 8 rfl Tryz.underlying91 info3 rfl (by decide) (by omega) u3 x3_1 (wrap64 (Int.tmod x4_1 2)) [.int .i64 (wrap64 (Int.tmod x4_1 2))] (fun _ => True) (fun _ => False) rfl rfl ?aP (fun _ hk => hk.elim) ?aF ?aO ?aB ?aS ?aL ?_; (case aP => exact rfl); (case aB => exact (pb_ HB)); (case aF => exact (fun _ _ => trivial)); (case aO => exact (by (with_reducible repeat (first | apply Kd.R_alloc | apply Kd.R_drewN | apply Kd.R_drew)); exact HO_3.out)); (case aS => exact (below_size (pb_ HB))); (case aL => have := LMc7.out; omega); intro v106 w8 ho hb hg hat; rw [← Ny105.out] at ho; have HO107 := Aside0.mk (ho); replace BK101 := Aside0.mk (blk_grown (g := gb101) (o := .cells #[.int .u64 a0_0, .int .u64 a0_1] 24 (0, 0)) (pk_ BK101) hg (Kd.R_ne HO_3.out BK101.out (by decide))); replace HB := Aside0.mk (hb); clear HO_3; clear ho hb hg hat))
     go_roundg k1
     case measure => have := HK1.out; omega
     case rel => exact ⟨(y105), (IntKind.u64.wrap (Int.tdiv x4_1 2)), (wrap64 (x6_1 + 1)), (by first | rfl | (simp; done) | (simp [*]; done)), (by first | rfl | (simp; done) | (simp [*]; done)), H', ⟨by have := HK1.out; omega⟩, ⟨by (with_reducible repeat (first | apply Kd.R_alloc | apply Kd.R_drewN | apply Kd.R_drew)); exact HO107.out⟩, ⟨by refine pw_ ?_; exact BK101.out⟩, ⟨pb_ HB⟩⟩
    ·
     rw [if_neg c7] at H
     exact absurd H (by simp)
   ·
    rw [if_neg c6] at H
    have c6b0 : decide (x6_1 < 64) = false := decide_eq_false c6
    clear c6
    have H' := Aside0.mk H
    clear H
    go_wp2
    go_loopg [3, 5, 7] k1 (fun kq v3 v5 v7 w' => ∃ (x3_2 : List Int) (x5_2 : Int) (x7_2 : Int), v5 = .int .u64 x5_2 ∧ v7 = .int .i64 x7_2 ∧ Aside0 (platbookref01_Bits.l1 kq x3_2 x5_2 x7_2 = some r) ∧ Aside0 (kq ≤ k1) ∧ Aside0 (Kd.R (Kd.int .i64) 3 w' w.heap.size (fun _ => True) v3 x3_2) ∧ Aside0 (w'.heap[gb101]? = some (.cells #[.int .u64 a0_0, .int .u64 a0_1] 24 (0, 0))) ∧ Aside0 (Below w.heap.size w w'))
    case atStart => exact ⟨(x3_1), (a0_0), (0), (by first | rfl | (simp; done) | (simp [*]; done)), (by first | rfl | (simp; done) | (simp [*]; done)), H', ⟨Nat.le_refl _⟩, ⟨by (with_reducible repeat (first | apply Kd.R_alloc | apply Kd.R_drewN | apply Kd.R_drew)); exact HO_3.out⟩, ⟨by refine pw_ ?_; exact BK101.out⟩, ⟨pb_ HB⟩⟩
    case round =>
     clear H'
     try clear p2
     try clear c6
     try clear c6b0
     try clear p6
     try clear c7
     try clear hcz5_0
     try clear hcz5_1
     try clear hfz5_0
     try clear hfz5_1
     try clear p2
     obtain ⟨x3_2, x5_2, x7_2, rfl, rfl, HA, HK2, HO_3, BK101, HB⟩ := hrel
     cases gk with
     | zero => exact absurd HA.out (by simp [platbookref01_Bits.l1])
     | succ k2 =>
      have H := HA.out
      clear HA
      simp only [platbookref01_Bits.l1] at H
      by_cases c9 : x7_2 < 64
      ·
       rw [if_pos c9] at H
       have c9b0 : decide (x7_2 < 64) = true := decide_eq_true c9
       clear c9
       by_cases c10 : x3_2.length < 17592186044416
       ·
        rw [if_pos c10] at H
        have LMc10 := Aside0.mk c10
        clear c10
        obtain ⟨y108, hy108⟩ : ∃ y_ : List Int, y_ = (x3_2 ++ [wrap64 (Int.tmod x5_2 2)]) := ⟨_, rfl⟩
        replace H : (platbookref01_Bits.l1 k2 y108 (IntKind.u64.wrap (Int.tdiv x5_2 2)) (wrap64 (x7_2 + 1))) = some r := by first | (rw [hy108]; with_reducible exact H) | (have H2_ := (Option.bind_some _ _).symm.trans H; rw [hy108]; with_reducible exact H2_) | (have H2_ := (Option.bind_some _ _).symm.trans H; with_reducible exact H2_) | with_reducible exact H | (rw [hy108]; exact H) | exact H
        have Ny108 := Aside0.mk hy108
        clear hy108
        have H' := Aside0.mk H
        clear H
        go_wp2_with (first | ((with_reducible refine gate_builtin (b := .append) (xs := #[.tmp 29, .tmp 33]) rfl ?_); at_builtin; refine Kd.R_append (Kd.int .i64) (w0 := w) w.heap.size rfl (.tmp 29) (.tmp 33) 91 3 (.int .i64 0) 8 rfl Tryz.underlying91 info3 rfl (by decide) (by omega) u3 x3_2 (wrap64 (Int.tmod x5_2 2)) [.int .i64 (wrap64 (Int.tmod x5_2 2))] (fun _ => True) (fun _ => False) rfl rfl ?aP (fun _ hk => hk.elim) ?aF ?aO ?aB ?aS ?aL ?_; (case aP => exact rfl); (case aB => exact (pb_ HB)); (case aF => exact (fun _ _ => trivial)); (case aO => exact (by (with_reducible repeat (first | apply Kd.R_alloc | apply Kd.R_drewN | apply Kd.R_drew)); exact HO_3.out)); (case aS => exact (below_size (pb_ HB))); (case aL => have := LMc10.out; omega); intro v109 w11 ho hb hg hat; rw [← Ny108.out] at ho; have HO110 := Aside0.mk (ho); replace BK101 := Aside0.mk (blk_grown (g := gb101) (o := .cells #[.int .u64 a0_0, .int .u64 a0_1] 24 (0, 0)) (pk_ BK101) hg (Kd.R_ne HO_3.out BK101.out (by decide))); replace HB := Aside0.mk (hb); clear HO_3; clear ho hb hg hat))
        go_roundg k2
        case measure => have := HK1.out; have := HK2.out; omega
        case rel => exact ⟨(y108), (IntKind.u64.wrap (Int.tdiv x5_2 2)), (wrap64 (x7_2 + 1)), (by first | rfl | (simp; done) | (simp [*]; done)), (by first | rfl | (simp; done) | (simp [*]; done)), H', ⟨by have := HK1.out; have := HK2.out; omega⟩, ⟨by (with_reducible repeat (first | apply Kd.R_alloc | apply Kd.R_drewN | apply Kd.R_drew)); exact HO110.out⟩, ⟨by refine pw_ ?_; exact BK101.out⟩, ⟨pb_ HB⟩⟩
       ·
        rw [if_neg c10] at H
        exact absurd H (by simp)
      ·
       rw [if_neg c9] at H
       have c9b0 : decide (x7_2 < 64) = false := decide_eq_false c9
       clear c9
       obtain rfl := Option.some.inj H
       go_wp2
       go_ret
       exact ⟨_, by first | rfl | (simp [errW_none, errW_some] <;> rfl) | (simp [*, errW_none, errW_some] <;> rfl), by (with_reducible repeat (first | apply Kd.R_alloc | apply Kd.R_drewN | apply Kd.R_drew)); exact HO_3.out, pb_ HB⟩

def platbookref03_Row.l0 : Nat → List Int → List Int → Int → Option (List Int)
 | 0, _, _, _ => none
 | k + 1, x3, x4, x5 => if x5 ≥ 0 then (if 0 ≤ x5 then (if x5 < (x3.length : Int) then (if x4.length < 17592186044416 then (platbookref03_Row.l0 k x3 (x4 ++ [rd x3 x5]) (wrap64 (x5 - 1))) else (none)) else (none)) else (none)) else (some x4)
def platbookref03_Row.f (k : Nat) (a0_0 : Bool) (a0_1 : Int) (a0_2 : Int) : Option (List Int) := (platbookref01_Bits.f k a0_1 a0_2).bind fun t112 => ((platbookref02_Width.f a0_0 a0_1 a0_2).bind fun t118 => (platbookref03_Row.l0 k t112 (([] : List Int)) (wrap64 (t118 - 1))))
set_option maxHeartbeats 8000000 in
set_option maxRecDepth 100000 in
theorem platbookref03_Row.calls (k : Nat) (a0_0 : Bool) (a0_1 : Int) (a0_2 : Int) (r : List Int) (w : World) (h : platbookref03_Row.f k a0_0 a0_1 a0_2 = some r) :
  Calls Tryz.prog 83 #[.agg #[.bool a0_0, .int .u64 a0_1, .int .u64 a0_2]] w fun e w' => ∃ v0_ : Value, e = .returned (v0_) ∧ Kd.R (Kd.int .i64) 3 w' w.heap.size (fun _ => True) v0_ r ∧ Below w.heap.size w w' := by
 have hu26 := Tryz.underlying26
 have hu24 := Tryz.underlying24
 have HB := Aside0.mk (Below.refl w.heap.size w)
 have H : ((platbookref01_Bits.f k a0_1 a0_2).bind fun t112 => ((platbookref02_Width.f a0_0 a0_1 a0_2).bind fun t118 => (platbookref03_Row.l0 k t112 (([] : List Int)) (wrap64 (t118 - 1))))) = some r := h
 clear h
 replace H := Option.bind_eq_some_iff.mp H
 obtain ⟨t112, A20, H⟩ := H
 replace H : ((platbookref02_Width.f a0_0 a0_1 a0_2).bind fun t118 => (platbookref03_Row.l0 k t112 (([] : List Int)) (wrap64 (t118 - 1)))) = some r := H
 have A2 := Aside0.mk A20
 clear A20
 obtain ⟨y115, hy115⟩ : ∃ y_ : List Int, y_ = (([] : List Int)) := ⟨_, rfl⟩
 replace H : ((platbookref02_Width.f a0_0 a0_1 a0_2).bind fun t118 => (platbookref03_Row.l0 k t112 y115 (wrap64 (t118 - 1)))) = some r := by first | (rw [hy115]; with_reducible exact H) | (have H2_ := (Option.bind_some _ _).symm.trans H; rw [hy115]; with_reducible exact H2_) | (have H2_ := (Option.bind_some _ _).symm.trans H; with_reducible exact H2_) | with_reducible exact H | (rw [hy115]; exact H) | exact H
 have Ny115 := Aside0.mk hy115
 clear hy115
 replace H := Option.bind_eq_some_iff.mp H
 obtain ⟨t118, A30, H⟩ := H
 replace H : (platbookref03_Row.l0 k t112 y115 (wrap64 (t118 - 1))) = some r := H
 have A3 := Aside0.mk A30
 clear A30
 have H' := Aside0.mk H
 clear H
 go_enter Tryz.func83, Tryz.ntmps83
 go_wp2_with (first | ((with_reducible refine gate_dst (N := 1) rfl ?_); refine bx_ 1 #[.bool a0_0, .int .u64 a0_1, .int .u64 a0_2] 26 ?_; intro gb111 hg w4 hbox hb; have BK111 := Aside0.mk (hbox); have GW111 := gw_ HB hg; have GE111 := gw_ HB hg; replace HB := bs_ HB hb; clear hb hbox hg; obtain ⟨hcz5_0, hcz5_1, hcz5_2, hfz5_0, hfz5_1, hfz5_2⟩ := c3_ BK111) | ((with_reducible refine gate_callee (f := 92) rfl ?_); refine gl_ (some 8) Tryz.func92 #[.agg #[.int .u64 a0_1, .int .u64 a0_2]] ?_; (with_reducible refine (platbookref01_Bits.calls k a0_1 a0_2 t112 _ A2.out).mono ?_); rintro e w6 ⟨v113, rfl, ho0, hb⟩; refine ⟨_, rfl, ?_⟩; have HO114 := Aside0.mk (Kd.R_lower ho0 (below_size (pb_ HB))); replace BK111 := bb_ BK111 hb; replace HB := bs_ HB hb; (try clear hb); (try clear hb2); (try clear hk); (try clear hi); (try clear ho0)) | ((with_reducible refine gate_dst (N := 9) rfl ?_); refine Kd.R_lit (Kd.int .i64) _ 3 ?hg (N := 9) ?hd (xs := ([] : List Int)) (inner := []) (ok := fun _ => True) (okp := fun _ => True) ?hr ?hp (fun _ hk => hk) trivial (Below.refl _ _) (Nat.le_refl _) (by simp) ?_; (case hd => rfl); (case hg => rfl); (case hr => first | (go_simp; done) | (go_simp; rfl)); (case hp => exact (Reps.none _ _)); intro v116 w7 ho8 hb hg_ hnew_; clear hg_ hnew_; (first | rw [← Ny115.out] at ho8 | (simp only [Int.reduceToNat] at ho8; rw [← Ny115.out] at ho8)); have HO117 := Aside0.mk (Kd.R_lower (Kd.R_new' ho8 (Kd.R_lt (by (with_reducible repeat (first | apply Kd.R_alloc | apply Kd.R_drewN | apply Kd.R_drew)); exact HO114.out))) (below_size (pb_ HB))); replace HO114 := Aside0.mk (Kd.R_elder' (by (with_reducible repeat (first | apply Kd.R_alloc | apply Kd.R_drewN | apply Kd.R_drew)); exact HO114.out) (Kd.R_base ho8) hb); replace BK111 := bb_ BK111 hb; replace HB := bs_ HB hb; clear hb ho8; obtain ⟨hcz9_0, hcz9_1, hcz9_2, hfz9_0, hfz9_1, hfz9_2⟩ := c3_ BK111) | ((with_reducible refine gate_callee (f := 23) rfl ?_); refine gl_ (some 11) Tryz.func23 #[.agg #[.bool a0_0, .int .u64 a0_1, .int .u64 a0_2]] ?_; (with_reducible refine (platbookref02_Width.calls a0_0 a0_1 a0_2 t118 _ A3.out).mono ?_); rintro e w10 ⟨rfl, hb⟩; refine ⟨_, rfl, ?_⟩; replace HO114 := Aside0.mk (Kd.R_below (by (with_reducible repeat (first | apply Kd.R_alloc | apply Kd.R_drewN | apply Kd.R_drew)); exact HO114.out) hb); replace HO117 := Aside0.mk (Kd.R_below (by (with_reducible repeat (first | apply Kd.R_alloc | apply Kd.R_drewN | apply Kd.R_drew)); exact HO117.out) hb); replace BK111 := bb_ BK111 hb; replace HB := bs_ HB hb; (try clear hb); (try clear hb2); (try clear hk); (try clear hi)))
 go_loopg [4, 5] k (fun kq v4 v5 w' => ∃ (x4_1 : List Int) (x5_1 : Int), v5 = .int .i64 x5_1 ∧ Aside0 (platbookref03_Row.l0 kq t112 x4_1 x5_1 = some r) ∧ Aside0 (kq ≤ k) ∧ Aside0 (Kd.R (Kd.int .i64) 3 w' w.heap.size (fun k_ => some k_ ≠ (v4 : Value).ownBlock) v113 t112) ∧ Aside0 (Kd.R (Kd.int .i64) 3 w' w.heap.size (fun k_ => some k_ ≠ (v113 : Value).ownBlock) v4 x4_1) ∧ Aside0 (w'.heap[gb111]? = some (.cells #[.bool a0_0, .int .u64 a0_1, .int .u64 a0_2] 26 (0, 0))) ∧ Aside0 (Below w.heap.size w w'))
 case atStart => exact ⟨(y115), (wrap64 (t118 - 1)), (by first | rfl | (simp; done) | (simp [*]; done)), H', ⟨Nat.le_refl _⟩, ⟨by (with_reducible repeat (first | apply Kd.R_alloc | apply Kd.R_drewN | apply Kd.R_drew)); exact Kd.R_mono HO114.out (fun _ hk => hk.2)⟩, ⟨by (with_reducible repeat (first | apply Kd.R_alloc | apply Kd.R_drewN | apply Kd.R_drew)); exact Kd.R_mono HO117.out (fun _ hk => hk.2)⟩, ⟨by refine pw_ ?_; exact BK111.out⟩, ⟨pb_ HB⟩⟩
 case round =>
  clear H'
  try clear c2
  try clear p2
  try clear p6
  try clear c8
  try clear c9
  try clear hcz5_0
  try clear hcz5_1
  try clear hcz5_2
  try clear hcz9_0
  try clear hcz9_1
  try clear hcz9_2
  try clear hfz5_0
  try clear hfz5_1
  try clear hfz5_2
  try clear hfz9_0
  try clear hfz9_1
  try clear hfz9_2
  obtain ⟨x4_1, x5_1, rfl, HA, HK1, HO_3, HO_4, BK111, HB⟩ := hrel
  cases gk with
  | zero => exact absurd HA.out (by simp [platbookref03_Row.l0])
  | succ k1 =>
   have H := HA.out
   clear HA
   simp only [platbookref03_Row.l0] at H
   by_cases c11 : x5_1 ≥ 0
   ·
    rw [if_pos c11] at H
    have c11b0 : decide (0 ≤ x5_1) = true := decide_eq_true c11
    clear c11
    by_cases c12 : 0 ≤ x5_1
    ·
     rw [if_pos c12] at H
     have c12b0 : decide (0 ≤ x5_1) = true := decide_eq_true c12
     clear c12
     by_cases c13 : x5_1 < (t112.length : Int)
     ·
      rw [if_pos c13] at H
      have c13b0 : decide (x5_1 < (t112.length : Int)) = true := decide_eq_true c13
      clear c13
      by_cases c14 : x4_1.length < 17592186044416
      ·
       rw [if_pos c14] at H
       have LMc14 := Aside0.mk c14
       clear c14
       obtain ⟨y120, hy120⟩ : ∃ y_ : List Int, y_ = (x4_1 ++ [rd t112 x5_1]) := ⟨_, rfl⟩
       replace H : (platbookref03_Row.l0 k1 t112 y120 (wrap64 (x5_1 - 1))) = some r := by first | (rw [hy120]; with_reducible exact H) | (have H2_ := (Option.bind_some _ _).symm.trans H; rw [hy120]; with_reducible exact H2_) | (have H2_ := (Option.bind_some _ _).symm.trans H; with_reducible exact H2_) | with_reducible exact H | (rw [hy120]; exact H) | exact H
       have Ny120 := Aside0.mk hy120
       clear hy120
       have H' := Aside0.mk H
       clear H
       obtain ⟨Ao15, co15, eo15⟩ := Kd.R_slice HO_3.out
       subst eo15
       have p119 : 0 ≤ (x5_1 : Int) := of_decide_eq_true (by first | (with_reducible assumption) | assumption)
       have q119 : x5_1 < (t112.length : Int) := of_decide_eq_true (by first | (with_reducible assumption) | assumption)
       obtain ⟨ad119, e119, hx119_0⟩ := Kd.at_int (Kd.R_reads' HO_3.out).2.2 x5_1 p119 q119
       cases e119
       replace p119 := eq_true p119
       replace q119 := eq_true q119
       go_wp2_with (first | ((with_reducible refine gate_builtin (b := .append) (xs := #[.tmp 17, .tmp 22]) rfl ?_); at_builtin; refine Kd.R_append (Kd.int .i64) (w0 := w) w.heap.size rfl (.tmp 17) (.tmp 22) 91 3 (.int .i64 0) 8 rfl Tryz.underlying91 info3 rfl (by decide) (by omega) u4 x4_1 (rd t112 x5_1) [.int .i64 (rd t112 x5_1)] (fun k_ => some k_ ≠ (.slice (some ad119) t112.length co15 : Value).ownBlock) (fun _ => False) rfl rfl ?aP (fun _ hk => hk.elim) ?aF ?aO ?aB ?aS ?aL ?_; (case aP => exact rfl); (case aB => exact (pb_ HB)); (case aF => exact (fun k_ hk => Kd.fresh' (Kd.R_lt (by (with_reducible repeat (first | apply Kd.R_alloc | apply Kd.R_drewN | apply Kd.R_drew)); exact HO_3.out)) k_ hk)); (case aO => exact (by (with_reducible repeat (first | apply Kd.R_alloc | apply Kd.R_drewN | apply Kd.R_drew)); exact HO_4.out)); (case aS => exact (below_size (pb_ HB))); (case aL => have := LMc14.out; omega); intro v121 w16 ho hb hg hat; rw [← Ny120.out] at ho; have HO122 := Aside0.mk (ho); replace HO_3 := Aside0.mk (Kd.R_after (ok := (fun _ => True)) (by (with_reducible repeat (first | apply Kd.R_alloc | apply Kd.R_drewN | apply Kd.R_drew)); exact Kd.R_mono HO_3.out (fun _ hk => ⟨trivial, hk⟩)) hg hat); replace BK111 := Aside0.mk (blk_grown (g := gb111) (o := .cells #[.bool a0_0, .int .u64 a0_1, .int .u64 a0_2] 26 (0, 0)) (pk_ BK111) hg (Kd.R_ne HO_4.out BK111.out (by decide))); replace HB := Aside0.mk (hb); clear HO_4; clear ho hb hg hat))
       go_roundg k1
       case measure => have := HK1.out; omega
       case rel => exact ⟨(y120), (wrap64 (x5_1 - 1)), (by first | rfl | (simp; done) | (simp [*]; done)), H', ⟨by have := HK1.out; omega⟩, ⟨by (with_reducible repeat (first | apply Kd.R_alloc | apply Kd.R_drewN | apply Kd.R_drew)); exact Kd.R_mono HO_3.out (fun _ hk => hk.2)⟩, ⟨by (with_reducible repeat (first | apply Kd.R_alloc | apply Kd.R_drewN | apply Kd.R_drew)); exact HO122.out⟩, ⟨by refine pw_ ?_; exact BK111.out⟩, ⟨pb_ HB⟩⟩
      ·
       rw [if_neg c14] at H
       exact absurd H (by simp)
     ·
      rw [if_neg c13] at H
      exact absurd H (by simp)
    ·
     rw [if_neg c12] at H
     exact absurd H (by simp)
   ·
    rw [if_neg c11] at H
    have c11b0 : decide (0 ≤ x5_1) = false := decide_eq_false c11
    clear c11
    obtain rfl := Option.some.inj H
    go_wp2
    go_ret
    exact ⟨_, by first | rfl | (simp [errW_none, errW_some] <;> rfl) | (simp [*, errW_none, errW_some] <;> rfl), by (with_reducible repeat (first | apply Kd.R_alloc | apply Kd.R_drewN | apply Kd.R_drew)); exact Kd.R_mono HO_4.out (fun _ hk => trivial), pb_ HB⟩

mutual
def platbookref01_Num.l0 : Nat → List Int → Int → Int → Int → Option (Int × Int)
 | 0, _, _, _, _ => none
 | k + 1, x0, x4, x125000, x125001 => if x4 ≥ 64 then (if x4 < (x0.length : Int) then (if 0 ≤ x4 then (platbookref01_Num.l0 k x0 (wrap64 (x4 - 1)) (IntKind.u64.wrap ((IntKind.u64.wrap (x125000 * 2)) + (IntKind.u64.wrap (rd x0 x4)))) x125001) else (none)) else (platbookref01_Num.l0 k x0 (wrap64 (x4 - 1)) (IntKind.u64.wrap (x125000 * 2)) x125001)) else (platbookref01_Num.l1 k x0 63 x125000 x125001)
def platbookref01_Num.l1 : Nat → List Int → Int → Int → Int → Option (Int × Int)
 | 0, _, _, _, _ => none
 | k + 1, x0, x5, x125000, x125001 => if x5 ≥ 0 then (if x5 < (x0.length : Int) then (if 0 ≤ x5 then (platbookref01_Num.l1 k x0 (wrap64 (x5 - 1)) x125000 (IntKind.u64.wrap ((IntKind.u64.wrap (x125001 * 2)) + (IntKind.u64.wrap (rd x0 x5))))) else (none)) else (platbookref01_Num.l1 k x0 (wrap64 (x5 - 1)) x125000 (IntKind.u64.wrap (x125001 * 2)))) else (some (x125000, x125001))
end
def platbookref01_Num.f (k : Nat) (l0 : List Int) : Option (Int × Int) := platbookref01_Num.l0 k l0 127 0 0
def platbookref01_Num.T7 : Bool × List (List Nat × List Nat) := (true, [([], []), ([0], [0]), ([], []), ([], []), ([2, 3], [2, 3]), ([4], [4]), ([5], [5]), ([1, 6], [1, 6]), ([0, 1, 2, 3, 4, 5, 6, 7], []), ([8, 7, 0, 1, 2, 3, 4, 5, 6, 7], [7, 8])])
def platbookref01_Num.B7 : List Nat := [0, 1, 0, 0, 12, 28, 60, 127, 255, 511]
theorem platbookref01_Num.tab7 : rtab .any (opsOf Tryz.f107 7) = platbookref01_Num.T7 := by kernel_rfl
theorem platbookref01_Num.bits7 : waitsOk platbookref01_Num.T7.2 platbookref01_Num.B7 = true := by kernel_rfl
def platbookref01_Num.T13 : Bool × List (List Nat × List Nat) := (true, [([], []), ([0], [0]), ([], []), ([], []), ([2, 3], [2, 3]), ([4], [4]), ([5], [5]), ([1, 6], [1, 6]), ([0, 1, 2, 3, 4, 5, 6, 7], []), ([8, 7, 0, 1, 2, 3, 4, 5, 6, 7], [7, 8])])
def platbookref01_Num.B13 : List Nat := [0, 1, 0, 0, 12, 28, 60, 127, 255, 511]
theorem platbookref01_Num.tab13 : rtab .any (opsOf Tryz.f107 13) = platbookref01_Num.T13 := by kernel_rfl
theorem platbookref01_Num.bits13 : waitsOk platbookref01_Num.T13.2 platbookref01_Num.B13 = true := by kernel_rfl
set_option maxHeartbeats 8000000 in
set_option maxRecDepth 100000 in
theorem platbookref01_Num.calls (k : Nat) (A0 : Option Addr) (c0 : Nat) (l0 : List Int) (r1 : Int) (r2 : Int) (w : World) (hr0 : Kd.C (Kd.int .i64) w A0 l0.length l0) (hc0 : l0.length ≤ c0) (h : platbookref01_Num.f k l0 = some (r1, r2)) :
  Calls Tryz.prog 107 #[.slice A0 l0.length c0] w fun e w' => e = .returned (.agg #[.int .u64 r1, .int .u64 r2]) ∧ Below w.heap.size w w' := by
 have hu24 := Tryz.underlying24
 have HR0 := Aside0.mk hr0
 have HC0 := Aside0.mk hc0
 clear hr0 hc0
 have HB := Aside0.mk (Below.refl w.heap.size w)
 have H : (platbookref01_Num.l0 k l0 127 0 0) = some (r1, r2) := h
 clear h
 have H' := Aside0.mk H
 clear H
 go_enter Tryz.func107, Tryz.ntmps107
 go_wp2_with (first | ((with_reducible refine gate_dst (N := 2) rfl ?_); refine bx_ 2 #[.int .u64 0, .int .u64 0] 24 ?_; intro gb123 hg w2 hbox hb; have BK123 := Aside0.mk (hbox); have GW123 := gw_ HB hg; have GE123 := gw_ HB hg; replace HB := bs_ HB hb; clear hb hbox hg) | ((with_reducible refine gate_dst (N := 3) rfl ?_); refine bx_ 3 #[.int .u64 0, .int .u64 0] 24 ?_; intro gb124 hg w3 hbox hb; have BK124 := Aside0.mk (hbox); have GW124 := gw_ HB hg; have GE124 := gw_ HB hg; have NB123_124 := nl_ BK123 hg; have NB124_123 := ng_ BK123 hg; replace BK123 := bb_ BK123 hb; replace HB := bs_ HB hb; clear hb hbox hg; have hnb4 := NB124_123.out; have hnc4 := NB123_124.out; obtain ⟨hcz5_0, hcz5_1, hfz5_0, hfz5_1⟩ := c2_ BK124))
 go_loopg [4] k (fun kq v4 w' => ∃ (x4_1 : Int) (x125000_1 : Int), v4 = .int .i64 x4_1 ∧ Aside0 (platbookref01_Num.l0 kq l0 x4_1 x125000_1 0 = some (r1, r2)) ∧ Aside0 (kq ≤ k) ∧ Aside0 (w'.heap[gb123]? = some (.cells #[.int .u64 0, .int .u64 0] 24 (0, 0))) ∧ Aside0 (w'.heap[gb124]? = some (.cells #[.int .u64 x125000_1, .int .u64 0] 24 (0, 0))) ∧ Aside0 (Below w.heap.size w w'))
 case atStart => exact ⟨(127), (0), (by first | rfl | (simp; done) | (simp [*]; done)), H', ⟨Nat.le_refl _⟩, ⟨by refine pw_ ?_; refine blk_far ?_ NB123_124.out _; refine pw_ ?_; refine blk_far ?_ NB123_124.out _; refine pw_ ?_; exact BK123.out⟩, ⟨by refine pw_ ?_; refine blk_put (cs := #[.int .u64 0, .int .u64 0]) ?_ 1 _ rfl; refine pw_ ?_; refine blk_put (cs := #[.int .u64 0, .int .u64 0]) ?_ 0 _ rfl; refine pw_ ?_; exact BK124.out⟩, ⟨pb_ HB⟩⟩
 case round =>
  clear H'
  try clear c1
  try clear p2
  try clear c4
  try clear hcz5_0
  try clear hcz5_1
  try clear hfz5_0
  try clear hfz5_1
  obtain ⟨x4_1, x125000_1, rfl, HA, HK1, BK123, BK124, HB⟩ := hrel
  cases gk with
  | zero => exact absurd HA.out (by simp [platbookref01_Num.l0])
  | succ k1 =>
   have H := HA.out
   clear HA
   simp only [platbookref01_Num.l0] at H
   by_cases c6 : x4_1 ≥ 64
   ·
    rw [if_pos c6] at H
    have c6b0 : decide (64 ≤ x4_1) = true := decide_eq_true c6
    clear c6
    by_cases c7 : x4_1 < (l0.length : Int)
    ·
     rw [if_pos c7] at H
     have c7b0 : decide (x4_1 < (l0.length : Int)) = true := decide_eq_true c7
     clear c7
     by_cases c8 : 0 ≤ x4_1
     ·
      rw [if_pos c8] at H
      have c8b0 : decide (0 ≤ x4_1) = true := decide_eq_true c8
      clear c8
      have H' := Aside0.mk H
      clear H
      have hnb9 := NB124_123.out
      have hnc9 := NB123_124.out
      obtain ⟨hcz10_0, hcz10_1, hfz10_0, hfz10_1⟩ := c2_ BK124
      try go_wp2
      have n0_ : Aside0 ((wr.setCell ⟨gb124, 0, none⟩ (.int .u64 (IntKind.u64.wrap (x125000_1 * 2)))).heap[gb123]? = some (.cells #[.int .u64 0, .int .u64 0] 24 (0, 0))) := ⟨by refine pw_ ?_; refine blk_far ?_ NB123_124.out _; refine pw_ ?_; exact BK123.out⟩
      have n1_ : Aside0 ((wr.setCell ⟨gb124, 0, none⟩ (.int .u64 (IntKind.u64.wrap (x125000_1 * 2)))).heap[gb124]? = some (.cells #[.int .u64 (IntKind.u64.wrap (x125000_1 * 2)), .int .u64 0] 24 (0, 0))) := ⟨by refine pw_ ?_; refine blk_put (cs := #[.int .u64 x125000_1, .int .u64 0]) ?_ 0 _ rfl; refine pw_ ?_; exact BK124.out⟩
      have n2_ : Aside0 (Below w.heap.size w (wr.setCell ⟨gb124, 0, none⟩ (.int .u64 (IntKind.u64.wrap (x125000_1 * 2))))) := ⟨pb_ HB⟩
      (try clear BK123)
      (try clear BK124)
      (try clear HB)
      generalize (wr.setCell ⟨gb124, 0, none⟩ (.int .u64 (IntKind.u64.wrap (x125000_1 * 2)))) = w11 at n0_ n1_ n2_ ⊢
      have BK123 := n0_
      have BK124 := n1_
      have HB := n2_
      clear n0_ n1_ n2_
      replace BK123 := Aside0.mk (blk_drew BK123.out)
      replace BK124 := Aside0.mk (blk_drew BK124.out)
      replace HB := Aside0.mk (below_drew1 HB.out)
      have p125 : 0 ≤ (x4_1 : Int) := of_decide_eq_true (by first | (with_reducible assumption) | assumption)
      have q125 : x4_1 < (l0.length : Int) := of_decide_eq_true (by first | (with_reducible assumption) | assumption)
      obtain ⟨ad125, e125, hx125_0⟩ := Kd.at_int HR0.out x4_1 p125 q125
      have hw125_0 := hx125_0
      cases e125
      replace hx125_0 := (HB.out.cell (World.block_lt_of_cell? w _ hx125_0)).trans hx125_0
      replace p125 := eq_true p125
      replace q125 := eq_true q125
      refine start_ (n := 10) (S := fun w' => w'.cell? ⟨gb124, 0, none⟩ = some (.int .u64 (IntKind.u64.wrap (x125000_1 * 2))) ∧ w'.cell? ⟨gb124, 1, none⟩ = some (.int .u64 0) ∧ w'.cell? (ad125.add (x4_1).toNat) = some (.int .i64 (rd l0 x4_1))) (ds := [9]) (bm_ 10 0) (by kernel_rfl) rfl rfl ⟨kc_ BK124 0, kc_ BK124 1, ((HB.out.cell (World.block_lt_of_cell? w _ hw125_0)).trans hw125_0)⟩ (fun hHeld => ?_); refine with_tabW platbookref01_Num.tab7 platbookref01_Num.bits7 (fun HT_ HW_ => ?_)
      generalize w11.drew = w12 at BK123 BK124 HB hx125_0 hHeld ⊢
      refine pu_ 0 (some 19) (bm_ 10 1) rfl HT_ ⟨by rfl, by intro w'; go_simp; with_reducible rfl⟩ ?_
      refine pu_ 2 (some 21) (bm_ 10 5) rfl HT_ ⟨by rfl, by intro w'; go_simp; with_reducible rfl⟩ ?_
      refine pu_ 3 (some 22) (bm_ 10 13) rfl HT_ ⟨by rfl, by intro w'; go_simp; with_reducible rfl⟩ ?_
      refine pu_ 4 (some 23) (bm_ 10 29) rfl HT_ ⟨by rfl, by intro w'; go_simp; with_reducible rfl⟩ ?_
      refine ta_ 1 (some 20) (bm_ 10 31) rfl HT_ HW_ ⟨by rfl, by rintro w' ⟨s0, s1, s2⟩; go_simp; with_reducible rfl⟩ hHeld ?_
      refine ta_ 5 (some 24) (bm_ 10 63) rfl HT_ HW_ ⟨by rfl, by rintro w' ⟨s0, s1, s2⟩; go_simp; with_reducible rfl⟩ hHeld ?_
      refine pu_ 6 (some 25) (bm_ 10 127) rfl HT_ ⟨by rfl, by intro w'; go_simp; with_reducible rfl⟩ ?_
      refine pu_ 7 (some 26) (bm_ 10 255) rfl HT_ ⟨by rfl, by intro w'; go_simp; with_reducible rfl⟩ ?_
      refine pu_ 8 (some 27) (bm_ 10 511) rfl HT_ ⟨by rfl, by intro w'; go_simp; with_reducible rfl⟩ ?_
      refine last_ (i := 9) (N := none) (bm_ 10 1023) rfl rfl (one_of HT_.out (by kernel_rfl)) (by decide) (fun K hK => ?_)
      have hs13 : w12.cell? ⟨gb124, 0, none⟩ = some (.int .u64 (IntKind.u64.wrap (x125000_1 * 2))) := kc_ BK124 0
      have hfs13 := blk_frozen BK124.out 0
      have hns13_0 := NB123_124.out
      have hms13_0 := NB124_123.out
      refine skip_ (w1 := ?_) (by rfl) rfl ?_ ?_
      rotate_left
      ·
       go_simp
       rfl
      refine hK.out _ _ ?_
      clear hK K
      refine done_ (done_of HT_.out (by kernel_rfl)) ?_
      try go_wp2
      go_roundg k1
      case measure => have := HK1.out; omega
      case rel => exact ⟨(wrap64 (x4_1 - 1)), (IntKind.u64.wrap ((IntKind.u64.wrap (x125000_1 * 2)) + (IntKind.u64.wrap (rd l0 x4_1)))), (by first | rfl | (simp; done) | (simp [*]; done)), H', ⟨by have := HK1.out; omega⟩, ⟨by refine pw_ ?_; refine blk_far ?_ NB123_124.out _; refine pw_ ?_; exact BK123.out⟩, ⟨by refine pw_ ?_; refine blk_put (cs := #[.int .u64 (IntKind.u64.wrap (x125000_1 * 2)), .int .u64 0]) ?_ 0 _ rfl; refine pw_ ?_; exact BK124.out⟩, ⟨pb_ HB⟩⟩
     ·
      rw [if_neg c8] at H
      exact absurd H (by simp)
    ·
     rw [if_neg c7] at H
     have c7b0 : decide (x4_1 < (l0.length : Int)) = false := decide_eq_false c7
     clear c7
     have H' := Aside0.mk H
     clear H
     have hnb14 := NB124_123.out
     have hnc14 := NB123_124.out
     obtain ⟨hcz15_0, hcz15_1, hfz15_0, hfz15_1⟩ := c2_ BK124
     go_wp2
     go_roundg k1
     case measure => have := HK1.out; omega
     case rel => exact ⟨(wrap64 (x4_1 - 1)), (IntKind.u64.wrap (x125000_1 * 2)), (by first | rfl | (simp; done) | (simp [*]; done)), H', ⟨by have := HK1.out; omega⟩, ⟨by refine pw_ ?_; refine blk_far ?_ NB123_124.out _; refine pw_ ?_; exact BK123.out⟩, ⟨by refine pw_ ?_; refine blk_put (cs := #[.int .u64 x125000_1, .int .u64 0]) ?_ 0 _ rfl; refine pw_ ?_; exact BK124.out⟩, ⟨pb_ HB⟩⟩
   ·
    rw [if_neg c6] at H
    have c6b0 : decide (64 ≤ x4_1) = false := decide_eq_false c6
    clear c6
    have H' := Aside0.mk H
    clear H
    go_wp2
    go_loopg [5] k1 (fun kq v5 w' => ∃ (x5_2 : Int) (x125001_2 : Int), v5 = .int .i64 x5_2 ∧ Aside0 (platbookref01_Num.l1 kq l0 x5_2 x125000_1 x125001_2 = some (r1, r2)) ∧ Aside0 (kq ≤ k1) ∧ Aside0 (w'.heap[gb123]? = some (.cells #[.int .u64 0, .int .u64 0] 24 (0, 0))) ∧ Aside0 (w'.heap[gb124]? = some (.cells #[.int .u64 x125000_1, .int .u64 x125001_2] 24 (0, 0))) ∧ Aside0 (Below w.heap.size w w'))
    case atStart => exact ⟨(63), (0), (by first | rfl | (simp; done) | (simp [*]; done)), H', ⟨Nat.le_refl _⟩, ⟨by refine pw_ ?_; exact BK123.out⟩, ⟨by refine pw_ ?_; exact BK124.out⟩, ⟨pb_ HB⟩⟩
    case round =>
     clear H'
     try clear c1
     try clear p1
     try clear q1
     try clear hx1
     try clear p2
     try clear c4
     try clear c6
     try clear c6b0
     try clear p6
     try clear c7
     try clear c7b0
     try clear c8
     try clear c8b0
     try clear c9
     try clear c10
     try clear p12
     try clear q12
     try clear hx12
     try clear c14
     try clear hcz10_0
     try clear hcz10_1
     try clear hcz15_0
     try clear hcz15_1
     try clear hcz5_0
     try clear hcz5_1
     try clear hfz10_0
     try clear hfz10_1
     try clear hfz15_0
     try clear hfz15_1
     try clear hfz5_0
     try clear hfz5_1
     try clear hx125_0
     try clear p125
     try clear p2
     try clear q125
     obtain ⟨x5_2, x125001_2, rfl, HA, HK2, BK123, BK124, HB⟩ := hrel
     cases gk with
     | zero => exact absurd HA.out (by simp [platbookref01_Num.l1])
     | succ k2 =>
      have H := HA.out
      clear HA
      simp only [platbookref01_Num.l1] at H
      by_cases c16 : x5_2 ≥ 0
      ·
       rw [if_pos c16] at H
       have c16b0 : decide (0 ≤ x5_2) = true := decide_eq_true c16
       clear c16
       by_cases c17 : x5_2 < (l0.length : Int)
       ·
        rw [if_pos c17] at H
        have c17b0 : decide (x5_2 < (l0.length : Int)) = true := decide_eq_true c17
        clear c17
        by_cases c18 : 0 ≤ x5_2
        ·
         rw [if_pos c18] at H
         have c18b0 : decide (0 ≤ x5_2) = true := decide_eq_true c18
         clear c18
         have H' := Aside0.mk H
         clear H
         have hnb19 := NB124_123.out
         have hnc19 := NB123_124.out
         obtain ⟨hcz20_0, hcz20_1, hfz20_0, hfz20_1⟩ := c2_ BK124
         try go_wp2
         have n0_ : Aside0 ((wr.setCell ⟨gb124, 1, none⟩ (.int .u64 (IntKind.u64.wrap (x125001_2 * 2)))).heap[gb123]? = some (.cells #[.int .u64 0, .int .u64 0] 24 (0, 0))) := ⟨by refine pw_ ?_; refine blk_far ?_ NB123_124.out _; refine pw_ ?_; exact BK123.out⟩
         have n1_ : Aside0 ((wr.setCell ⟨gb124, 1, none⟩ (.int .u64 (IntKind.u64.wrap (x125001_2 * 2)))).heap[gb124]? = some (.cells #[.int .u64 x125000_1, .int .u64 (IntKind.u64.wrap (x125001_2 * 2))] 24 (0, 0))) := ⟨by refine pw_ ?_; refine blk_put (cs := #[.int .u64 x125000_1, .int .u64 x125001_2]) ?_ 1 _ rfl; refine pw_ ?_; exact BK124.out⟩
         have n2_ : Aside0 (Below w.heap.size w (wr.setCell ⟨gb124, 1, none⟩ (.int .u64 (IntKind.u64.wrap (x125001_2 * 2))))) := ⟨pb_ HB⟩
         (try clear BK123)
         (try clear BK124)
         (try clear HB)
         generalize (wr.setCell ⟨gb124, 1, none⟩ (.int .u64 (IntKind.u64.wrap (x125001_2 * 2)))) = w21 at n0_ n1_ n2_ ⊢
         have BK123 := n0_
         have BK124 := n1_
         have HB := n2_
         clear n0_ n1_ n2_
         replace BK123 := Aside0.mk (blk_drew BK123.out)
         replace BK124 := Aside0.mk (blk_drew BK124.out)
         replace HB := Aside0.mk (below_drew1 HB.out)
         have p126 : 0 ≤ (x5_2 : Int) := of_decide_eq_true (by first | (with_reducible assumption) | assumption)
         have q126 : x5_2 < (l0.length : Int) := of_decide_eq_true (by first | (with_reducible assumption) | assumption)
         obtain ⟨ad126, e126, hx126_0⟩ := Kd.at_int HR0.out x5_2 p126 q126
         have hw126_0 := hx126_0
         cases e126
         replace hx126_0 := (HB.out.cell (World.block_lt_of_cell? w _ hx126_0)).trans hx126_0
         replace p126 := eq_true p126
         replace q126 := eq_true q126
         refine start_ (n := 10) (S := fun w' => w'.cell? ⟨gb124, 0, none⟩ = some (.int .u64 x125000_1) ∧ w'.cell? ⟨gb124, 1, none⟩ = some (.int .u64 (IntKind.u64.wrap (x125001_2 * 2))) ∧ w'.cell? (ad126.add (x5_2).toNat) = some (.int .i64 (rd l0 x5_2))) (ds := [9]) (bm_ 10 0) (by kernel_rfl) rfl rfl ⟨kc_ BK124 0, kc_ BK124 1, ((HB.out.cell (World.block_lt_of_cell? w _ hw126_0)).trans hw126_0)⟩ (fun hHeld => ?_); refine with_tabW platbookref01_Num.tab13 platbookref01_Num.bits13 (fun HT_ HW_ => ?_)
         generalize w21.drew = w22 at BK123 BK124 HB hx126_0 hHeld ⊢
         refine pu_ 0 (some 40) (bm_ 10 1) rfl HT_ ⟨by rfl, by intro w'; go_simp; with_reducible rfl⟩ ?_
         refine pu_ 2 (some 42) (bm_ 10 5) rfl HT_ ⟨by rfl, by intro w'; go_simp; with_reducible rfl⟩ ?_
         refine pu_ 3 (some 43) (bm_ 10 13) rfl HT_ ⟨by rfl, by intro w'; go_simp; with_reducible rfl⟩ ?_
         refine pu_ 4 (some 44) (bm_ 10 29) rfl HT_ ⟨by rfl, by intro w'; go_simp; with_reducible rfl⟩ ?_
         refine ta_ 1 (some 41) (bm_ 10 31) rfl HT_ HW_ ⟨by rfl, by rintro w' ⟨s0, s1, s2⟩; go_simp; with_reducible rfl⟩ hHeld ?_
         refine ta_ 5 (some 45) (bm_ 10 63) rfl HT_ HW_ ⟨by rfl, by rintro w' ⟨s0, s1, s2⟩; go_simp; with_reducible rfl⟩ hHeld ?_
         refine pu_ 6 (some 46) (bm_ 10 127) rfl HT_ ⟨by rfl, by intro w'; go_simp; with_reducible rfl⟩ ?_
         refine pu_ 7 (some 47) (bm_ 10 255) rfl HT_ ⟨by rfl, by intro w'; go_simp; with_reducible rfl⟩ ?_
         refine pu_ 8 (some 48) (bm_ 10 511) rfl HT_ ⟨by rfl, by intro w'; go_simp; with_reducible rfl⟩ ?_
         refine last_ (i := 9) (N := none) (bm_ 10 1023) rfl rfl (one_of HT_.out (by kernel_rfl)) (by decide) (fun K hK => ?_)
         have hs23 : w22.cell? ⟨gb124, 1, none⟩ = some (.int .u64 (IntKind.u64.wrap (x125001_2 * 2))) := kc_ BK124 1
         have hfs23 := blk_frozen BK124.out 1
         have hns23_0 := NB123_124.out
         have hms23_0 := NB124_123.out
         refine skip_ (w1 := ?_) (by rfl) rfl ?_ ?_
         rotate_left
         ·
          go_simp
          rfl
         refine hK.out _ _ ?_
         clear hK K
         refine done_ (done_of HT_.out (by kernel_rfl)) ?_
         try go_wp2
         go_roundg k2
         case measure => have := HK1.out; have := HK2.out; omega
         case rel => exact ⟨(wrap64 (x5_2 - 1)), (IntKind.u64.wrap ((IntKind.u64.wrap (x125001_2 * 2)) + (IntKind.u64.wrap (rd l0 x5_2)))), (by first | rfl | (simp; done) | (simp [*]; done)), H', ⟨by have := HK1.out; have := HK2.out; omega⟩, ⟨by refine pw_ ?_; refine blk_far ?_ NB123_124.out _; refine pw_ ?_; exact BK123.out⟩, ⟨by refine pw_ ?_; refine blk_put (cs := #[.int .u64 x125000_1, .int .u64 (IntKind.u64.wrap (x125001_2 * 2))]) ?_ 1 _ rfl; refine pw_ ?_; exact BK124.out⟩, ⟨pb_ HB⟩⟩
        ·
         rw [if_neg c18] at H
         exact absurd H (by simp)
       ·
        rw [if_neg c17] at H
        have c17b0 : decide (x5_2 < (l0.length : Int)) = false := decide_eq_false c17
        clear c17
        have H' := Aside0.mk H
        clear H
        have hnb24 := NB124_123.out
        have hnc24 := NB123_124.out
        obtain ⟨hcz25_0, hcz25_1, hfz25_0, hfz25_1⟩ := c2_ BK124
        go_wp2
        go_roundg k2
        case measure => have := HK1.out; have := HK2.out; omega
        case rel => exact ⟨(wrap64 (x5_2 - 1)), (IntKind.u64.wrap (x125001_2 * 2)), (by first | rfl | (simp; done) | (simp [*]; done)), H', ⟨by have := HK1.out; have := HK2.out; omega⟩, ⟨by refine pw_ ?_; refine blk_far ?_ NB123_124.out _; refine pw_ ?_; exact BK123.out⟩, ⟨by refine pw_ ?_; refine blk_put (cs := #[.int .u64 x125000_1, .int .u64 x125001_2]) ?_ 1 _ rfl; refine pw_ ?_; exact BK124.out⟩, ⟨pb_ HB⟩⟩
      ·
       rw [if_neg c16] at H
       have c16b0 : decide (0 ≤ x5_2) = false := decide_eq_false c16
       clear c16
       simp only [Option.some.injEq, Prod.mk.injEq] at H
       obtain ⟨rfl, rfl⟩ := H
       have hnb26 := NB124_123.out
       have hnc26 := NB123_124.out
       obtain ⟨hcz27_0, hcz27_1, hfz27_0, hfz27_1⟩ := c2_ BK124
       obtain ⟨hcz28_0, hcz28_1, hfz28_0, hfz28_1⟩ := c2_ BK123
       go_wp2
       refine bodyPost_ret (results_cell_row rfl _ _ gb123 24 #[.int .u64 x125000_1, .int .u64 x125001_2] (0, 0) _ rfl (by refine pw_ ?_; refine blk_put (cs := #[.int .u64 x125000_1, .int .u64 0]) ?_ 1 _ rfl; refine pw_ ?_; refine blk_put (cs := #[.int .u64 0, .int .u64 0]) ?_ 0 _ rfl; refine pw_ ?_; exact BK123.out) Tryz.underlying24 rfl (by kernel_rfl)) rfl ?_
       exact ⟨by first | rfl | (simp [errW_none, errW_some] <;> rfl) | (simp [*, errW_none, errW_some] <;> rfl), pb_ HB⟩

def platbookref03_Addr.l0 : Nat → Bool → List Int → List Int → Int → Option (Bool × Int × Int)
 | 0, _, _, _, _ => none
 | k + 1, x0, x1, x5, x6 => if x6 ≥ 0 then (if 0 ≤ x6 then (if x6 < (x1.length : Int) then (if x5.length < 17592186044416 then (platbookref03_Addr.l0 k x0 x1 (x5 ++ [rd x1 x6]) (wrap64 (x6 - 1))) else (none)) else (none)) else (none)) else ((platbookref01_Num.f k x5).bind fun bt135 => (some (x0, bt135.1, bt135.2)))
def platbookref03_Addr.f (k : Nat) (a0 : Bool) (l1 : List Int) : Option (Bool × Int × Int) := platbookref03_Addr.l0 k a0 l1 (([] : List Int)) (wrap64 ((l1.length : Int) - 1))
set_option maxHeartbeats 8000000 in
set_option maxRecDepth 100000 in
theorem platbookref03_Addr.calls (k : Nat) (a0 : Bool) (A1 : Option Addr) (c1 : Nat) (l1 : List Int) (r1 : Bool) (r2 : Int) (r3 : Int) (w : World) (hr1 : Kd.C (Kd.int .i64) w A1 l1.length l1) (hc1 : l1.length ≤ c1) (h : platbookref03_Addr.f k a0 l1 = some (r1, r2, r3)) :
  Calls Tryz.prog 93 #[.bool a0, .slice A1 l1.length c1] w fun e w' => e = .returned (.agg #[.bool r1, .int .u64 r2, .int .u64 r3]) ∧ Below w.heap.size w w' := by
 have hu26 := Tryz.underlying26
 have HR1 := Aside0.mk hr1
 have HC1 := Aside0.mk hc1
 clear hr1 hc1
 have HB := Aside0.mk (Below.refl w.heap.size w)
 have H : (platbookref03_Addr.l0 k a0 l1 (([] : List Int)) (wrap64 ((l1.length : Int) - 1))) = some (r1, r2, r3) := h
 clear h
 obtain ⟨y128, hy128⟩ : ∃ y_ : List Int, y_ = (([] : List Int)) := ⟨_, rfl⟩
 replace H : (platbookref03_Addr.l0 k a0 l1 y128 (wrap64 ((l1.length : Int) - 1))) = some (r1, r2, r3) := by first | (rw [hy128]; with_reducible exact H) | (have H2_ := (Option.bind_some _ _).symm.trans H; rw [hy128]; with_reducible exact H2_) | (have H2_ := (Option.bind_some _ _).symm.trans H; with_reducible exact H2_) | with_reducible exact H | (rw [hy128]; exact H) | exact H
 have Ny128 := Aside0.mk hy128
 clear hy128
 have H' := Aside0.mk H
 clear H
 go_enter Tryz.func93, Tryz.ntmps93
 go_wp2_with (first | ((with_reducible refine gate_dst (N := 4) rfl ?_); refine bx_ 4 #[.bool false, .int .u64 0, .int .u64 0] 26 ?_; intro gb127 hg w3 hbox hb; have BK127 := Aside0.mk (hbox); have GW127 := gw_ HB hg; have GE127 := gw_ HB hg; replace HB := bs_ HB hb; clear hb hbox hg) | ((with_reducible refine gate_dst (N := 7) rfl ?_); refine Kd.R_lit (Kd.int .i64) _ 3 ?hg (N := 7) ?hd (xs := ([] : List Int)) (inner := []) (ok := fun _ => True) (okp := fun _ => True) ?hr ?hp (fun _ hk => hk) trivial (Below.refl _ _) (Nat.le_refl _) (by simp) ?_; (case hd => rfl); (case hg => rfl); (case hr => first | (go_simp; done) | (go_simp; rfl)); (case hp => exact (Reps.none _ _)); intro v129 w4 ho5 hb hg_ hnew_; clear hg_ hnew_; (first | rw [← Ny128.out] at ho5 | (simp only [Int.reduceToNat] at ho5; rw [← Ny128.out] at ho5)); have HO130 := Aside0.mk (Kd.R_lower ho5 (below_size (pb_ HB))); replace BK127 := bb_ BK127 hb; replace HB := bs_ HB hb; clear hb ho5))
 go_loopg [5, 6] k (fun kq v5 v6 w' => ∃ (x5_1 : List Int) (x6_1 : Int), v6 = .int .i64 x6_1 ∧ Aside0 (platbookref03_Addr.l0 kq a0 l1 x5_1 x6_1 = some (r1, r2, r3)) ∧ Aside0 (kq ≤ k) ∧ Aside0 (Kd.R (Kd.int .i64) 3 w' w.heap.size (fun _ => True) v5 x5_1) ∧ Aside0 (w'.heap[gb127]? = some (.cells #[.bool false, .int .u64 0, .int .u64 0] 26 (0, 0))) ∧ Aside0 (Below w.heap.size w w'))
 case atStart => exact ⟨(y128), (wrap64 ((l1.length : Int) - 1)), (by first | rfl | (simp; done) | (simp [*]; done)), H', ⟨Nat.le_refl _⟩, ⟨by (with_reducible repeat (first | apply Kd.R_alloc | apply Kd.R_drewN | apply Kd.R_drew)); exact HO130.out⟩, ⟨by refine pw_ ?_; exact BK127.out⟩, ⟨pb_ HB⟩⟩
 case round =>
  clear H'
  try clear c1
  try clear p2
  obtain ⟨x5_1, x6_1, rfl, HA, HK1, HO_5, BK127, HB⟩ := hrel
  cases gk with
  | zero => exact absurd HA.out (by simp [platbookref03_Addr.l0])
  | succ k1 =>
   have H := HA.out
   clear HA
   simp only [platbookref03_Addr.l0] at H
   by_cases c6 : x6_1 ≥ 0
   ·
    rw [if_pos c6] at H
    have c6b0 : decide (0 ≤ x6_1) = true := decide_eq_true c6
    clear c6
    by_cases c7 : 0 ≤ x6_1
    ·
     rw [if_pos c7] at H
     have c7b0 : decide (0 ≤ x6_1) = true := decide_eq_true c7
     clear c7
     by_cases c8 : x6_1 < (l1.length : Int)
     ·
      rw [if_pos c8] at H
      have c8b0 : decide (x6_1 < (l1.length : Int)) = true := decide_eq_true c8
      clear c8
      by_cases c9 : x5_1.length < 17592186044416
      ·
       rw [if_pos c9] at H
       have LMc9 := Aside0.mk c9
       clear c9
       obtain ⟨y132, hy132⟩ : ∃ y_ : List Int, y_ = (x5_1 ++ [rd l1 x6_1]) := ⟨_, rfl⟩
       replace H : (platbookref03_Addr.l0 k1 a0 l1 y132 (wrap64 (x6_1 - 1))) = some (r1, r2, r3) := by first | (rw [hy132]; with_reducible exact H) | (have H2_ := (Option.bind_some _ _).symm.trans H; rw [hy132]; with_reducible exact H2_) | (have H2_ := (Option.bind_some _ _).symm.trans H; with_reducible exact H2_) | with_reducible exact H | (rw [hy132]; exact H) | exact H
       have Ny132 := Aside0.mk hy132
       clear hy132
       have H' := Aside0.mk H
       clear H
       have p131 : 0 ≤ (x6_1 : Int) := of_decide_eq_true (by first | (with_reducible assumption) | assumption)
       have q131 : x6_1 < (l1.length : Int) := of_decide_eq_true (by first | (with_reducible assumption) | assumption)
       obtain ⟨ad131, e131, hx131_0⟩ := Kd.at_int HR1.out x6_1 p131 q131
       cases e131
       replace hx131_0 := (HB.out.cell (World.block_lt_of_cell? w _ hx131_0)).trans hx131_0
       replace p131 := eq_true p131
       replace q131 := eq_true q131
       go_wp2_with (first | ((with_reducible refine gate_builtin (b := .append) (xs := #[.tmp 15, .tmp 20]) rfl ?_); at_builtin; refine Kd.R_append (Kd.int .i64) (w0 := w) w.heap.size rfl (.tmp 15) (.tmp 20) 91 3 (.int .i64 0) 8 rfl Tryz.underlying91 info3 rfl (by decide) (by omega) u5 x5_1 (rd l1 x6_1) [.int .i64 (rd l1 x6_1)] (fun _ => True) (fun _ => False) rfl rfl ?aP (fun _ hk => hk.elim) ?aF ?aO ?aB ?aS ?aL ?_; (case aP => exact rfl); (case aB => exact (pb_ HB)); (case aF => exact (fun _ _ => trivial)); (case aO => exact (by (with_reducible repeat (first | apply Kd.R_alloc | apply Kd.R_drewN | apply Kd.R_drew)); exact HO_5.out)); (case aS => exact (below_size (pb_ HB))); (case aL => have := LMc9.out; omega); intro v133 w10 ho hb hg hat; rw [← Ny132.out] at ho; have HO134 := Aside0.mk (ho); replace BK127 := Aside0.mk (blk_grown (g := gb127) (o := .cells #[.bool false, .int .u64 0, .int .u64 0] 26 (0, 0)) (pk_ BK127) hg (Kd.R_ne HO_5.out BK127.out (by decide))); replace HB := Aside0.mk (hb); clear HO_5; clear ho hb hg hat))
       go_roundg k1
       case measure => have := HK1.out; omega
       case rel => exact ⟨(y132), (wrap64 (x6_1 - 1)), (by first | rfl | (simp; done) | (simp [*]; done)), H', ⟨by have := HK1.out; omega⟩, ⟨by (with_reducible repeat (first | apply Kd.R_alloc | apply Kd.R_drewN | apply Kd.R_drew)); exact HO134.out⟩, ⟨by refine pw_ ?_; exact BK127.out⟩, ⟨pb_ HB⟩⟩
      ·
       rw [if_neg c9] at H
       exact absurd H (by simp)
     ·
      rw [if_neg c8] at H
      exact absurd H (by simp)
    ·
     rw [if_neg c7] at H
     exact absurd H (by simp)
   ·
    rw [if_neg c6] at H
    have c6b0 : decide (0 ≤ x6_1) = false := decide_eq_false c6
    clear c6
    replace H := Option.bind_eq_some_iff.mp H
    obtain ⟨⟨t135, t136⟩, A110, H⟩ := H
    replace H : (some (a0, t135, t136)) = some (r1, r2, r3) := H
    have A11 := Aside0.mk A110
    clear A110
    simp only [Option.some.injEq, Prod.mk.injEq] at H
    obtain ⟨rfl, rfl, rfl⟩ := H
    obtain ⟨Ao12, co12, eo12⟩ := Kd.R_slice HO_5.out
    subst eo12
    go_wp2_with (first | ((with_reducible refine gate_callee (f := 107) rfl ?_); refine gl_ (some 24) Tryz.func107 #[.slice Ao12 x5_1.length co12] ?_; (with_reducible refine (platbookref01_Num.calls k1 _ _ x5_1 t135 t136 _ ?side1 ?side2 A11.out).mono ?_); (case side1 => repeat (first | exact (Kd.R_reads' HO_5.out).2.2 | (with_reducible refine Kd.C_alloc ?_ _) | (with_reducible refine Kd.C_drewN ?_ _) | (with_reducible refine Kd.C_drew ?_))); (case side2 => exact (Kd.R_reads' HO_5.out).2.1); rintro e w13 ⟨rfl, hb⟩; refine ⟨_, rfl, ?_⟩; replace HO_5 := Aside0.mk (Kd.R_below (by (with_reducible repeat (first | apply Kd.R_alloc | apply Kd.R_drewN | apply Kd.R_drew)); exact HO_5.out) hb); replace BK127 := bb_ BK127 hb; replace HB := bs_ HB hb; (try clear hb); (try clear hb2); (try clear hk); (try clear hi); obtain ⟨hcz14_0, hcz14_1, hcz14_2, hfz14_0, hfz14_1, hfz14_2⟩ := c3_ BK127))
    refine bodyPost_ret (results_cell_row rfl _ _ gb127 26 #[.bool a0, .int .u64 t135, .int .u64 t136] (0, 0) _ rfl (by refine pw_ ?_; refine blk_put (cs := #[.bool a0, .int .u64 t135, .int .u64 0]) ?_ 2 _ rfl; refine pw_ ?_; refine blk_put (cs := #[.bool a0, .int .u64 0, .int .u64 0]) ?_ 1 _ rfl; refine pw_ ?_; refine blk_put (cs := #[.bool false, .int .u64 0, .int .u64 0]) ?_ 0 _ rfl; refine pw_ ?_; exact BK127.out) Tryz.underlying26 rfl (by kernel_rfl)) rfl ?_
    exact ⟨by first | rfl | (simp [errW_none, errW_some] <;> rfl) | (simp [*, errW_none, errW_some] <;> rfl), pb_ HB⟩

end Go.Proofs.YtgdgklibilddgaaGreatDoor.PSp

