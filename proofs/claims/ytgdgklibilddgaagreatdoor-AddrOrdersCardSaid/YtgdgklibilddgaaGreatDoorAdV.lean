/- Addresses: so far behind, and how far. -/
import Derived.Test.YtgdgklibilddgaaGreatDoorAdM
namespace Go.Proofs.YtgdgklibilddgaaGreatDoor
open Go.RowKit

theorem numV_zero : numV 0 = .agg #[.int .u64 0, .int .u64 0] := rfl
theorem AddrV_zero : AddrV false 0 = .agg #[.bool false, .int .u64 0, .int .u64 0] := rfl
set_option maxRecDepth 100000 in
set_option maxHeartbeats 3200000 in
theorem plus_c (v : Bool) (a n : Nat) (w : World) (ha : a < 340282366920938463463374607431768211456) (hn : n < 340282366920938463463374607431768211456) :
    Calls Tryz.prog 14 #[AddrV v a, numV n] w fun e w' => e = .returned (plusV v a n) ∧ Below w.heap.size w w' := by
  have HR := Lib.hid (fun w => right_c v a w ha)
  have HA := Lib.hid (fun w => add_k a n w ha hn)
  have HR2 := Lib.hid (fun w => right_c v (addN a n) w (addN_lt' a n))
  unfold plusV
  rw [AddrV_zero]
  cases h1 : rightB v a
  · rw [h1] at HR
    rw [if_neg (by simp)]
    rw [AddrV_eq] at *
    unfold AddrC numV at *
    go_enter Tryz.func14, Tryz.ntmps14
    go_wp2_with fail
    have hA : Blk (((w.alloc (Obj.cells #[.bool v, .int .u64 (hi a), .int .u64 (lo a)] 26)).alloc (Obj.cells #[.int .u64 (hi n), .int .u64 (lo n)] 24)).alloc (Obj.cells #[.bool false, .int .u64 0, .int .u64 0] 26)) (w.heap.size) 26 (AddrC v a) := (((Blk.new' _ _ _ _ (by simp) : Blk (w.alloc (Obj.cells #[.bool v, .int .u64 (hi a), .int .u64 (lo a)] 26)) (w.heap.size) 26 (AddrC v a))).alloc _).alloc _
    have hN : Blk (((w.alloc (Obj.cells #[.bool v, .int .u64 (hi a), .int .u64 (lo a)] 26)).alloc (Obj.cells #[.int .u64 (hi n), .int .u64 (lo n)] 24)).alloc (Obj.cells #[.bool false, .int .u64 0, .int .u64 0] 26)) (w.heap.size + 1) 24 #[.int .u64 (hi n), .int .u64 (lo n)] := ((Blk.new' _ _ _ _ (by simp) : Blk ((w.alloc (Obj.cells #[.bool v, .int .u64 (hi a), .int .u64 (lo a)] 26)).alloc (Obj.cells #[.int .u64 (hi n), .int .u64 (lo n)] 24)) (w.heap.size + 1) 24 #[.int .u64 (hi n), .int .u64 (lo n)])).alloc _
    have hR : Blk (((w.alloc (Obj.cells #[.bool v, .int .u64 (hi a), .int .u64 (lo a)] 26)).alloc (Obj.cells #[.int .u64 (hi n), .int .u64 (lo n)] 24)).alloc (Obj.cells #[.bool false, .int .u64 0, .int .u64 0] 26)) (w.heap.size + 1 + 1) 26 (AddrC false 0) := (Blk.new' _ _ _ _ (by simp) : Blk (((w.alloc (Obj.cells #[.bool v, .int .u64 (hi a), .int .u64 (lo a)] 26)).alloc (Obj.cells #[.int .u64 (hi n), .int .u64 (lo n)] 24)).alloc (Obj.cells #[.bool false, .int .u64 0, .int .u64 0] 26)) (w.heap.size + 1 + 1) 26 (AddrC false 0))
    have hbel : Below w.heap.size w (((w.alloc (Obj.cells #[.bool v, .int .u64 (hi a), .int .u64 (lo a)] 26)).alloc (Obj.cells #[.int .u64 (hi n), .int .u64 (lo n)] 24)).alloc (Obj.cells #[.bool false, .int .u64 0, .int .u64 0] 26)) := (by repeat (first | (with_reducible exact Below.refl _ _) | (with_reducible assumption) | (with_reducible refine bl_alloc ?_ _) | (with_reducible refine bl_drew ?_) | (with_reducible refine bl_drewN ?_ _) | (with_reducible refine bl_set ?_ (by first | (simp; done) | (simp; omega)) _) | (with_reducible refine bl_trans ?_ ‹_›)))
    have hsz : (((w.alloc (Obj.cells #[.bool v, .int .u64 (hi a), .int .u64 (lo a)] 26)).alloc (Obj.cells #[.int .u64 (hi n), .int .u64 (lo n)] 24)).alloc (Obj.cells #[.bool false, .int .u64 0, .int .u64 0] 26)).heap.size = w.heap.size + 1 + 1 + 1 := by simp
    generalize ((w.alloc (Obj.cells #[.bool v, .int .u64 (hi a), .int .u64 (lo a)] 26)).alloc (Obj.cells #[.int .u64 (hi n), .int .u64 (lo n)] 24)).alloc (Obj.cells #[.bool false, .int .u64 0, .int .u64 0] 26) = w0 at *
    obtain ⟨gr, grE⟩ : ∃ g, g = w.heap.size + 1 + 1 := ⟨_, rfl⟩
    rw [← grE] at hR ⊢
    obtain ⟨gn, gnE⟩ : ∃ g, g = w.heap.size + 1 := ⟨_, rfl⟩
    rw [← gnE] at hN ⊢
    have hd1 : w.heap.size < gn := by omega
    have hd2 : gn < gr := by omega
    have hd3 : w.heap.size < gr := by omega
    clear hsz grE gnE
    with_reducible refine (HR.out _).mono ?_
    rintro e w1 ⟨rfl, hb⟩
    (try clear r0 r1 r2 rz0 rz1 rz2 rz3)
    replace hR := hR.after hb
    obtain ⟨r0, r1, r2, _⟩ := blk_adr hR
    have rz0 := hR.frozen 0
    have rz1 := hR.frozen 1
    have rz2 := hR.frozen 2
    (try clear rl rl1 rl2)
    have rl := hR.lt
    have rl1 := Nat.lt_succ_of_lt rl
    have rl2 := Nat.lt_succ_of_lt rl1
    try simp only [Nat.succ_eq_add_one] at rl1 rl2
    replace hbel := bl_trans hbel hb
    clear hb
    go_wp2_with fail
    obtain ⟨q0, q1, q2, _⟩ := blk_adr (v := false) (n := 0) (((hR.put 0 (.bool false)).put 1 (.int .u64 0)).put 2 (.int .u64 0))
    refine bodyPost_ret (v := .tuple #[.agg #[.bool false, .int .u64 0, .int .u64 0], .int .i64 1]) (by simp [results, Tryz.results14, go_sem, q0, q1, q2, hi_zero, lo_zero]) rfl ⟨rfl, (by repeat (first | (with_reducible exact Below.refl _ _) | (with_reducible assumption) | (with_reducible refine bl_alloc ?_ _) | (with_reducible refine bl_drew ?_) | (with_reducible refine bl_drewN ?_ _) | (with_reducible refine bl_set ?_ (by first | (simp; done) | (simp; omega)) _) | (with_reducible refine bl_trans ?_ ‹_›)))⟩
  · rw [h1] at HR
    rw [if_pos rfl]
    rw [AddrV_eq] at *
    unfold AddrC numV at *
    have SV := AddrV_eq v (addN a n)
    unfold AddrC at SV
    rw [SV]
    generalize addN a n = sm at *
    cases h2 : addF a n
    · rw [h2] at HA
      rw [Bool.false_and, if_neg (by simp)]
      go_enter Tryz.func14, Tryz.ntmps14
      go_wp2_with fail
      have hA : Blk (((w.alloc (Obj.cells #[.bool v, .int .u64 (hi a), .int .u64 (lo a)] 26)).alloc (Obj.cells #[.int .u64 (hi n), .int .u64 (lo n)] 24)).alloc (Obj.cells #[.bool false, .int .u64 0, .int .u64 0] 26)) (w.heap.size) 26 (AddrC v a) := (((Blk.new' _ _ _ _ (by simp) : Blk (w.alloc (Obj.cells #[.bool v, .int .u64 (hi a), .int .u64 (lo a)] 26)) (w.heap.size) 26 (AddrC v a))).alloc _).alloc _
      have hN : Blk (((w.alloc (Obj.cells #[.bool v, .int .u64 (hi a), .int .u64 (lo a)] 26)).alloc (Obj.cells #[.int .u64 (hi n), .int .u64 (lo n)] 24)).alloc (Obj.cells #[.bool false, .int .u64 0, .int .u64 0] 26)) (w.heap.size + 1) 24 #[.int .u64 (hi n), .int .u64 (lo n)] := ((Blk.new' _ _ _ _ (by simp) : Blk ((w.alloc (Obj.cells #[.bool v, .int .u64 (hi a), .int .u64 (lo a)] 26)).alloc (Obj.cells #[.int .u64 (hi n), .int .u64 (lo n)] 24)) (w.heap.size + 1) 24 #[.int .u64 (hi n), .int .u64 (lo n)])).alloc _
      have hR : Blk (((w.alloc (Obj.cells #[.bool v, .int .u64 (hi a), .int .u64 (lo a)] 26)).alloc (Obj.cells #[.int .u64 (hi n), .int .u64 (lo n)] 24)).alloc (Obj.cells #[.bool false, .int .u64 0, .int .u64 0] 26)) (w.heap.size + 1 + 1) 26 (AddrC false 0) := (Blk.new' _ _ _ _ (by simp) : Blk (((w.alloc (Obj.cells #[.bool v, .int .u64 (hi a), .int .u64 (lo a)] 26)).alloc (Obj.cells #[.int .u64 (hi n), .int .u64 (lo n)] 24)).alloc (Obj.cells #[.bool false, .int .u64 0, .int .u64 0] 26)) (w.heap.size + 1 + 1) 26 (AddrC false 0))
      have hbel : Below w.heap.size w (((w.alloc (Obj.cells #[.bool v, .int .u64 (hi a), .int .u64 (lo a)] 26)).alloc (Obj.cells #[.int .u64 (hi n), .int .u64 (lo n)] 24)).alloc (Obj.cells #[.bool false, .int .u64 0, .int .u64 0] 26)) := (by repeat (first | (with_reducible exact Below.refl _ _) | (with_reducible assumption) | (with_reducible refine bl_alloc ?_ _) | (with_reducible refine bl_drew ?_) | (with_reducible refine bl_drewN ?_ _) | (with_reducible refine bl_set ?_ (by first | (simp; done) | (simp; omega)) _) | (with_reducible refine bl_trans ?_ ‹_›)))
      have hsz : (((w.alloc (Obj.cells #[.bool v, .int .u64 (hi a), .int .u64 (lo a)] 26)).alloc (Obj.cells #[.int .u64 (hi n), .int .u64 (lo n)] 24)).alloc (Obj.cells #[.bool false, .int .u64 0, .int .u64 0] 26)).heap.size = w.heap.size + 1 + 1 + 1 := by simp
      generalize ((w.alloc (Obj.cells #[.bool v, .int .u64 (hi a), .int .u64 (lo a)] 26)).alloc (Obj.cells #[.int .u64 (hi n), .int .u64 (lo n)] 24)).alloc (Obj.cells #[.bool false, .int .u64 0, .int .u64 0] 26) = w0 at *
      obtain ⟨gr, grE⟩ : ∃ g, g = w.heap.size + 1 + 1 := ⟨_, rfl⟩
      rw [← grE] at hR ⊢
      obtain ⟨gn, gnE⟩ : ∃ g, g = w.heap.size + 1 := ⟨_, rfl⟩
      rw [← gnE] at hN ⊢
      have hd1 : w.heap.size < gn := by omega
      have hd2 : gn < gr := by omega
      have hd3 : w.heap.size < gr := by omega
      clear hsz grE gnE
      with_reducible refine (HR.out _).mono ?_
      rintro e w1 ⟨rfl, hb⟩
      (try clear a0 a1 a2 az0 az1 az2 az3)
      replace hA := hA.after hb
      obtain ⟨a0, a1, a2, _⟩ := blk_adr hA
      have az0 := hA.frozen 0
      have az1 := hA.frozen 1
      have az2 := hA.frozen 2
      (try clear al al1 al2)
      have al := hA.lt
      have al1 := Nat.lt_succ_of_lt al
      have al2 := Nat.lt_succ_of_lt al1
      try simp only [Nat.succ_eq_add_one] at al1 al2
      (try clear n0 n1 nz0 nz1)
      replace hN := hN.after hb
      obtain ⟨n0, n1, _⟩ := blk_two hN
      have nz0 := hN.frozen 0
      have nz1 := hN.frozen 1
      (try clear nl nl1 nl2)
      have nl := hN.lt
      have nl1 := Nat.lt_succ_of_lt nl
      have nl2 := Nat.lt_succ_of_lt nl1
      try simp only [Nat.succ_eq_add_one] at nl1 nl2
      replace hR := hR.after hb
      replace hbel := bl_trans hbel hb
      clear hb
      go_wp2_with fail
      with_reducible refine (HA.out _).mono ?_
      rintro e w2 ⟨rfl, hb⟩
      (try clear a0 a1 a2 az0 az1 az2 az3)
      replace hA := hA.after hb
      obtain ⟨a0, a1, a2, _⟩ := blk_adr hA
      have az0 := hA.frozen 0
      have az1 := hA.frozen 1
      have az2 := hA.frozen 2
      (try clear al al1 al2)
      have al := hA.lt
      have al1 := Nat.lt_succ_of_lt al
      have al2 := Nat.lt_succ_of_lt al1
      try simp only [Nat.succ_eq_add_one] at al1 al2
      (try clear r0 r1 r2 rz0 rz1 rz2 rz3)
      replace hR := hR.after hb
      obtain ⟨r0, r1, r2, _⟩ := blk_adr hR
      have rz0 := hR.frozen 0
      have rz1 := hR.frozen 1
      have rz2 := hR.frozen 2
      (try clear rl rl1 rl2)
      have rl := hR.lt
      have rl1 := Nat.lt_succ_of_lt rl
      have rl2 := Nat.lt_succ_of_lt rl1
      try simp only [Nat.succ_eq_add_one] at rl1 rl2
      replace hbel := bl_trans hbel hb
      clear hb
      go_wp2_with fail
      have hq := fun o1 o2 => blk_adr (v := false) (n := 0) (((((hR.put 0 (.bool false)).put 1 (.int .u64 0)).put 2 (.int .u64 0)).alloc o1).alloc o2)
      have q0 := fun o1 o2 => (hq o1 o2).1
      have q1 := fun o1 o2 => (hq o1 o2).2.1
      have q2 := fun o1 o2 => (hq o1 o2).2.2.1
      refine bodyPost_ret (v := .tuple #[.agg #[.bool false, .int .u64 0, .int .u64 0], .int .i64 11]) (by simp [results, Tryz.results14, go_sem, q0, q1, q2, hi_zero, lo_zero]) rfl ⟨rfl, (by repeat (first | (with_reducible exact Below.refl _ _) | (with_reducible assumption) | (with_reducible refine bl_alloc ?_ _) | (with_reducible refine bl_drew ?_) | (with_reducible refine bl_drewN ?_ _) | (with_reducible refine bl_set ?_ (by first | (simp; done) | (simp; omega)) _) | (with_reducible refine bl_trans ?_ ‹_›)))⟩
    · rw [h2] at HA
      rw [Bool.true_and]
      cases h3 : rightB v sm
      · rw [h3] at HR2
        rw [if_neg (by simp)]
        go_enter Tryz.func14, Tryz.ntmps14
        go_wp2_with fail
        have hA : Blk (((w.alloc (Obj.cells #[.bool v, .int .u64 (hi a), .int .u64 (lo a)] 26)).alloc (Obj.cells #[.int .u64 (hi n), .int .u64 (lo n)] 24)).alloc (Obj.cells #[.bool false, .int .u64 0, .int .u64 0] 26)) (w.heap.size) 26 (AddrC v a) := (((Blk.new' _ _ _ _ (by simp) : Blk (w.alloc (Obj.cells #[.bool v, .int .u64 (hi a), .int .u64 (lo a)] 26)) (w.heap.size) 26 (AddrC v a))).alloc _).alloc _
        have hN : Blk (((w.alloc (Obj.cells #[.bool v, .int .u64 (hi a), .int .u64 (lo a)] 26)).alloc (Obj.cells #[.int .u64 (hi n), .int .u64 (lo n)] 24)).alloc (Obj.cells #[.bool false, .int .u64 0, .int .u64 0] 26)) (w.heap.size + 1) 24 #[.int .u64 (hi n), .int .u64 (lo n)] := ((Blk.new' _ _ _ _ (by simp) : Blk ((w.alloc (Obj.cells #[.bool v, .int .u64 (hi a), .int .u64 (lo a)] 26)).alloc (Obj.cells #[.int .u64 (hi n), .int .u64 (lo n)] 24)) (w.heap.size + 1) 24 #[.int .u64 (hi n), .int .u64 (lo n)])).alloc _
        have hR : Blk (((w.alloc (Obj.cells #[.bool v, .int .u64 (hi a), .int .u64 (lo a)] 26)).alloc (Obj.cells #[.int .u64 (hi n), .int .u64 (lo n)] 24)).alloc (Obj.cells #[.bool false, .int .u64 0, .int .u64 0] 26)) (w.heap.size + 1 + 1) 26 (AddrC false 0) := (Blk.new' _ _ _ _ (by simp) : Blk (((w.alloc (Obj.cells #[.bool v, .int .u64 (hi a), .int .u64 (lo a)] 26)).alloc (Obj.cells #[.int .u64 (hi n), .int .u64 (lo n)] 24)).alloc (Obj.cells #[.bool false, .int .u64 0, .int .u64 0] 26)) (w.heap.size + 1 + 1) 26 (AddrC false 0))
        have hbel : Below w.heap.size w (((w.alloc (Obj.cells #[.bool v, .int .u64 (hi a), .int .u64 (lo a)] 26)).alloc (Obj.cells #[.int .u64 (hi n), .int .u64 (lo n)] 24)).alloc (Obj.cells #[.bool false, .int .u64 0, .int .u64 0] 26)) := (by repeat (first | (with_reducible exact Below.refl _ _) | (with_reducible assumption) | (with_reducible refine bl_alloc ?_ _) | (with_reducible refine bl_drew ?_) | (with_reducible refine bl_drewN ?_ _) | (with_reducible refine bl_set ?_ (by first | (simp; done) | (simp; omega)) _) | (with_reducible refine bl_trans ?_ ‹_›)))
        have hsz : (((w.alloc (Obj.cells #[.bool v, .int .u64 (hi a), .int .u64 (lo a)] 26)).alloc (Obj.cells #[.int .u64 (hi n), .int .u64 (lo n)] 24)).alloc (Obj.cells #[.bool false, .int .u64 0, .int .u64 0] 26)).heap.size = w.heap.size + 1 + 1 + 1 := by simp
        generalize ((w.alloc (Obj.cells #[.bool v, .int .u64 (hi a), .int .u64 (lo a)] 26)).alloc (Obj.cells #[.int .u64 (hi n), .int .u64 (lo n)] 24)).alloc (Obj.cells #[.bool false, .int .u64 0, .int .u64 0] 26) = w0 at *
        obtain ⟨gr, grE⟩ : ∃ g, g = w.heap.size + 1 + 1 := ⟨_, rfl⟩
        rw [← grE] at hR ⊢
        obtain ⟨gn, gnE⟩ : ∃ g, g = w.heap.size + 1 := ⟨_, rfl⟩
        rw [← gnE] at hN ⊢
        have hd1 : w.heap.size < gn := by omega
        have hd2 : gn < gr := by omega
        have hd3 : w.heap.size < gr := by omega
        clear hsz grE gnE
        with_reducible refine (HR.out _).mono ?_
        rintro e w1 ⟨rfl, hb⟩
        (try clear a0 a1 a2 az0 az1 az2 az3)
        replace hA := hA.after hb
        obtain ⟨a0, a1, a2, _⟩ := blk_adr hA
        have az0 := hA.frozen 0
        have az1 := hA.frozen 1
        have az2 := hA.frozen 2
        (try clear al al1 al2)
        have al := hA.lt
        have al1 := Nat.lt_succ_of_lt al
        have al2 := Nat.lt_succ_of_lt al1
        try simp only [Nat.succ_eq_add_one] at al1 al2
        (try clear n0 n1 nz0 nz1)
        replace hN := hN.after hb
        obtain ⟨n0, n1, _⟩ := blk_two hN
        have nz0 := hN.frozen 0
        have nz1 := hN.frozen 1
        (try clear nl nl1 nl2)
        have nl := hN.lt
        have nl1 := Nat.lt_succ_of_lt nl
        have nl2 := Nat.lt_succ_of_lt nl1
        try simp only [Nat.succ_eq_add_one] at nl1 nl2
        replace hR := hR.after hb
        replace hbel := bl_trans hbel hb
        clear hb
        go_wp2_with fail
        with_reducible refine (HA.out _).mono ?_
        rintro e w2 ⟨rfl, hb⟩
        (try clear a0 a1 a2 az0 az1 az2 az3)
        replace hA := hA.after hb
        obtain ⟨a0, a1, a2, _⟩ := blk_adr hA
        have az0 := hA.frozen 0
        have az1 := hA.frozen 1
        have az2 := hA.frozen 2
        (try clear al al1 al2)
        have al := hA.lt
        have al1 := Nat.lt_succ_of_lt al
        have al2 := Nat.lt_succ_of_lt al1
        try simp only [Nat.succ_eq_add_one] at al1 al2
        (try clear r0 r1 r2 rz0 rz1 rz2 rz3)
        replace hR := hR.after hb
        obtain ⟨r0, r1, r2, _⟩ := blk_adr hR
        have rz0 := hR.frozen 0
        have rz1 := hR.frozen 1
        have rz2 := hR.frozen 2
        (try clear rl rl1 rl2)
        have rl := hR.lt
        have rl1 := Nat.lt_succ_of_lt rl
        have rl2 := Nat.lt_succ_of_lt rl1
        try simp only [Nat.succ_eq_add_one] at rl1 rl2
        replace hbel := bl_trans hbel hb
        clear hb
        go_wp2_with fail
        refine (HR2.out _).mono ?_
        rintro e w3 ⟨rfl, hb3⟩
        have hR3 : Blk w3 gr 26 (AddrC false 0) := (by repeat (first | (with_reducible assumption) | (with_reducible refine blk_fill (u := .int .u64 0) (v := .int .u64 0) ?_) | (with_reducible refine Blk.drew ?_) | (with_reducible refine Blk.new' _ _ _ _ (by first | (with_reducible rfl) | (simp; done))) | (with_reducible refine Blk.alloc ?_ _) | (with_reducible refine Blk.after ?_ ‹_›) | (with_reducible refine Blk.far ?_ (by first | (simp; done) | (simp; omega)) _)))
        have hbel3 : Below w.heap.size w w3 := (by repeat (first | (with_reducible exact Below.refl _ _) | (with_reducible assumption) | (with_reducible refine bl_alloc ?_ _) | (with_reducible refine bl_drew ?_) | (with_reducible refine bl_drewN ?_ _) | (with_reducible refine bl_set ?_ (by first | (simp; done) | (simp; omega)) _) | (with_reducible refine bl_trans ?_ ‹_›)))
        obtain ⟨r0, r1, r2, _⟩ := blk_adr hR3
        have rz0 := hR3.frozen 0
        have rz1 := hR3.frozen 1
        have rz2 := hR3.frozen 2
        go_wp2_with fail
        obtain ⟨q0, q1, q2, _⟩ := blk_adr (v := false) (n := 0) (((hR3.put 0 (.bool false)).put 1 (.int .u64 0)).put 2 (.int .u64 0))
        refine bodyPost_ret (v := .tuple #[.agg #[.bool false, .int .u64 0, .int .u64 0], .int .i64 11]) (by simp [results, Tryz.results14, go_sem, q0, q1, q2, hi_zero, lo_zero]) rfl ⟨rfl, (by repeat (first | (with_reducible exact Below.refl _ _) | (with_reducible assumption) | (with_reducible refine bl_alloc ?_ _) | (with_reducible refine bl_drew ?_) | (with_reducible refine bl_drewN ?_ _) | (with_reducible refine bl_set ?_ (by first | (simp; done) | (simp; omega)) _) | (with_reducible refine bl_trans ?_ ‹_›)))⟩
      · rw [h3] at HR2
        rw [if_pos rfl]
        go_enter Tryz.func14, Tryz.ntmps14
        go_wp2_with fail
        have hA : Blk (((w.alloc (Obj.cells #[.bool v, .int .u64 (hi a), .int .u64 (lo a)] 26)).alloc (Obj.cells #[.int .u64 (hi n), .int .u64 (lo n)] 24)).alloc (Obj.cells #[.bool false, .int .u64 0, .int .u64 0] 26)) (w.heap.size) 26 (AddrC v a) := (((Blk.new' _ _ _ _ (by simp) : Blk (w.alloc (Obj.cells #[.bool v, .int .u64 (hi a), .int .u64 (lo a)] 26)) (w.heap.size) 26 (AddrC v a))).alloc _).alloc _
        have hN : Blk (((w.alloc (Obj.cells #[.bool v, .int .u64 (hi a), .int .u64 (lo a)] 26)).alloc (Obj.cells #[.int .u64 (hi n), .int .u64 (lo n)] 24)).alloc (Obj.cells #[.bool false, .int .u64 0, .int .u64 0] 26)) (w.heap.size + 1) 24 #[.int .u64 (hi n), .int .u64 (lo n)] := ((Blk.new' _ _ _ _ (by simp) : Blk ((w.alloc (Obj.cells #[.bool v, .int .u64 (hi a), .int .u64 (lo a)] 26)).alloc (Obj.cells #[.int .u64 (hi n), .int .u64 (lo n)] 24)) (w.heap.size + 1) 24 #[.int .u64 (hi n), .int .u64 (lo n)])).alloc _
        have hR : Blk (((w.alloc (Obj.cells #[.bool v, .int .u64 (hi a), .int .u64 (lo a)] 26)).alloc (Obj.cells #[.int .u64 (hi n), .int .u64 (lo n)] 24)).alloc (Obj.cells #[.bool false, .int .u64 0, .int .u64 0] 26)) (w.heap.size + 1 + 1) 26 (AddrC false 0) := (Blk.new' _ _ _ _ (by simp) : Blk (((w.alloc (Obj.cells #[.bool v, .int .u64 (hi a), .int .u64 (lo a)] 26)).alloc (Obj.cells #[.int .u64 (hi n), .int .u64 (lo n)] 24)).alloc (Obj.cells #[.bool false, .int .u64 0, .int .u64 0] 26)) (w.heap.size + 1 + 1) 26 (AddrC false 0))
        have hbel : Below w.heap.size w (((w.alloc (Obj.cells #[.bool v, .int .u64 (hi a), .int .u64 (lo a)] 26)).alloc (Obj.cells #[.int .u64 (hi n), .int .u64 (lo n)] 24)).alloc (Obj.cells #[.bool false, .int .u64 0, .int .u64 0] 26)) := (by repeat (first | (with_reducible exact Below.refl _ _) | (with_reducible assumption) | (with_reducible refine bl_alloc ?_ _) | (with_reducible refine bl_drew ?_) | (with_reducible refine bl_drewN ?_ _) | (with_reducible refine bl_set ?_ (by first | (simp; done) | (simp; omega)) _) | (with_reducible refine bl_trans ?_ ‹_›)))
        have hsz : (((w.alloc (Obj.cells #[.bool v, .int .u64 (hi a), .int .u64 (lo a)] 26)).alloc (Obj.cells #[.int .u64 (hi n), .int .u64 (lo n)] 24)).alloc (Obj.cells #[.bool false, .int .u64 0, .int .u64 0] 26)).heap.size = w.heap.size + 1 + 1 + 1 := by simp
        generalize ((w.alloc (Obj.cells #[.bool v, .int .u64 (hi a), .int .u64 (lo a)] 26)).alloc (Obj.cells #[.int .u64 (hi n), .int .u64 (lo n)] 24)).alloc (Obj.cells #[.bool false, .int .u64 0, .int .u64 0] 26) = w0 at *
        obtain ⟨gr, grE⟩ : ∃ g, g = w.heap.size + 1 + 1 := ⟨_, rfl⟩
        rw [← grE] at hR ⊢
        obtain ⟨gn, gnE⟩ : ∃ g, g = w.heap.size + 1 := ⟨_, rfl⟩
        rw [← gnE] at hN ⊢
        have hd1 : w.heap.size < gn := by omega
        have hd2 : gn < gr := by omega
        have hd3 : w.heap.size < gr := by omega
        clear hsz grE gnE
        with_reducible refine (HR.out _).mono ?_
        rintro e w1 ⟨rfl, hb⟩
        (try clear a0 a1 a2 az0 az1 az2 az3)
        replace hA := hA.after hb
        obtain ⟨a0, a1, a2, _⟩ := blk_adr hA
        have az0 := hA.frozen 0
        have az1 := hA.frozen 1
        have az2 := hA.frozen 2
        (try clear al al1 al2)
        have al := hA.lt
        have al1 := Nat.lt_succ_of_lt al
        have al2 := Nat.lt_succ_of_lt al1
        try simp only [Nat.succ_eq_add_one] at al1 al2
        (try clear n0 n1 nz0 nz1)
        replace hN := hN.after hb
        obtain ⟨n0, n1, _⟩ := blk_two hN
        have nz0 := hN.frozen 0
        have nz1 := hN.frozen 1
        (try clear nl nl1 nl2)
        have nl := hN.lt
        have nl1 := Nat.lt_succ_of_lt nl
        have nl2 := Nat.lt_succ_of_lt nl1
        try simp only [Nat.succ_eq_add_one] at nl1 nl2
        replace hR := hR.after hb
        replace hbel := bl_trans hbel hb
        clear hb
        go_wp2_with fail
        with_reducible refine (HA.out _).mono ?_
        rintro e w2 ⟨rfl, hb⟩
        (try clear a0 a1 a2 az0 az1 az2 az3)
        replace hA := hA.after hb
        obtain ⟨a0, a1, a2, _⟩ := blk_adr hA
        have az0 := hA.frozen 0
        have az1 := hA.frozen 1
        have az2 := hA.frozen 2
        (try clear al al1 al2)
        have al := hA.lt
        have al1 := Nat.lt_succ_of_lt al
        have al2 := Nat.lt_succ_of_lt al1
        try simp only [Nat.succ_eq_add_one] at al1 al2
        (try clear r0 r1 r2 rz0 rz1 rz2 rz3)
        replace hR := hR.after hb
        obtain ⟨r0, r1, r2, _⟩ := blk_adr hR
        have rz0 := hR.frozen 0
        have rz1 := hR.frozen 1
        have rz2 := hR.frozen 2
        (try clear rl rl1 rl2)
        have rl := hR.lt
        have rl1 := Nat.lt_succ_of_lt rl
        have rl2 := Nat.lt_succ_of_lt rl1
        try simp only [Nat.succ_eq_add_one] at rl1 rl2
        replace hbel := bl_trans hbel hb
        clear hb
        go_wp2_with fail
        refine (HR2.out _).mono ?_
        rintro e w3 ⟨rfl, hb3⟩
        have hR3 : Blk w3 gr 26 (AddrC false 0) := (by repeat (first | (with_reducible assumption) | (with_reducible refine blk_fill (u := .int .u64 0) (v := .int .u64 0) ?_) | (with_reducible refine Blk.drew ?_) | (with_reducible refine Blk.new' _ _ _ _ (by first | (with_reducible rfl) | (simp; done))) | (with_reducible refine Blk.alloc ?_ _) | (with_reducible refine Blk.after ?_ ‹_›) | (with_reducible refine Blk.far ?_ (by first | (simp; done) | (simp; omega)) _)))
        have hO3' : Blk w3 (w2.heap.size + 1) 26 #[.bool v, .int .u64 (hi sm), .int .u64 (lo sm)] := (by repeat (first | (with_reducible assumption) | (with_reducible refine blk_fill (u := .int .u64 0) (v := .int .u64 0) ?_) | (with_reducible refine Blk.drew ?_) | (with_reducible refine Blk.new' _ _ _ _ (by first | (with_reducible rfl) | (simp; done))) | (with_reducible refine Blk.alloc ?_ _) | (with_reducible refine Blk.after ?_ ‹_›) | (with_reducible refine Blk.far ?_ (by first | (simp; done) | (simp; omega)) _)))
        have hO3 : Blk w3 (w2.heap.size + 1) 26 (AddrC v sm) := hO3'
        have hbel3 : Below w.heap.size w w3 := (by repeat (first | (with_reducible exact Below.refl _ _) | (with_reducible assumption) | (with_reducible refine bl_alloc ?_ _) | (with_reducible refine bl_drew ?_) | (with_reducible refine bl_drewN ?_ _) | (with_reducible refine bl_set ?_ (by first | (simp; done) | (simp; omega)) _) | (with_reducible refine bl_trans ?_ ‹_›)))
        obtain ⟨r0, r1, r2, _⟩ := blk_adr hR3
        have rz0 := hR3.frozen 0
        have rz1 := hR3.frozen 1
        have rz2 := hR3.frozen 2
        obtain ⟨o0, o1, o2, _⟩ := blk_adr hO3
        have oz0 := hO3.frozen 0
        have oz1 := hO3.frozen 1
        have oz2 := hO3.frozen 2
        go_wp2_with fail
        obtain ⟨q0, q1, q2, _⟩ := blk_adr (v := v) (n := sm) (((hR3.put 0 (.bool v)).put 1 (.int .u64 (hi sm))).put 2 (.int .u64 (lo sm)))
        refine bodyPost_ret (v := .tuple #[.agg #[.bool v, .int .u64 (hi sm), .int .u64 (lo sm)], .int .i64 0]) (by simp [results, Tryz.results14, go_sem, q0, q1, q2]) rfl ⟨rfl, (by repeat (first | (with_reducible exact Below.refl _ _) | (with_reducible assumption) | (with_reducible refine bl_alloc ?_ _) | (with_reducible refine bl_drew ?_) | (with_reducible refine bl_drewN ?_ _) | (with_reducible refine bl_set ?_ (by first | (simp; done) | (simp; omega)) _) | (with_reducible refine bl_trans ?_ ‹_›)))⟩
end Go.Proofs.YtgdgklibilddgaaGreatDoor
