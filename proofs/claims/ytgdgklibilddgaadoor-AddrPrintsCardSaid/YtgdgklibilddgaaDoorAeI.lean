/- Addresses: the walk of the law of texts printed. -/
import Derived.Test.YtgdgklibilddgaaDoorAeH
import Derived.Test.YtgdgklibilddgaaDoorAeB
namespace Go.Proofs.YtgdgklibilddgaaDoor
open Go.RowKit

/-- what is printed is read as it was -/
theorem parse_printA {v : Bool} {n : Nat} (hn : n < 340282366920938463463374607431768211456) (hr : rightB v n = true) : parseA (printA v n) = some (v, n) := by
  unfold printA
  rw [if_pos hr]
  cases v
  · rw [if_neg (by simp)]; exact parse_print4 (right_false hr)
  · rw [if_pos rfl, parse_long (grps_len n) (fun g hg => grps_lt hg), valG_grps hn]
theorem printA_len (v : Bool) (n : Nat) : (printA v n).length ≤ 1000 := by
  unfold printA
  split
  · split
    · rw [← print_alike (grps_len n)]
      exact Nat.le_trans (preT_len (grps_len n)) (by omega)
    · unfold print4
      have := join_len (c := [46]) (m := 3) (l := (bytesB 4 n).map Lib.decDigits) (fun p hp => by
        obtain ⟨x, hx, rfl⟩ := List.mem_map.1 hp
        exact (by decide +kernel : ∀ x, x < 256 → (Lib.decDigits x).length ≤ 3) x (bytesB_lt hx))
      rw [List.length_map, bytesB_len] at this
      refine Nat.le_trans this ?_
      simp
  · simp
set_option maxRecDepth 100000 in
set_option maxHeartbeats 1600000 in
theorem addrPrints_walk (v : Bool) (a : Nat) (w : World) (ha : a < 340282366920938463463374607431768211456) (hG : Glob w) :
    Calls Tryd.prog 3 #[AddrV v a] w fun e w' => e = .returned (.bool true) ∧ Below w.heap.size w w' := by
  have HAW := Lib.hid (fun w hG => awake02_c w hG)
  have HP := Lib.hid (fun w hG => print_c v a w ha hG)
  have HPR := Lib.hid (fun w => rprint_c v a w ha)
  have HR := Lib.hid (fun w => rright_c v a w ha)
  by_cases hr : rightB v a = true
  · rw [hr] at HR
    have hlen := printA_len v a
    have hpa := parse_printA ha hr
    obtain ⟨S, hS⟩ : ∃ S : ByteArray, (⟨(printA v a).toArray⟩ : ByteArray) = S := ⟨_, rfl⟩
    have hSb : bts S = printA v a := by rw [← hS]; exact bts_mk _
    have hSz : S.size ≤ 1000 := by rw [← hS]; show (printA v a).toArray.size ≤ 1000; rw [List.size_toArray]; exact hlen
    have HPA := Lib.hid (fun w hG => parse_c S w (by omega) hG)
    rw [hSb, hpa] at HPA
    unfold parseV at HPA
    rw [hS] at HP HPR
    clear hS hSb hpa hlen
    simp only [AddrV_eq, AddrC] at *
    go_enter Tryd.func3, Tryd.ntmps3
    go_wp2_with fail
    have hA : Blk (w.alloc (Obj.cells #[.bool v, .int .u64 (hi a), .int .u64 (lo a)] 26)) (w.heap.size) 26 (AddrC v a) := (Blk.new' _ _ _ _ (by simp) : Blk (w.alloc (Obj.cells #[.bool v, .int .u64 (hi a), .int .u64 (lo a)] 26)) (w.heap.size) 26 (AddrC v a))
    have hbel : Below w.heap.size w (w.alloc (Obj.cells #[.bool v, .int .u64 (hi a), .int .u64 (lo a)] 26)) := (by repeat (first | (with_reducible exact Below.refl _ _) | (with_reducible assumption) | (with_reducible refine bl_alloc ?_ _) | (with_reducible refine bl_drew ?_) | (with_reducible refine bl_drewN ?_ _) | (with_reducible refine bl_set ?_ (by first | (simp; done) | (simp; omega)) _) | (with_reducible refine bl_trans ?_ ‹_›)))
    replace hG := hG.after hbel
    have hsz : (w.alloc (Obj.cells #[.bool v, .int .u64 (hi a), .int .u64 (lo a)] 26)).heap.size = w.heap.size + 1 := by simp
    generalize w.alloc (Obj.cells #[.bool v, .int .u64 (hi a), .int .u64 (lo a)] 26) = w0 at *
    with_reducible refine (HAW.out _ hG).mono ?_
    rintro e w1 ⟨rfl, hb⟩
    (try clear a0 a1 a2 az0 az1 az2 az3)
    replace hA := hA.after hb
    obtain ⟨a0, a1, a2, _⟩ := blk_adr hA
    have az0 := hA.frozen 0
    have az1 := hA.frozen 1
    have az2 := hA.frozen 2
    (try clear al al1 al2)
    have al := hA.lt
    have al1 := Nat.lt_succ_of_lt al
    have al2 := Nat.lt_succ_of_lt al1
    try simp only [Nat.succ_eq_add_one] at al1 al2
    replace hG := hG.after hb
    replace hbel := bl_trans hbel hb
    clear hb
    go_wp2_with fail
    with_reducible refine (HP.out _ hG).mono ?_
    rintro e w2 ⟨rfl, hb⟩
    (try clear a0 a1 a2 az0 az1 az2 az3)
    replace hA := hA.after hb
    obtain ⟨a0, a1, a2, _⟩ := blk_adr hA
    have az0 := hA.frozen 0
    have az1 := hA.frozen 1
    have az2 := hA.frozen 2
    (try clear al al1 al2)
    have al := hA.lt
    have al1 := Nat.lt_succ_of_lt al
    have al2 := Nat.lt_succ_of_lt al1
    try simp only [Nat.succ_eq_add_one] at al1 al2
    replace hG := hG.after hb
    replace hbel := bl_trans hbel hb
    clear hb
    go_wp2_with fail
    with_reducible refine (HPR.out _).mono ?_
    rintro e w3 ⟨rfl, hb⟩
    (try clear a0 a1 a2 az0 az1 az2 az3)
    replace hA := hA.after hb
    obtain ⟨a0, a1, a2, _⟩ := blk_adr hA
    have az0 := hA.frozen 0
    have az1 := hA.frozen 1
    have az2 := hA.frozen 2
    (try clear al al1 al2)
    have al := hA.lt
    have al1 := Nat.lt_succ_of_lt al
    have al2 := Nat.lt_succ_of_lt al1
    try simp only [Nat.succ_eq_add_one] at al1 al2
    replace hG := hG.after hb
    replace hbel := bl_trans hbel hb
    clear hb
    go_wp2_with fail
    with_reducible refine (HR.out _).mono ?_
    rintro e w4 ⟨rfl, hb⟩
    (try clear a0 a1 a2 az0 az1 az2 az3)
    replace hA := hA.after hb
    obtain ⟨a0, a1, a2, _⟩ := blk_adr hA
    have az0 := hA.frozen 0
    have az1 := hA.frozen 1
    have az2 := hA.frozen 2
    (try clear al al1 al2)
    have al := hA.lt
    have al1 := Nat.lt_succ_of_lt al
    have al2 := Nat.lt_succ_of_lt al1
    try simp only [Nat.succ_eq_add_one] at al1 al2
    replace hG := hG.after hb
    replace hbel := bl_trans hbel hb
    clear hb
    go_wp2_with fail
    with_reducible refine (HPA.out _ hG).mono ?_
    rintro e w5 ⟨rfl, hb5⟩
    replace hA := hA.after hb5
    replace hbel := bl_trans hbel hb5
    clear a0 a1 a2 az0 az1 az2 al al1 al2 hb5
    obtain ⟨a0, a1, a2, _⟩ := blk_adr hA
    have az0 := hA.frozen 0
    have az1 := hA.frozen 1
    have az2 := hA.frozen 2
    have al := hA.lt
    have al1 := Nat.lt_succ_of_lt al
    go_wp2_with fail
    go_ret
    exact ⟨rfl, (by repeat (first | (with_reducible exact Below.refl _ _) | (with_reducible assumption) | (with_reducible refine bl_alloc ?_ _) | (with_reducible refine bl_drew ?_) | (with_reducible refine bl_drewN ?_ _) | (with_reducible refine bl_set ?_ (by first | (simp; done) | (simp; omega)) _) | (with_reducible refine bl_trans ?_ ‹_›)))⟩
  · have hr' : rightB v a = false := by simpa using hr
    rw [hr'] at HR
    have hp : printA v a = [] := by unfold printA; rw [if_neg hr]
    rw [hp] at HP HPR
    simp only [AddrV_eq, AddrC] at *
    clear hr hp
    go_enter Tryd.func3, Tryd.ntmps3
    go_wp2_with fail
    have hA : Blk (w.alloc (Obj.cells #[.bool v, .int .u64 (hi a), .int .u64 (lo a)] 26)) (w.heap.size) 26 (AddrC v a) := (Blk.new' _ _ _ _ (by simp) : Blk (w.alloc (Obj.cells #[.bool v, .int .u64 (hi a), .int .u64 (lo a)] 26)) (w.heap.size) 26 (AddrC v a))
    have hbel : Below w.heap.size w (w.alloc (Obj.cells #[.bool v, .int .u64 (hi a), .int .u64 (lo a)] 26)) := (by repeat (first | (with_reducible exact Below.refl _ _) | (with_reducible assumption) | (with_reducible refine bl_alloc ?_ _) | (with_reducible refine bl_drew ?_) | (with_reducible refine bl_drewN ?_ _) | (with_reducible refine bl_set ?_ (by first | (simp; done) | (simp; omega)) _) | (with_reducible refine bl_trans ?_ ‹_›)))
    replace hG := hG.after hbel
    have hsz : (w.alloc (Obj.cells #[.bool v, .int .u64 (hi a), .int .u64 (lo a)] 26)).heap.size = w.heap.size + 1 := by simp
    generalize w.alloc (Obj.cells #[.bool v, .int .u64 (hi a), .int .u64 (lo a)] 26) = w0 at *
    with_reducible refine (HAW.out _ hG).mono ?_
    rintro e w1 ⟨rfl, hb⟩
    (try clear a0 a1 a2 az0 az1 az2 az3)
    replace hA := hA.after hb
    obtain ⟨a0, a1, a2, _⟩ := blk_adr hA
    have az0 := hA.frozen 0
    have az1 := hA.frozen 1
    have az2 := hA.frozen 2
    (try clear al al1 al2)
    have al := hA.lt
    have al1 := Nat.lt_succ_of_lt al
    have al2 := Nat.lt_succ_of_lt al1
    try simp only [Nat.succ_eq_add_one] at al1 al2
    replace hG := hG.after hb
    replace hbel := bl_trans hbel hb
    clear hb
    go_wp2_with fail
    with_reducible refine (HP.out _ hG).mono ?_
    rintro e w2 ⟨rfl, hb⟩
    (try clear a0 a1 a2 az0 az1 az2 az3)
    replace hA := hA.after hb
    obtain ⟨a0, a1, a2, _⟩ := blk_adr hA
    have az0 := hA.frozen 0
    have az1 := hA.frozen 1
    have az2 := hA.frozen 2
    (try clear al al1 al2)
    have al := hA.lt
    have al1 := Nat.lt_succ_of_lt al
    have al2 := Nat.lt_succ_of_lt al1
    try simp only [Nat.succ_eq_add_one] at al1 al2
    replace hG := hG.after hb
    replace hbel := bl_trans hbel hb
    clear hb
    go_wp2_with fail
    with_reducible refine (HPR.out _).mono ?_
    rintro e w3 ⟨rfl, hb⟩
    (try clear a0 a1 a2 az0 az1 az2 az3)
    replace hA := hA.after hb
    obtain ⟨a0, a1, a2, _⟩ := blk_adr hA
    have az0 := hA.frozen 0
    have az1 := hA.frozen 1
    have az2 := hA.frozen 2
    (try clear al al1 al2)
    have al := hA.lt
    have al1 := Nat.lt_succ_of_lt al
    have al2 := Nat.lt_succ_of_lt al1
    try simp only [Nat.succ_eq_add_one] at al1 al2
    replace hG := hG.after hb
    replace hbel := bl_trans hbel hb
    clear hb
    go_wp2_with fail
    with_reducible refine (HR.out _).mono ?_
    rintro e w4 ⟨rfl, hb⟩
    (try clear a0 a1 a2 az0 az1 az2 az3)
    replace hA := hA.after hb
    obtain ⟨a0, a1, a2, _⟩ := blk_adr hA
    have az0 := hA.frozen 0
    have az1 := hA.frozen 1
    have az2 := hA.frozen 2
    (try clear al al1 al2)
    have al := hA.lt
    have al1 := Nat.lt_succ_of_lt al
    have al2 := Nat.lt_succ_of_lt al1
    try simp only [Nat.succ_eq_add_one] at al1 al2
    replace hG := hG.after hb
    replace hbel := bl_trans hbel hb
    clear hb
    go_wp2_with fail
    go_ret
    exact ⟨rfl, hbel⟩
end Go.Proofs.YtgdgklibilddgaaDoor
